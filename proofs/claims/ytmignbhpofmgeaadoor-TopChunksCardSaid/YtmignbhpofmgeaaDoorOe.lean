/- A part of the reader. -/
import Derived.Test.YtmignbhpofmgeaaDoorProg
import Derived.Below
import Derived.Deep.Draws
import Derived.Deep.AppendLies
import Derived.Maps.AppendAt
import Derived.OwnWalk
import Derived.Laws.BytesArg
import Derived.Laws.MakeOwn
import Derived.Laws.OwnMore
import Derived.Deep.OwnRows
import Derived.Tactics
import Derived.Lib.ConvBytes
import Derived.Laws.Slices
import Derived.WalkKit
import Derived.KernelRfl
import Derived.RowKit3
import Derived.Deep.LoopGhost
import Derived.Deep.QuietTactic
import Derived.BigQuiet
import Derived.WideLaws
import Derived.Deep.DeepCutAuto
import Derived.Deep.CutBlock
import Derived.Deep.RegionHeld3
import Derived.Laws.Rows
import Derived.Lib.AppendStr
import Derived.ArgAppend
import Derived.Laws.IdiomCopy
import Derived.OrdersHeld
import Derived.Laws.BitsLemmas
import Derived.RowKit
import Derived.Test.YtmignbhpofmgeaaDoorWWords
import Derived.Test.YtmignbhpofmgeaaDoorWLast
import Derived.Test.YtmignbhpofmgeaaDoorWTab
import Derived.Test.YtmignbhpofmgeaaDoorWFour
import Derived.Test.YtmignbhpofmgeaaDoorWQPut
import Derived.Test.YtmignbhpofmgeaaDoorWApart
import Derived.Test.YtmignbhpofmgeaaDoorWArr
import Derived.Test.YtmignbhpofmgeaaDoorWZeros
import Derived.Test.YtmignbhpofmgeaaDoorWFoot
import Derived.Test.YtmignbhpofmgeaaDoorWKept
import Derived.Test.YtmignbhpofmgeaaDoorWShare
import Derived.Test.YtmignbhpofmgeaaDoorWN
import Derived.Test.YtmignbhpofmgeaaDoorWFootNe
import Derived.Test.YtmignbhpofmgeaaDoorWAt
import Derived.Test.YtmignbhpofmgeaaDoorWEqStruct
import Derived.Test.YtmignbhpofmgeaaDoorWRepsOne
import Derived.Test.YtmignbhpofmgeaaDoorWInv
import Derived.Test.YtmignbhpofmgeaaDoorWInvWords
import Derived.Test.YtmignbhpofmgeaaDoorWGuard
import Derived.Test.YtmignbhpofmgeaaDoorWNEv
import Derived.Test.YtmignbhpofmgeaaDoorWMore
import Derived.Test.YtmignbhpofmgeaaDoorIter
import Derived.RangeFuncBox
import Derived.Lib.ConvBytes
import Derived.Test.YtmignbhpofmgeaaDoorOd
namespace Go.Proofs.YtmignbhpofmgeaaDoor.Top
open Go.RowKit Go.Proofs.YtmignbhpofmgeaaDoorW.PrintWords Go.Proofs.YtmignbhpofmgeaaDoorW.PrintLast Go.Proofs.YtmignbhpofmgeaaDoorW.PrintMore Go.Proofs.YtmignbhpofmgeaaDoor.Iter
set_option linter.unusedVariables false
set_option linter.unusedSimpArgs false

/-- The pieces, as they lie. -/
theorem strs_form {w : World} {base : Nat} {ok : Nat → Prop} {v : Value} {xs : List ByteArray} (h : Kd.string.R 9 w base ok v xs) :
    ∃ A cap, v = .slice A xs.length cap ∧ ∀ (i : Nat) (x : ByteArray), xs[i]? = some x → ∃ g, A = some ⟨g, 0, none⟩ ∧ base ≤ g ∧ g < w.heap.size ∧ w.cell? ⟨g, i, none⟩ = some (.string x) := by
  by_cases hp : 0 < xs.length
  · obtain ⟨g, cap, rfl, h1, h2, _⟩ := Kd.R_form h hp
    refine ⟨_, _, rfl, fun i x hi => ⟨g, rfl, h1, h2, ?_⟩⟩
    have hil : i < xs.length := (List.getElem?_eq_some_iff.1 hi).1
    have hc := (Kd.R_cell ByteArray.empty h (i : Int) (by omega) (by omega)).1
    rw [Int.toNat_natCast] at hc
    rw [hc]
    simp [rdOf, hi]
  · obtain ⟨A, c, rfl⟩ := Kd.R_slice h
    exact ⟨_, _, rfl, fun i x hi => by have := (List.getElem?_eq_some_iff.1 hi).1; omega⟩
/-- The final state of a reader that was fed a text and closed. -/
def finR (de qu en F Fs Rl : Int) (U : Bool) (s : ByteArray) : RS := closeR (feedL (bytesOf s) (initR de qu en F Fs Rl U))
/-- Records that lie. -/
def TabAt (W : World) (qv : Value) (ls : List (List ByteArray)) : Prop := ∃ rows, W.ownsRow 0 61 1 qv ls.length rows ∧ rows.length = ls.length ∧ ∀ (i : Nat) (v : Value) (l : List ByteArray), rows[i]? = some v → ls[i]? = some l → W.ownsRow 0 9 1 v l.length (l.map Value.string)
theorem fed_small (de qu en F Fs Rl : Int) (U : Bool) (k3 : F ≤ 2147483648) (xs : List Int) : Small (8 * xs.length) (feedL xs (initR de qu en F Fs Rl U)) ∧ Rowed (8 * xs.length) (feedL xs (initR de qu en F Fs Rl U)) ∧ (feedL xs (initR de qu en F Fs Rl U)).closed = false ∧ ((feedL xs (initR de qu en F Fs Rl U)).closed = true ∨ (feedL xs (initR de qu en F Fs Rl U)).fk ≠ 0 ∨ Fine xs.length (feedL xs (initR de qu en F Fs Rl U))) := by
  have hN0 : Small 0 (initR de qu en F Fs Rl U) := ⟨k3, Nat.le_refl _, Nat.le_refl _⟩
  have hM0 : Fine 0 (initR de qu en F Fs Rl U) := ⟨Int.le_refl _, Int.le_refl _, Int.le_refl _, by show (0 : Int) ≤ 2; decide, by show 0 < 8; decide⟩
  have hR0 : Rowed 0 (initR de qu en F Fs Rl U) := ⟨Nat.le_refl _, fun l hl => by cases hl⟩
  refine ⟨?_, ?_, (feedL_fk xs _).2, ?_⟩
  · have := feedL_small xs 0 0 _ hN0 hM0; rw [Nat.zero_add] at this; exact this
  · have := Rowed.feedL xs 0 0 _ hR0 hM0; rw [Nat.zero_add] at this; exact this
  · by_cases hk : (feedL xs (initR de qu en F Fs Rl U)).fk = 0
    · have := feedL_fine xs 0 _ hM0 rfl hk
      rw [Nat.zero_add] at this
      exact .inr (.inr this)
    · exact .inr (.inl hk)
/-- A reader's cells behind some hand-outs. -/
def csJ (r : RS) (x : RV) (gv : Int) (q : Value) : Array Value := ({ r with given := gv }).cells { x with qv := q }
def lenOf : Value → Nat
  | .slice _ n _ => n
  | _ => 0
theorem results_t_c_t35 {fn : Func} {p u v : Tmp} (h : fn.results = #[.tmp u, .cell p 35, .tmp v]) (tmps : Array Value) (w : World) (g : Nat) (a b : Value)
    (hp : tmps.getD p undef = .pointer (some ⟨g, 0, none⟩)) (hg : w.heap[g]? = some (.cells #[a, b] 35 (0, 0))) :
    (results fn tmps).run Tryd.prog w = .ok (.tuple #[tmps.getD u undef, .agg #[a, b], tmps.getD v undef]) w := by
  have hp' : tmps[p]?.getD undef = .pointer (some ⟨g, 0, none⟩) := by simpa using hp
  simp [results, h, hp', asAddr, load35 w g a b hg]
set_option maxRecDepth 100000 in
set_option maxHeartbeats 16000000 in
theorem fed_calls (n0 : Nat) (de qu en F Fs Rl : Int) (U : Bool) (s : ByteArray) (A1 : Option Addr) (l1 : List Int) (c1 : Nat) (W : World) (hU : Utf n0 W) (k1 : PTopSticky.dialect_Check.f de qu en = some 0) (k2 : PTopSticky.dialect_CheckLimits.f F Fs Rl U = some 0) (k3 : F ≤ 2147483648) (hs : s.size ≤ 300) (hl : l1.length ≤ 100)
    (hr1 : Kd.C (Kd.int .i64) W A1 l1.length l1) (hc1 : l1.length ≤ c1) :
    Calls Tryd.prog 14 #[.agg #[.int .u8 de, .int .u8 qu, .int .i64 en], .agg #[.int .i64 F, .int .i64 Fs, .int .i64 Rl, .bool U], .string s, .slice A1 l1.length c1] W
      (fun e w' => ∃ qv, e = .returned (.tuple #[qv, fltV (finR de qu en F Fs Rl U s), .bool true]) ∧ TabAt w' qv (finR de qu en F Fs Rl U s).ready ∧ Acts (fun _ => False) W w') := by
  obtain ⟨W1, hW1⟩ : ∃ W1, ((W.alloc (.cells #[.int .u8 de, .int .u8 qu, .int .i64 en] 23)).alloc (.cells #[.int .i64 F, .int .i64 Fs, .int .i64 Rl, .bool U] 25)).alloc (.cells #[.int .i64 0, .int .i64 0] 35) = W1 := ⟨_, rfl⟩
  have hA1 : Acts (fun _ => False) W W1 := by rw [← hW1]; exact ((Acts.alloc (fun _ => False) _ _).trans (Acts.alloc (fun _ => False) _ _) (fun _ h => .inl h)).trans (Acts.alloc (fun _ => False) _ _) (fun _ h => .inl h)
  have hx : W1.heap[W.heap.size]? = some (.cells #[.int .u8 de, .int .u8 qu, .int .i64 en] 23 (0, 0)) := by rw [← hW1]; exact blk_alloc (blk_alloc (by simpa using heap_alloc_new W (.cells #[.int .u8 de, .int .u8 qu, .int .i64 en] 23)) _) _
  have hy : W1.heap[W.heap.size + 1]? = some (.cells #[.int .i64 F, .int .i64 Fs, .int .i64 Rl, .bool U] 25 (0, 0)) := by rw [← hW1]; exact blk_alloc (by simpa using heap_alloc_new (W.alloc (.cells #[.int .u8 de, .int .u8 qu, .int .i64 en] 23)) (.cells #[.int .i64 F, .int .i64 Fs, .int .i64 Rl, .bool U] 25)) _
  have hz : W1.heap[W.heap.size + 2]? = some (.cells #[.int .i64 0, .int .i64 0] 35 (0, 0)) := by rw [← hW1]; simpa using heap_alloc_new ((W.alloc (.cells #[.int .u8 de, .int .u8 qu, .int .i64 en] 23)).alloc (.cells #[.int .i64 F, .int .i64 Fs, .int .i64 Rl, .bool U] 25)) (.cells #[.int .i64 0, .int .i64 0] 35)
  have x0 := (blk_cell hx 0).trans rfl
  have x1 := (blk_cell hx 1).trans rfl
  have x2 := (blk_cell hx 2).trans rfl
  have y0 := (blk_cell hy 0).trans rfl
  have y1 := (blk_cell hy 1).trans rfl
  have y2 := (blk_cell hy 2).trans rfl
  have y3 := (blk_cell hy 3).trans rfl
  obtain ⟨r, ⟨kb, hby⟩, hrl, hall⟩ := Pure.by_tells s l1 hs hl
  have HU : Hid (Utf n0 W) := hU
  have HA1 : Hid (Acts (fun _ => False) W W1) := hA1
  have HZ : Hid (W1.heap[W.heap.size + 2]? = _) := hz
  have HR1 : Hid (Kd.C (Kd.int .i64) W A1 l1.length l1) := hr1
  have hflat : (r.map bytesOf).flatten = bytesOf s := by rw [← bytesOf_all, hall]
  clear hU hA1 hz hr1 hx hy
  have hn := rnew_calls de qu en F Fs Rl U W1 k1 k2
  obtain ⟨fin, hF⟩ : ∃ fin, finR de qu en F Fs Rl U s = fin := ⟨_, rfl⟩
  rw [hF]
  have HF : Hid (finR de qu en F Fs Rl U s = fin) := hF
  clear hF
  go_enter Tryd.func14, Tryd.ntmps14
  go_wp2_with (first
    | (go_at_call 8; ((with_reducible refine hn.mono ?_); rintro e w3 ⟨⟨R, S, B, fv, rv, qv⟩, rfl, hRA, hA3⟩; clear hn; have HRA : Hid (RAt W1.heap.size _ _ w3) := hRA; have HA3 : Hid (Acts (fun _ => False) W1 w3) := hA3; have hA03 := HA1.out.trans hA3 (fun _ h => .inl h); have hbc := PTopChunks.quillpenref07_By.calls kb s A1 c1 l1 r w3 (Kd.C_below HR1.out (hA03.below (Nat.le_refl _) (fun _ _ h => h))) hc1 (hby kb (Nat.le_refl _)); clear hRA hA3 hA03))
    | (go_at_call 32; ((with_reducible refine hbc.mono ?_); rintro e w4 ⟨bv, rfl, hbR, hbB⟩; clear hbc; obtain ⟨bA, bcap, rfl, hbf⟩ := strs_form hbR; have HBF : Hid (∀ (i : Nat) (x : ByteArray), r[i]? = some x → ∃ g, bA = some ⟨g, 0, none⟩ ∧ w3.heap.size ≤ g ∧ g < w4.heap.size ∧ w4.cell? ⟨g, i, none⟩ = some (.string x)) := hbf; have HA4 : Hid (Acts (fun _ => False) w3 w4) := Acts.of_below hbB; clear hbR hbB hbf)))
  have HG0 : Hid (RGo W1.heap.size ⟨R, S, B, fv, rv, qv⟩ w4 (initR de qu en F Fs Rl U) ⟨R, S, B, fv, rv, qv⟩ w4) := RGo.refl (HRA.out.acts HA4.out)
  have HP0 : Hid (initR de qu en F Fs Rl U = feedP ((r.take 0).map bytesOf) (initR de qu en F Fs Rl U)) := rfl
  have HFL : Hid ((r.map bytesOf).flatten = bytesOf s) := hflat
  have HAW4 : Hid (Acts (fun _ => False) W w4) := (HA1.out.trans HA3.out (fun _ h => .inl h)).trans HA4.out (fun _ h => .inl h)
  clear hflat hall hby x0 x1 x2 y0 y1 y2 y3
  obtain ⟨n, hnr⟩ : ∃ n, r.length = n := ⟨_, rfl⟩
  have HNR : Hid (r.length = n) := hnr
  rw [hnr] at hrl ⊢
  clear hnr
  go_loopw [36] (fun y wl => ∃ (i : Nat) (x' : RV) (r' : RS), i ≤ n ∧ y = .int .i64 i ∧ Hid (RGo W1.heap.size ⟨R, S, B, fv, rv, qv⟩ w4 r' x' wl) ∧ Hid (r' = feedP ((r.take i).map bytesOf) (initR de qu en F Fs Rl U))) (fun y _ => n - (intOf y).toNat)
  case atStart => exact ⟨0, _, _, Nat.zero_le _, rfl, HG0, HP0⟩
  case round =>
    obtain ⟨i, x', r', hi, rfl, HG, HP⟩ := hrel
    have hRR := HG.out.new.R
    obtain ⟨R', S', B', fv', rv', qv'⟩ := x'
    dsimp only at hRR
    have hRR2 := hRR.symm
    clear hRR
    subst hRR2
    have hUw : Utf W1.heap.size wr := ((HU.out.acts HAW4.out (fun _ h => h.elim)).up (Nat.le_trans HU.out.1 HA1.out.size) (Nat.le_trans HA3.out.size HA4.out.size)).acts HG.out.acts (fun k hk => HRA.out.low k hk)
    by_cases hlt0 : i < n
    · obtain ⟨p, hp⟩ : ∃ p, r[i]? = some p := ⟨_, List.getElem?_eq_getElem (by rw [HNR.out]; exact hlt0)⟩
      obtain ⟨g, hbA, hg1, hg2, hcell⟩ := HBF.out i p hp
      subst hbA
      have hgw : wr.cell? ⟨g, i, none⟩ = some (.string p) := (cell_same (HG.out.acts.same g hg2 (fun e => by have := HRA.out.rc_lt g e; omega))).trans hcell
      have htk : r.take (i + 1) = r.take i ++ [p] := by
        obtain ⟨h1, h2⟩ := List.getElem?_eq_some_iff.1 hp
        rw [List.take_succ_eq_append_getElem h1, h2]
      have hfl : ((r.take (i + 1)).map bytesOf).flatten.length ≤ s.size := by
        have h1 : ((r.take (i + 1)).map bytesOf).flatten ++ ((r.drop (i + 1)).map bytesOf).flatten = bytesOf s := by
          rw [← List.flatten_append, ← List.map_append, List.take_append_drop]; exact HFL.out
        have h2 := congrArg List.length h1
        rw [List.length_append, bytesOf_len] at h2
        omega
      rw [htk, List.map_append, List.flatten_append, List.length_append] at hfl
      simp only [List.map_cons, List.map_nil, List.flatten_cons, List.flatten_nil, List.append_nil] at hfl
      have hsm := fed_small de qu en F Fs Rl U k3 ((r.take i).map bytesOf).flatten
      rw [← feedP_all _ _ rfl rfl, ← HP.out] at hsm
      have HP2 : Hid (feedB (bytesOf p) r' = feedP ((r.take (i + 1)).map bytesOf) (initR de qu en F Fs Rl U)) := by
        show _ = _
        rw [htk, List.map_append, feedP, List.foldl_append]
        show _ = feedB (bytesOf p) (feedP ((r.take i).map bytesOf) (initR de qu en F Fs Rl U))
        rw [← HP.out]
      obtain ⟨v5, hv5⟩ : ∃ v, Value.slice (some ⟨wr.heap.size, 0, none⟩) p.size (grownCap wr p.size 0 5) = v := ⟨_, rfl⟩
      obtain ⟨w5, hw5⟩ : ∃ w, Lib.bytesWorld wr 5 p = w := ⟨_, rfl⟩
      have hconv := Lib.run_convert_string_bytes (P := Tryd.prog) wr 9 37 5 p (u := .string) (by kernel_rfl) Tryd.underlying37 (by kernel_rfl)
      have hba := barg_conv HG.out.it p
      have hA5 := acts_bytesWorld wr 5 p
      rw [hv5, hw5] at hconv hba
      rw [hw5] at hA5
      clear hv5 hw5
      have hR5 := HG.out.it.acts hA5
      have hfd := rfeed_calls W1.heap.size _ r' (bytesOf p) v5 (8 * ((r.take i).map bytesOf).flatten.length) ((r.take i).map bytesOf).flatten.length w5 hR5 (hUw.acts hA5 (fun _ h => h.elim)) hsm.1 (by omega) hsm.2.2.2 (by omega) hba
      have HG5 : Hid (RGo W1.heap.size _ w4 _ _ w5) := HG.out.more hA5
      clear hR5 hA5 hba hsm htk hcell hUw HP hfl
      dsimp only at hfd
      go_wp2_with (first
        | (go_at_call 9; ((with_reducible refine hfd.mono ?_); rintro e w6 ⟨rfl, x6, hg6⟩; have HG6 : Hid (RGo W1.heap.size _ w4 _ _ w6) := HG5.out.trans hg6; clear hg6 HG5 hfd))
      )
      go_roundw
      case rel => exact ⟨i + 1, _, _, by omega, by go_num, HG6, HP2⟩
      case measure => simp [intOf]; omega
    · obtain rfl : i = n := by omega
      have hr1 : r' = feedL (bytesOf s) (initR de qu en F Fs Rl U) := by
        rw [HP.out, List.take_of_length_le (by rw [HNR.out]; exact Nat.le_refl _), feedP_all _ _ rfl rfl, HFL.out]
      have hsm := fed_small de qu en F Fs Rl U k3 (bytesOf s)
      rw [← hr1, bytesOf_len] at hsm
      have hcl := rclose_calls W1.heap.size _ r' (8 * s.size) s.size wr HG.out.it hsm.1 (by omega) hsm.2.2.2 (by omega)
      have hfin : closeR r' = finR de qu en F Fs Rl U s := by rw [hr1]; rfl
      rw [hfin] at hcl
      have hSc := Small.close (M := s.size) hsm.1 hsm.2.2.2
      rw [hfin] at hSc
      have hml : (finR de qu en F Fs Rl U s).ready.length ≤ 8 * s.size + 8 := hSc.2.2
      clear hfin hsm hr1 hUw hSc
      rw [HF.out] at hcl hml
      simp only [fltV] at hcl
      go_wp2_with (first
        | (go_at_call 12; ((with_reducible refine hcl.mono ?_); rintro e w7 ⟨rfl, ⟨R7, S7, B7, fv7, rv7, qv7⟩, hg7⟩; have hR7 := hg7.new.R.symm; dsimp only at hR7; subst hR7; have HG7 : Hid (RGo W1.heap.size _ w4 _ _ w7) := HG.out.trans hg7; clear hg7 hcl))
      )
      have HR7 := HG7
      have hA78 : Acts (fun _ => False) w7 (w7.alloc (.cells #[.int .i64 fin.fk, .int .i64 fin.fat] 35)) := Acts.alloc _ _ _
      have hB15 : (w7.alloc (.cells #[.int .i64 fin.fk, .int .i64 fin.fat] 35)).heap[w7.heap.size]? = some (.cells #[.int .i64 fin.fk, .int .i64 fin.fat] 35 (0, 0)) := by simpa using heap_alloc_new w7 (.cells #[.int .i64 fin.fk, .int .i64 fin.fat] 35)
      obtain ⟨w8, hw8⟩ : ∃ w8, w7.alloc (.cells #[.int .i64 fin.fk, .int .i64 fin.fat] 35) = w8 := ⟨_, rfl⟩
      rw [hw8] at hA78 hB15 ⊢
      clear hw8
      have hR8 := HG7.out.it.acts hA78
      obtain ⟨rows, hq8, hr8⟩ := hR8.que
      dsimp only at hq8 hr8
      obtain ⟨qa, qc, hqv, hqc⟩ := slice_cap hq8
      obtain ⟨m, hm⟩ : ∃ m, fin.ready.length = m := ⟨_, rfl⟩
      have hobj8 := hR8.obj
      rw [hm] at hq8 hqv hqc hml
      subst hqv
      have hsz78 := hA78.size
      have hRlt := hR8.lt
      dsimp only at hRlt hobj8
      have hz4 := ((HA3.out.trans HA4.out (fun _ h => .inl h)).same _ (blk_lt HZ.out) (fun h => h)).trans HZ.out
      have hz7 := (HG7.out.acts.same _ (blk_lt hz4) (fun e => by have := HRA.out.low _ e; have := blk_lt HZ.out; omega)).trans hz4
      have hz8 := (hA78.same _ (blk_lt hz7) (fun h => h)).trans hz7
      have hRz : R ≠ W.heap.size + 2 := fun e => by have := HRA.out.low R (.inl rfl); have := blk_lt HZ.out; omega
      have hAW8 : Acts (fun _ => False) W w8 := (HAW4.out.trans HG7.out.acts (fun j hj => .inr (by have := HRA.out.low _ hj; have := HA1.out.size; omega))).trans hA78 (fun _ h => .inl h)
      have HQ : Hid (∀ (j : Nat) (v : Value), rows[j]? = some v → ∃ gq, qa = some ⟨gq, 0, none⟩ ∧ gq < w8.heap.size ∧ gq ≠ R ∧ w8.cell? ⟨gq, j, none⟩ = some v) := fun j v hj => by
        obtain ⟨gq, cap, e1, e2, e3⟩ := owns_cell hq8 j v hj
        simp only [Value.slice.injEq] at e1
        refine ⟨gq, e1.1, e3, fun e => ?_, e2⟩
        have := hR8.ne.2.2.2.2
        rw [e1.1, e] at this
        exact this rfl
      have HRW : Hid (rows.length = m ∧ ∀ (i : Nat) (v : Value) (l : List ByteArray), rows[i]? = some v → fin.ready[i]? = some l → w8.ownsRow 0 9 1 v l.length (l.map Value.string)) := ⟨by rw [hr8.1]; exact hm, fun i v l hi hl => (hr8.2 i v l hi hl).1⟩
      have HB15 : Hid (w8.heap[w7.heap.size]? = some (.cells #[.int .i64 fin.fk, .int .i64 fin.fat] 35 (0, 0))) := hB15
      have HZ8 : Hid (w8.heap[W.heap.size + 2]? = some (.cells #[.int .i64 0, .int .i64 0] 35 (0, 0))) := hz8
      have HAW8 : Hid (Acts (fun _ => False) W w8) := hAW8
      have HO8 : Hid (w8.heap[R]? = some (.cells (csJ fin ⟨R, S7, B7, fv7, rv7, .slice none 0 0⟩ fin.given (.slice qa (m - 0) qc)) 69 (0, 0))) := hobj8
      have HR78 : Hid (w7.heap.size < w8.heap.size ∧ R < w7.heap.size) := ⟨blk_lt hB15, HG7.out.it.lt⟩
      have HT0 : Hid (w8.ownsRow 0 61 1 (.slice none 0 0) 0 (rows.take 0)) := World.ownsRow_nil _ _ _ _
      have HM : Hid (fin.ready.length = m) := hm
      clear hR8 hq8 hr8 hobj8 hz4 hz7 hz8 hAW8 hB15 hA78 HR7 hsz78 hm
      go_loopw [16] (fun y wl => ∃ (j : Nat) (a : Option Addr) (c : Nat) (gv : Int) (tv : Value), j ≤ m ∧ y = tv ∧ Hid (lenOf tv = j ∧ m - j ≤ c ∧ (j < m → ∀ gq, qa = some ⟨gq, 0, none⟩ → a = some ⟨gq, j, none⟩) ∧ wl.heap[R]? = some (.cells (csJ fin ⟨R, S7, B7, fv7, rv7, .slice none 0 0⟩ gv (.slice a (m - j) c)) 69 (0, 0)) ∧ wl.ownsRow 0 61 1 tv j (rows.take j) ∧ (∀ k, tv.ownBlock = some k → w8.heap.size ≤ k) ∧ Acts (fun k => k = R) w8 wl)) (fun y _ => m - lenOf y)
      case atStart => exact ⟨0, qa, qc, fin.given, .slice none 0 0, Nat.zero_le _, rfl, rfl, (by omega), (fun _ gq e => e), HO8.out, HT0.out, (fun k hk => by simp [Value.ownBlock] at hk), Acts.refl _ _⟩
      case round =>
        obtain ⟨j, a, c, gv, tv, hj, rfl, HJ⟩ := hrel
        obtain ⟨j1, j2, j3, j4, j5, j6, j7⟩ := HJ.out
        obtain ⟨ta, tc, rfl⟩ := slice_len j5
        have hRt : (Value.slice ta j tc).ownBlock ≠ some R := fun e => by have := j6 R e; have := HR78.out; omega
        by_cases hlt : j < m
        · obtain ⟨v, hv⟩ : ∃ v, rows[j]? = some v := ⟨_, List.getElem?_eq_getElem (by rw [HRW.out.1]; exact hlt)⟩
          obtain ⟨l, hl2⟩ : ∃ l, fin.ready[j]? = some l := ⟨_, List.getElem?_eq_getElem (by rw [HM.out]; exact hlt)⟩
          have hvl := HRW.out.2 j v l hv hl2
          obtain ⟨oa, oc, rfl⟩ := slice_len hvl
          obtain ⟨gq, hqa, hgl, hgR, hcq⟩ := HQ.out j _ hv
          have ha := j3 hlt gq hqa
          obtain ⟨k, hk⟩ : ∃ k, m - j = k + 1 := ⟨m - j - 1, by omega⟩
          rw [hk] at j4 j2
          rw [ha] at j4
          have hcw := (cell_same (j7.same gq hgl hgR)).trans hcq
          have hnx := next_one R _ gq j k c gv (.slice oa l.length oc) wr j4 rfl rfl j2 (by omega) oa l.length oc hcw hgR
          obtain ⟨i0, hi0, hz0, hz1, hz2⟩ := info_parts elem61
          have htk : rows.take (j + 1) = rows.take j ++ [.slice oa l.length oc] := by
            obtain ⟨h1, h2⟩ := List.getElem?_eq_some_iff.1 hv
            rw [List.take_succ_eq_append_getElem h1, h2]
          have HTK : Hid (rows.take (j + 1) = rows.take j ++ [.slice oa l.length oc]) := htk
          have HJ4 : Hid (wr.heap[R]? = _) := j4
          have HJ5 : Hid (wr.ownsRow 0 61 1 (.slice ta j tc) j (rows.take j)) := j5
          have HJ6 : Hid (∀ k, (Value.slice ta j tc).ownBlock = some k → w8.heap.size ≤ k) := j6
          have HJ7 : Hid (Acts (fun k => k = R) w8 wr) := j7
          have HJ3 : Hid (j < m → ∀ gq, qa = some ⟨gq, 0, none⟩ → a = some ⟨gq, j, none⟩) := j3
          have HHK : Hid (m - j = k + 1 ∧ k + 1 ≤ c) := ⟨hk, j2⟩
          have HQA : Hid (qa = some ⟨gq, 0, none⟩) := hqa
          clear hvl htk j4 j5 j6 j7 j3 hcw hcq ha hqa HJ hk
          go_wp2_with (first
            | (go_at_call 33; ((with_reducible refine hnx.mono ?_); rintro e w9 ⟨rfl, a', rfl, ha'⟩; have HA9 : Hid (k ≠ 0 → a' = some ⟨gq, j + 1, none⟩) := ha'; clear hnx ha'; obtain ⟨w9, hw9⟩ : ∃ w9, ((wr.setCell ⟨R, 11, none⟩ (.slice a' k (c - 1))).setCell ⟨R, 12, none⟩ (.int .i64 (wrap64 (gv + 1)))) = w9 := ⟨_, rfl⟩; rw [hw9]; have hA9 : Acts (fun k => k = R) wr w9 := (by rw [← hw9]; exact (acts_set (B := R) wr 11 _).trans (acts_set (B := R) _ 12 _) (fun _ h => .inl h)); have hO9 : w9.heap[R]? = some (.cells (csJ fin ⟨R, S7, B7, fv7, rv7, .slice none 0 0⟩ (wrap64 (gv + 1)) (.slice a' k (c - 1))) 69 (0, 0)) := (by rw [← hw9, blk_set (blk_set HJ4.out 11 _) 12 _]; rfl); have hT9 := owns_keep (W' := w9) HJ5.out (fun k e => hA9.same k (row_lt HJ5.out k e) (fun e' => hRt (e' ▸ e))); clear hw9))
            | (at_builtin; refine wpList_append_own_at _ rfl _ _ 44 rfl 0 61 i0 (.slice none 0 0) 1 24 Tryd.underlying44 hi0 hz0 hz1 hz2 rfl (by decide) _ j _ rfl (World.ownsRow.alloc hT9 _) ⟨w9.heap.size, 0, none⟩ 1 1 [.slice oa l.length oc] rfl rfl (cell_one_new w9 _ _) (by simp [Value.oneCell']) (by simp [maxLen]; omega) (by omega) (by simp) ?_; intro v' w10 hown hgrow hnil hat; have HOW : Hid (w10.ownsRow 0 61 1 v' (j + 1) (rows.take (j + 1))) := (by rw [HTK.out]; exact hown); have HG9 : Hid ((World.alloc w9 _).grownBy w10 _) := hgrow; have HAT : Hid (v'.ownBlock = _ ∨ v'.ownBlock = _) := hat; have HO9 : Hid (w9.heap[R]? = _) := hO9; have HAC9 : Hid (Acts (fun k => k = R) wr w9) := hA9; clear hown hgrow hnil hat hO9 hA9 hT9))
          obtain ⟨ga, gc, rfl⟩ := ownsRow_succ HOW.out
          have hgr := grown_acts HG9.out
          have hs9 := HAC9.out.size
          have hs8 := HJ7.out.size
          go_roundw
          case rel =>
            refine ⟨j + 1, a', c - 1, wrap64 (gv + 1), _, by omega, rfl, rfl, by have := HHK.out; omega, fun hlt2 gq2 e2 => ?_, ?_, HOW.out, fun k2 hk2 => ?_, ?_⟩
            · have h1 := HA9.out (by have := HHK.out; omega)
              have h2 := HQA.out.symm.trans e2
              simp only [Option.some.injEq, Addr.mk.injEq, and_true] at h2
              rw [h1, h2]
            · rw [show m - (j + 1) = k by have := HHK.out; omega]
              exact (hgr.same R (blk_lt HO9.out) hRt).trans HO9.out
            · rcases HAT.out with e | e
              · exact HJ6.out k2 (e ▸ hk2)
              · rw [e] at hk2
                obtain rfl := Option.some.inj hk2
                have h9 : w9.heap.size ≤ (w9.alloc (.cells #[.slice oa l.length oc] 61)).heap.size := (Acts.alloc (fun _ => False) _ _).size
                omega
            · exact (HJ7.out.trans HAC9.out (fun _ h => .inl h)).trans hgr (fun k2 hk2 => .inr (HJ6.out k2 hk2))
          case measure => simp [lenOf]; omega
        · have hjm : j = m := by omega
          rw [show m - j = 0 by omega] at j4
          have hnx := next_none R _ a c wr j4 rfl
          have HB15w := (j7.same w7.heap.size HR78.out.1 (by have := HR78.out; omega)).trans HB15.out
          have hZ := (j7.same (W.heap.size + 2) (blk_lt HZ8.out) (Ne.symm hRz)).trans HZ8.out
          have l0 := (blk_cell hZ 0).trans rfl
          have l1 := (blk_cell hZ 1).trans rfl
          have k0 := blk_frozen hZ 0
          have k1' := blk_frozen hZ 1
          obtain ⟨wE, hwE⟩ : ∃ wE, (wr.drew.setCell ⟨W.heap.size + 2, 0, none⟩ (.int .i64 fin.fk)).setCell ⟨W.heap.size + 2, 1, none⟩ (.int .i64 fin.fat) = wE := ⟨_, rfl⟩
          have hZE : wE.heap[W.heap.size + 2]? = some (.cells #[.int .i64 fin.fk, .int .i64 fin.fat] 35 (0, 0)) := by rw [← hwE]; exact flt_stored (W := wr.drew) hZ _ _
          have hAE : Acts (fun k => k = W.heap.size + 2) wr wE := by rw [← hwE]; exact (Acts.drew (fun k => k = W.heap.size + 2) wr).trans (flt_acts wr.drew _ _ _) (fun _ h => .inl h)
          have HJ5 : Hid (wr.ownsRow 0 61 1 (.slice ta j tc) j (rows.take j)) := j5
          have HJ7 : Hid (Acts (fun k => k = R) w8 wr) := j7
          clear j3 j4 j5 j6 j7 HJ
          go_wp2_with (go_at_call 33; ((with_reducible refine hnx.mono ?_); rintro e w9 ⟨rfl, rfl⟩; clear hnx))
          refine start_ (n := 5) (S := fun w' => w'.heap[w7.heap.size]? = some (.cells #[.int .i64 fin.fk, .int .i64 fin.fat] 35 (0, 0))) (ds := [3]) #[false, false, false, false, false] (by kernel_rfl) rfl rfl (HB15w) (fun hHeld => ?_)
          refine pure_ (i := 0) (N := some 54) (v := ?_) (a' := ?_) #[true, false, false, false, false] rfl rfl (by kernel_rfl) (fun _ _ _ h => h) (Or.inl ⟨by rfl, ?_⟩) ?_ ?_
          rotate_left
          · intro w'
            go_simp
            with_reducible rfl
          rotate_left
          · simp only [Act.put, List.setIfInBounds_toArray, List.set_cons_zero, List.set_cons_succ]
            rfl
          refine take_ (i := 1) (N := some 55) (v := ?_) (a' := ?_) #[true, true, false, false, false] rfl rfl (by kernel_rfl) (fun _ _ _ h => h) (Or.inl ⟨by rfl, ?_⟩) hHeld ?_ ?_
          rotate_left
          · intro w' s0
            have y0 := (blk_cell s0 0).trans rfl
            have y1 := (blk_cell s0 1).trans rfl
            clear s0
            go_simp
            with_reducible rfl
          rotate_left
          · simp only [Act.put, List.setIfInBounds_toArray, List.set_cons_zero, List.set_cons_succ]
            rfl
          refine pure_ (i := 2) (N := some 8) (v := ?_) (a' := ?_) #[true, true, true, false, false] rfl rfl (by kernel_rfl) (fun _ _ _ h => h) (Or.inl ⟨by rfl, ?_⟩) ?_ ?_
          rotate_left
          · intro w'
            go_simp
            with_reducible rfl
          rotate_left
          · simp only [Act.put, List.setIfInBounds_toArray, List.set_cons_zero, List.set_cons_succ]
            rfl
          refine last_ (i := 3) (N := none) #[true, true, true, true, false] rfl rfl (by kernel_rfl) (by decide) (fun K hK => ?_)
          refine skip_ (w1 := wE) (by rfl) rfl ?_ ?_
          · rw [← hwE]
            go_simp
          refine hK.out _ _ ?_
          clear hK K
          refine pure_ (i := 4) (N := some 10) (v := ?_) (a' := ?_) #[true, true, true, true, true] rfl rfl (by kernel_rfl) (fun _ _ _ h => h) (Or.inl ⟨by rfl, ?_⟩) ?_ ?_
          rotate_left
          · intro w'
            go_simp
            with_reducible rfl
          rotate_left
          · simp only [Act.put, List.setIfInBounds_toArray, List.set_cons_zero, List.set_cons_succ]
            rfl
          refine done_ (by kernel_rfl) ?_
          clear hHeld
          go_wp2
          refine bodyPost_ret (results_t_c_t35 rfl _ _ (W.heap.size + 2) (.int .i64 fin.fk) (.int .i64 fin.fat) ?_ ?_) ?_ ?_
          · rfl
          · exact hZE
          · rfl
          have hro : rows.take j = rows := List.take_of_length_le (by rw [HRW.out.1]; omega)
          have h5 := HJ5.out
          rw [hro, hjm] at h5
          refine ⟨_, rfl, ⟨rows, ?_, by rw [HRW.out.1, HM.out], fun i v l hi hl => ?_⟩, ?_⟩
          · have := owns_keep h5 (fun k e => hAE.same k (row_lt h5 k e) (fun e' => row_ne h5 hZ (by decide) (e' ▸ e)))
            rw [HM.out]
            exact this
          · have h1 := HRW.out.2 i v l hi hl
            have h2 := owns_keep h1 (fun k e => HJ7.out.same k (row_lt h1 k e) (fun e' => row_ne h1 HO8.out (by decide) (e' ▸ e)))
            exact owns_keep h2 (fun k e => hAE.same k (row_lt h2 k e) (fun e' => row_ne h2 hZ (by decide) (e' ▸ e)))
          · exact (HAW8.out.trans HJ7.out (fun k e => .inr (by have := HRA.out.low R (.inl rfl); have := HA1.out.size; omega))).trans hAE (fun k e => .inr (by omega))
end Go.Proofs.YtmignbhpofmgeaaDoor.Top
