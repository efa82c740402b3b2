/- A part of the reader. -/
import Derived.Test.YtmignbhpofmgeaaDoorProg
import Derived.Below
import Derived.Deep.Draws
import Derived.Deep.AppendLies
import Derived.Maps.AppendAt
import Derived.OwnWalk
import Derived.Laws.BytesArg
import Derived.Laws.MakeOwn
import Derived.Laws.OwnMore
import Derived.Deep.OwnRows
import Derived.Tactics
import Derived.Lib.ConvBytes
import Derived.Laws.Slices
import Derived.WalkKit
import Derived.KernelRfl
import Derived.RowKit3
import Derived.Deep.LoopGhost
import Derived.Deep.QuietTactic
import Derived.BigQuiet
import Derived.WideLaws
import Derived.Deep.DeepCutAuto
import Derived.Deep.CutBlock
import Derived.Deep.RegionHeld3
import Derived.Laws.Rows
import Derived.Lib.AppendStr
import Derived.ArgAppend
import Derived.Laws.IdiomCopy
import Derived.OrdersHeld
import Derived.Laws.BitsLemmas
import Derived.RowKit
import Derived.Test.YtmignbhpofmgeaaDoorWWords
import Derived.Test.YtmignbhpofmgeaaDoorWLast
import Derived.Test.YtmignbhpofmgeaaDoorWTab
import Derived.Test.YtmignbhpofmgeaaDoorWFour
import Derived.Test.YtmignbhpofmgeaaDoorWQPut
import Derived.Test.YtmignbhpofmgeaaDoorWApart
import Derived.Test.YtmignbhpofmgeaaDoorWArr
import Derived.Test.YtmignbhpofmgeaaDoorWZeros
import Derived.Test.YtmignbhpofmgeaaDoorWFoot
import Derived.Test.YtmignbhpofmgeaaDoorWKept
import Derived.Test.YtmignbhpofmgeaaDoorWShare
import Derived.Test.YtmignbhpofmgeaaDoorWN
import Derived.Test.YtmignbhpofmgeaaDoorWFootNe
import Derived.Test.YtmignbhpofmgeaaDoorWAt
import Derived.Test.YtmignbhpofmgeaaDoorWEqStruct
import Derived.Test.YtmignbhpofmgeaaDoorWRepsOne
import Derived.Test.YtmignbhpofmgeaaDoorWInv
import Derived.Test.YtmignbhpofmgeaaDoorWInvWords
import Derived.Test.YtmignbhpofmgeaaDoorWGuard
import Derived.Test.YtmignbhpofmgeaaDoorWNEv
import Derived.Test.YtmignbhpofmgeaaDoorWMore
import Derived.Test.YtmignbhpofmgeaaDoorIter
import Derived.RangeFuncBox
import Derived.Lib.ConvBytes
import Derived.Test.YtmignbhpofmgeaaDoorNd
import Derived.Test.YtmignbhpofmgeaaDoorNb
import Derived.Test.YtmignbhpofmgeaaDoorMz
namespace Go.Proofs.YtmignbhpofmgeaaDoor.Top
open Go.RowKit Go.Proofs.YtmignbhpofmgeaaDoorW.PrintWords Go.Proofs.YtmignbhpofmgeaaDoorW.PrintLast Go.Proofs.YtmignbhpofmgeaaDoorW.PrintMore Go.Proofs.YtmignbhpofmgeaaDoor.Iter
set_option linter.unusedVariables false
set_option linter.unusedSimpArgs false

theorem eq35 (k a k' a' : Int) (w : World) : (binOp BinOp.eql 35 (.agg #[.int .i64 k, .int .i64 a]) (.agg #[.int .i64 k', .int .i64 a'])).run Tryd.prog w = .ok (.bool (k == k' && a == a')) w := by
  go_simp
  by_cases h1 : k = k'
  · by_cases h2 : a = a'
    · simp [h1, h2]
    · simp [h1, h2]
  · simp [h1]
theorem right_parts {de qu en F Fs R : Int} (U : Bool) (h : rightB de qu en F Fs R = true) (hd : 0 ≤ de ∧ de ≤ 255) (hq : 0 ≤ qu ∧ qu ≤ 255) : PTopSticky.dialect_Check.f de qu en = some 0 ∧ PTopSticky.dialect_CheckLimits.f F Fs R U = some 0 ∧ F ≤ 2147483648 := by
  have e1 : wrap64 de = de := w64 (by omega) (by omega)
  have e2 : wrap64 qu = qu := w64 (by omega) (by omega)
  unfold rightB at h
  rw [e1, e2] at h
  simp only [Bool.and_eq_true, Bool.or_eq_true, decide_eq_true_eq] at h
  obtain ⟨⟨⟨h1, h2⟩, h3, h4⟩, ⟨h5, h6⟩, h7⟩ := h
  obtain ⟨a1, a2, a3, a4⟩ := okB_whole h1
  obtain ⟨b1, b2, b3, b4⟩ := okB_whole h2
  have a3' : ¬ de = 10 := by simpa using a3
  have a4' : ¬ de = 13 := by simpa using a4
  have b3' : ¬ qu = 10 := by simpa using b3
  have b4' : ¬ qu = 13 := by simpa using b4
  obtain ⟨c1, c2⟩ := okN_whole h5
  obtain ⟨d1, d2⟩ := okN_whole h6
  obtain ⟨g1, g2⟩ := okN_whole h7
  refine ⟨?_, ?_, by omega⟩
  · have p1 : PTopSticky.dialect_plain.f de = some true := by
      unfold PTopSticky.dialect_plain.f
      rw [if_pos (by omega), if_neg a4']
      simp [a3']
    have p2 : PTopSticky.dialect_plain.f qu = some true := by
      unfold PTopSticky.dialect_plain.f
      rw [if_pos (by omega), if_neg b4']
      simp [b3']
    unfold PTopSticky.dialect_Check.f
    rw [p1, p2]
    simp only [Option.bind_some, if_true]
    rw [if_neg h3, if_neg (by omega), if_neg (by omega)]
  · unfold PTopSticky.dialect_CheckLimits.f
    have m1 : ¬ mn (mn F Fs) R < 1 := by unfold mn; split <;> split <;> omega
    have m2 : ¬ mx (mx F Fs) R > 2147483648 := by unfold mx; split <;> split <;> omega
    rw [if_neg m1, if_neg m2]
theorem cutR_fk (r : RS) (k : Int) (hk : k ≠ 0) : (cutR r k).fk ≠ 0 ∧ (cutR r k).closed = r.closed := by
  obtain ⟨h1, h2, h3, h4, h5⟩ := takeL_keeps (a := r.offset - 1) (n := (closeS r.mark).2.length) (closeS r.mark).2 0 { r with mark := (closeS r.mark).1 }
  unfold cutR
  split
  · exact ⟨hk, h3⟩
  · rename_i ht
    exact ⟨h5 (by simpa using ht), h3⟩
theorem stepR_fk (r : RS) (c : Int) : ((stepR r c).2 = true → (stepR r c).1.fk = r.fk ∧ (stepR r c).1.fat = r.fat) ∧ ((stepR r c).2 = false → (stepR r c).1.fk ≠ 0) ∧ (stepR r c).1.closed = r.closed := by
  unfold stepR
  split
  · obtain ⟨h1, h2, h3, h4, h5⟩ := takeL_keeps (a := r.offset) (n := (feedS r.mark c).2.length) (feedS r.mark c).2 0 { r with utf := (stepU r.utf c).1.toNat, offset := r.offset + 1, mark := (feedS r.mark c).1 }
    exact ⟨fun h => ⟨(h4 h).2.1, (h4 h).2.2⟩, h5, h3⟩
  · exact ⟨(fun h => by cases h), (fun _ => (cutR_fk r 3 (by decide)).1), (cutR_fk r 3 (by decide)).2⟩
theorem feedL_fk : ∀ (xs : List Int) (r : RS), ((feedL xs r).fk = 0 → (feedL xs r).fat = r.fat) ∧ (feedL xs r).closed = r.closed
  | [], r => ⟨fun _ => rfl, rfl⟩
  | c :: cs, r => by
    obtain ⟨h1, h2, h3⟩ := stepR_fk r c
    unfold feedL
    split
    · rename_i ht
      obtain ⟨g1, g2⟩ := feedL_fk cs (stepR r c).1
      exact ⟨fun h => (g1 h).trans (h1 ht).2, g2.trans h3⟩
    · rename_i ht
      exact ⟨fun h => absurd h (h2 (by simpa using ht)), h3⟩
theorem feedL_small : ∀ (xs : List Int) (N M : Nat) (r : RS), Small N r → Fine M r → Small (N + 8 * xs.length) (feedL xs r)
  | [], N, M, r, h, _ => h
  | c :: cs, N, M, r, h, hf => by
    have hs := Small.step h hf.2.2.2.1 c
    unfold feedL
    split
    · rename_i ht
      exact (feedL_small cs (N + 8) (M + 1) _ hs (hf.step c ht)).mono (by simp only [List.length_cons]; omega)
    · exact hs.mono (by simp only [List.length_cons]; omega)
theorem Utf.up {n0 n1 : Nat} {W : World} (h : Utf n0 W) (h1 : n0 ≤ n1) (h2 : n1 ≤ W.heap.size) : Utf n1 W :=
  ⟨h2, fun i hi => let ⟨g, o, c, hh⟩ := h.2 i hi; ⟨g, o, c, ⟨Nat.lt_of_lt_of_le hh.low h1, hh.head, hh.cap, hh.from_, hh.to_, hh.next_⟩⟩⟩
/-- A text's bytes. -/
def bytesOf (s : ByteArray) : List Int := s.data.toList.map (fun b => (b.toNat : Int))
theorem bytesOf_len (s : ByteArray) : (bytesOf s).length = s.size := by unfold bytesOf; rw [List.length_map, Array.length_toList]; rfl
/-- The converted text is a piece. -/
theorem barg_conv {n0 : Nat} {x : RV} {r : RS} {W : World} (h : RAt n0 x r W) (s : ByteArray) : BArg x (Lib.bytesWorld W 5 s) (.slice (some ⟨W.heap.size, 0, none⟩) s.size (grownCap W s.size 0 5)) (bytesOf s) := by
  have hB := bytes_conv W s (bytesOf s) rfl
  refine ⟨_, _, by rw [bytesOf_len], fun i y hi => ⟨_, rfl, hB.lt, fun e => by have := h.rc_lt _ e; omega, hB.cell i y hi⟩⟩
/-- A block of another kind is none of the Reader's. -/
theorem RAt.rc_ne {n0 : Nat} {x : RV} {r : RS} {W : World} (h : RAt n0 x r W) {L t : Nat} {cs : Array Value} (hL : W.heap[L]? = some (.cells cs t (0, 0))) (ht : t ≠ 69 ∧ t ≠ 98 ∧ t ≠ 96 ∧ t ≠ 5 ∧ t ≠ 9 ∧ t ≠ 61) : ¬ RC x L := by
  obtain ⟨rows, hq, hr⟩ := h.que
  obtain ⟨t1, t2, t3, t4, t5, t6⟩ := ht
  rintro (e | e | (e | e | e) | e)
  · exact blk_ne hL h.obj t1 e
  · exact blk_ne hL h.st t2 e
  · exact blk_ne hL h.mak.obj t3 e
  · exact row_ne h.mak.frow hL (Ne.symm t4) e
  · exact row_ne h.mak.rrow hL (Ne.symm t5) e
  · exact row_ne hq hL (Ne.symm t6) e
set_option maxRecDepth 100000 in
set_option maxHeartbeats 16000000 in
theorem sticky_calls (n0 : Nat) (de qu en F Fs Rl : Int) (U : Bool) (s more : ByteArray) (W : World) (hU : Utf n0 W) (hd : 0 ≤ de ∧ de ≤ 255) (hq : 0 ≤ qu ∧ qu ≤ 255) :
    Calls Tryd.prog 3 #[.agg #[.int .u8 de, .int .u8 qu, .int .i64 en, .int .i64 F, .int .i64 Fs, .int .i64 Rl, .bool U], .string s, .string more] W (fun e w' => e = .returned (.bool true) ∧ Acts (fun _ => False) W w') := by
  obtain ⟨W1, hW1⟩ : ∃ W1, W.alloc (.cells #[.int .u8 de, .int .u8 qu, .int .i64 en, .int .i64 F, .int .i64 Fs, .int .i64 Rl, .bool U] 27) = W1 := ⟨_, rfl⟩
  have hx : W1.heap[W.heap.size]? = some (.cells #[.int .u8 de, .int .u8 qu, .int .i64 en, .int .i64 F, .int .i64 Fs, .int .i64 Rl, .bool U] 27 (0, 0)) := by rw [← hW1]; simpa using heap_alloc_new W (.cells #[.int .u8 de, .int .u8 qu, .int .i64 en, .int .i64 F, .int .i64 Fs, .int .i64 Rl, .bool U] 27)
  have hA1 : Acts (fun _ => False) W W1 := by rw [← hW1]; exact Acts.alloc _ _ _
  have x0 := (blk_cell hx 0).trans rfl
  have x1 := (blk_cell hx 1).trans rfl
  have x2 := (blk_cell hx 2).trans rfl
  have x3 := (blk_cell hx 3).trans rfl
  have x4 := (blk_cell hx 4).trans rfl
  have x5 := (blk_cell hx 5).trans rfl
  have x6 := (blk_cell hx 6).trans rfl
  have hrc := right_calls de qu en F Fs Rl U W1
  have HU : Hid (Utf n0 W) := hU
  clear hU
  by_cases hs : (s.size : Int) > 300
  · go_enter Tryd.func3, Tryd.ntmps3
    go_wp2_with (first
      | (go_at_call 7; ((with_reducible refine (alive_calls n0 _ (HU.out.acts hA1 (fun _ h => h.elim))).mono ?_); rintro e wl ⟨rfl, hAl⟩)))
    go_ret
    exact ⟨rfl, hA1.trans hAl (fun _ h => .inl h)⟩
  by_cases hm : (more.size : Int) > 300
  · go_enter Tryd.func3, Tryd.ntmps3
    go_wp2_with (first
      | (go_at_call 7; ((with_reducible refine (alive_calls n0 _ (HU.out.acts hA1 (fun _ h => h.elim))).mono ?_); rintro e wl ⟨rfl, hAl⟩)))
    go_ret
    exact ⟨rfl, hA1.trans hAl (fun _ h => .inl h)⟩
  obtain ⟨ok, hR⟩ : ∃ ok, rightB de qu en F Fs Rl = ok := ⟨_, rfl⟩
  rw [hR] at hrc
  cases ok with
  | false =>
    go_enter Tryd.func3, Tryd.ntmps3
    go_wp2_with (first
      | (go_at_call 6; ((with_reducible refine hrc.mono ?_); rintro e w2 ⟨rfl, hA2⟩; have hx2 := (hA2.same _ (blk_lt hx) (fun h => h)).trans hx; have z0 := (blk_cell hx2 0).trans rfl; have z1 := (blk_cell hx2 1).trans rfl; have z2 := (blk_cell hx2 2).trans rfl; have z3 := (blk_cell hx2 3).trans rfl; have z4 := (blk_cell hx2 4).trans rfl; have z5 := (blk_cell hx2 5).trans rfl; have z6 := (blk_cell hx2 6).trans rfl; have HA2 : Hid (Acts (fun _ => False) W w2) := hA1.trans hA2 (fun _ h => .inl h); clear hA2 hx2 hrc))
      | (go_at_call 7; ((with_reducible refine (alive_calls n0 _ (HU.out.acts HA2.out (fun _ h => h.elim))).mono ?_); rintro e wl ⟨rfl, hAl⟩)))
    go_ret
    exact ⟨rfl, HA2.out.trans hAl (fun _ h => .inl h)⟩
  | true =>
    obtain ⟨k1, k2, k3⟩ := right_parts U hR hd hq
    have hN0 : Small 0 (initR de qu en F Fs Rl U) := ⟨k3, Nat.le_refl _, Nat.le_refl _⟩
    have hM0 : Fine 0 (initR de qu en F Fs Rl U) := ⟨Int.le_refl _, Int.le_refl _, Int.le_refl _, by show (0 : Int) ≤ 2; decide, by show 0 < 8; decide⟩
    obtain ⟨r1, h1⟩ : ∃ r1, feedB (bytesOf s) (initR de qu en F Fs Rl U) = r1 := ⟨_, rfl⟩
    have h1' : feedL (bytesOf s) (initR de qu en F Fs Rl U) = r1 := by
      rw [← h1]
      exact (if_neg (by simp [initR])).symm
    have hf1 := feedL_fk (bytesOf s) (initR de qu en F Fs Rl U)
    rw [h1'] at hf1
    obtain ⟨hf0, hfc1⟩ := hf1
    have hN1 := feedL_small (bytesOf s) 0 0 _ hN0 hM0
    rw [h1', bytesOf_len] at hN1
    obtain ⟨fk, hk1⟩ : ∃ fk, r1.fk = fk := ⟨_, rfl⟩
    obtain ⟨fat, hk2⟩ : ∃ fat, r1.fat = fat := ⟨_, rfl⟩
    rw [hk1, hk2] at hf0
    clear h1'
    by_cases hfk : fk = 0
    · have hfat : fat = 0 := hf0 hfk
      subst hfk hfat
      go_enter Tryd.func3, Tryd.ntmps3
      go_wp2_with (first
        | (go_at_call 6; ((with_reducible refine hrc.mono ?_); rintro e w2 ⟨rfl, hA2⟩; have hx2 := (hA2.same _ (blk_lt hx) (fun h => h)).trans hx; have z0 := (blk_cell hx2 0).trans rfl; have z1 := (blk_cell hx2 1).trans rfl; have z2 := (blk_cell hx2 2).trans rfl; have z3 := (blk_cell hx2 3).trans rfl; have z4 := (blk_cell hx2 4).trans rfl; have z5 := (blk_cell hx2 5).trans rfl; have z6 := (blk_cell hx2 6).trans rfl; have HA2 : Hid (Acts (fun _ => False) W w2) := hA1.trans hA2 (fun _ h => .inl h); clear hA2 hx2 hrc))
        | (go_at_call 8; ((with_reducible refine (rnew_calls de qu en F Fs Rl U _ k1 k2).mono ?_); rintro e w3 ⟨⟨R, S, B, fv, rv, qv⟩, rfl, hRA, hA3⟩; obtain ⟨v4, hv4⟩ : ∃ v, Value.slice (some ⟨w3.heap.size, 0, none⟩) s.size (grownCap w3 s.size 0 5) = v := ⟨_, rfl⟩; obtain ⟨w4, hw4⟩ : ∃ w, Lib.bytesWorld w3 5 s = w := ⟨_, rfl⟩; have hconv4 := Lib.run_convert_string_bytes (P := Tryd.prog) w3 9 37 5 s (u := .string) (by kernel_rfl) Tryd.underlying37 (by kernel_rfl); rw [hv4, hw4] at hconv4; have hba := barg_conv hRA s; rw [hv4, hw4] at hba; have hA34 := acts_bytesWorld w3 5 s; rw [hw4] at hA34; have hAW4 := (HA2.out.trans hA3 (fun _ h => .inl h)).trans hA34 (fun _ h => .inl h); have hRA4 := hRA.acts hA34; have hsz := (hA3.trans hA34 (fun _ h => .inl h)).size; have hfd := rfeed_calls w2.heap.size _ _ (bytesOf s) v4 0 0 w4 hRA4 ((HU.out.acts hAW4 (fun _ h => h.elim)).up (Nat.le_trans HU.out.1 HA2.out.size) hsz) hN0 (by rw [bytesOf_len]; omega) (.inr (.inr hM0)) (by rw [bytesOf_len]; omega) hba; rw [h1] at hfd; simp only [fltV, hk1, hk2] at hfd; have HA4 : Hid (Acts (fun _ => False) W w4) := hAW4; have HRA4 : Hid (RAt w2.heap.size _ _ w4) := hRA4; clear hba hA34 hAW4 hRA hA3 hRA4 hsz hv4 hw4))
        | (go_at_call 9; (revert hfd; intro hfd; (with_reducible refine hfd.mono ?_); rintro e w5 ⟨rfl, ⟨R5, S5, B5, fv5, rv5, qv5⟩, hg5⟩; have hR5 := hg5.new.R.symm; dsimp only at hR5; subst hR5; clear hfd; have HA5 : Hid (Acts (fun _ => False) W w5) := HA4.out.trans hg5.acts (fun j hj => .inr (by have := HRA4.out.low j hj; have := HA2.out.size; omega)); have HG5 : Hid (RAt w2.heap.size _ r1 w5) := hg5.it))
        | (go_at_call 7; ((with_reducible refine (alive_calls n0 _ (HU.out.acts (HA5.out.trans (Acts.alloc (fun _ => False) _ _) (fun _ h => .inl h)) (fun _ h => h.elim))).mono ?_); rintro e wl ⟨rfl, hAl⟩)))
      go_ret
      exact ⟨rfl, (HA5.out.trans (Acts.alloc (fun _ => False) _ _) (fun _ h => .inl h)).trans hAl (fun _ h => .inl h)⟩
    have h2 : feedB (bytesOf more) r1 = r1 := if_pos (.inr (by rw [hk1]; exact hfk))
    have h3 : closeR r1 = { r1 with closed := true } := if_pos (.inr (by rw [hk1]; exact hfk))
    clear hf0
    go_enter Tryd.func3, Tryd.ntmps3
    go_wp2_with (first
      | (go_at_call 6; ((with_reducible refine hrc.mono ?_); rintro e w2 ⟨rfl, hA2⟩; have hx2 := (hA2.same _ (blk_lt hx) (fun h => h)).trans hx; have z0 := (blk_cell hx2 0).trans rfl; have z1 := (blk_cell hx2 1).trans rfl; have z2 := (blk_cell hx2 2).trans rfl; have z3 := (blk_cell hx2 3).trans rfl; have z4 := (blk_cell hx2 4).trans rfl; have z5 := (blk_cell hx2 5).trans rfl; have z6 := (blk_cell hx2 6).trans rfl; have HA2 : Hid (Acts (fun _ => False) W w2) := hA1.trans hA2 (fun _ h => .inl h); clear hA2 hx2 hrc))
      | (go_at_call 8; ((with_reducible refine (rnew_calls de qu en F Fs Rl U _ k1 k2).mono ?_); rintro e w3 ⟨⟨R, S, B, fv, rv, qv⟩, rfl, hRA, hA3⟩; obtain ⟨v4, hv4⟩ : ∃ v, Value.slice (some ⟨w3.heap.size, 0, none⟩) s.size (grownCap w3 s.size 0 5) = v := ⟨_, rfl⟩; obtain ⟨w4, hw4⟩ : ∃ w, Lib.bytesWorld w3 5 s = w := ⟨_, rfl⟩; have hconv4 := Lib.run_convert_string_bytes (P := Tryd.prog) w3 9 37 5 s (u := .string) (by kernel_rfl) Tryd.underlying37 (by kernel_rfl); rw [hv4, hw4] at hconv4; have hba := barg_conv hRA s; rw [hv4, hw4] at hba; have hA34 := acts_bytesWorld w3 5 s; rw [hw4] at hA34; have hAW4 := (HA2.out.trans hA3 (fun _ h => .inl h)).trans hA34 (fun _ h => .inl h); have hRA4 := hRA.acts hA34; have hsz := (hA3.trans hA34 (fun _ h => .inl h)).size; have hfd := rfeed_calls w2.heap.size _ _ (bytesOf s) v4 0 0 w4 hRA4 ((HU.out.acts hAW4 (fun _ h => h.elim)).up (Nat.le_trans HU.out.1 HA2.out.size) hsz) hN0 (by rw [bytesOf_len]; omega) (.inr (.inr hM0)) (by rw [bytesOf_len]; omega) hba; rw [h1] at hfd; simp only [fltV, hk1, hk2] at hfd; have HA4 : Hid (Acts (fun _ => False) W w4) := hAW4; have HRA4 : Hid (RAt w2.heap.size _ _ w4) := hRA4; clear hba hA34 hAW4 hRA hA3 hRA4 hsz hv4 hw4))
      | (go_at_call 9; (revert hfd; intro hfd; (with_reducible refine hfd.mono ?_); rintro e w5 ⟨rfl, ⟨R5, S5, B5, fv5, rv5, qv5⟩, hg5⟩; have hR5 := hg5.new.R.symm; dsimp only at hR5; subst hR5; clear hfd; have HA5 : Hid (Acts (fun _ => False) W w5) := HA4.out.trans hg5.acts (fun j hj => .inr (by have := HRA4.out.low j hj; have := HA2.out.size; omega)); have HG5 : Hid (RAt w2.heap.size _ r1 w5) := hg5.it; have hf6 : (w5.alloc (.cells #[.int .i64 fk, .int .i64 fat] 35)).heap[w5.heap.size]? = some (.cells #[.int .i64 fk, .int .i64 fat] 35 (0, 0)) := (by simpa using heap_alloc_new w5 (.cells #[.int .i64 fk, .int .i64 fat] 35)); have hA56 : Acts (fun _ => False) w5 (w5.alloc (.cells #[.int .i64 fk, .int .i64 fat] 35)) := Acts.alloc _ _ _; have hcc := count_calls w2.heap.size _ _ _ (HG5.out.acts hA56); clear hg5))
      | (go_at_call 10; ((with_reducible refine hcc.mono ?_); rintro e w7 ⟨rfl, hA67⟩; clear hcc; have hA57 := hA56.trans hA67 (fun _ h => .inl h); have hoc := offset_calls w2.heap.size _ _ _ (HG5.out.acts hA57)))
      | (go_at_call 11; ((with_reducible refine hoc.mono ?_); rintro e w8 ⟨rfl, hA78⟩; clear hoc; have hA58 := hA57.trans hA78 (fun _ h => .inl h); have hR8 := HG5.out.acts hA58; obtain ⟨v9, hv9⟩ : ∃ v, Value.slice (some ⟨w8.heap.size, 0, none⟩) more.size (grownCap w8 more.size 0 5) = v := ⟨_, rfl⟩; obtain ⟨w9, hw9⟩ : ∃ w, Lib.bytesWorld w8 5 more = w := ⟨_, rfl⟩; have hconv9 := Lib.run_convert_string_bytes (P := Tryd.prog) w8 9 37 5 more (u := .string) (by kernel_rfl) Tryd.underlying37 (by kernel_rfl); rw [hv9, hw9] at hconv9; have hba := barg_conv hR8 more; rw [hv9, hw9] at hba; have hA89 := acts_bytesWorld w8 5 more; rw [hw9] at hA89; have hA59 := hA58.trans hA89 (fun _ h => .inl h); have hR9 := HG5.out.acts hA59; have HA9 : Hid (Acts (fun _ => False) W w9) := HA5.out.trans hA59 (fun _ h => .inl h); have hsz9 := hA59.size; have hfd2 := rfeed_calls w2.heap.size _ _ (bytesOf more) v9 (0 + 8 * s.size) 0 w9 hR9 ((HU.out.acts HA9.out (fun _ h => h.elim)).up (Nat.le_trans HU.out.1 HA2.out.size) (by have h5 := HRA4.out.lt; have h6 := HRA4.out.low _ (.inl rfl); have h7 := HG5.out.lt; have h8 := HG5.out.low _ (.inl rfl); omega)) hN1 (by rw [bytesOf_len]; omega) (.inr (.inl (by rw [hk1]; exact hfk))) (by rw [bytesOf_len]; omega) hba; rw [h2] at hfd2; simp only [fltV, hk1, hk2] at hfd2; have hf9 := ((hA67.trans hA78 (fun _ h => .inl h)).trans hA89 (fun _ h => .inl h)).same _ (blk_lt hf6) (fun h => h) |>.trans hf6; have HF9 : Hid (w9.heap[w5.heap.size]? = _) := hf9; have HR9 : Hid (RAt w2.heap.size _ r1 w9) := hR9; clear hba hA89 hA59 hR9 hR8 hA58 hA57 hA67 hA78 hA56 hf6 hf9 hv9 hw9 hsz9))
      | (go_at_call 9; ((with_reducible refine hfd2.mono ?_); rintro e w10 ⟨rfl, ⟨R10, S10, B10, fv10, rv10, qv10⟩, hg10⟩; have hR10 := hg10.new.R.symm; dsimp only at hR10; subst hR10; clear hfd2; have HA10 : Hid (Acts (fun _ => False) W w10) := HA9.out.trans hg10.acts (fun j hj => .inr (by have := HR9.out.low j hj; have := HA2.out.size; omega)); have HG10 : Hid (RAt w2.heap.size _ r1 w10) := hg10.it; have hf10 := (hg10.acts.same _ (blk_lt HF9.out) (fun e => by have := HG5.out.rc_lt _ e; omega)).trans HF9.out; have hA1011 : Acts (fun _ => False) w10 (w10.alloc (.cells #[.int .i64 fk, .int .i64 fat] 35)) := Acts.alloc _ _ _; have hR11 := HG10.out.acts hA1011; have hf11 := (hA1011.same _ (blk_lt hf10) (fun h => h)).trans hf10; have hg11 : (w10.alloc (.cells #[.int .i64 fk, .int .i64 fat] 35)).heap[w10.heap.size]? = some (.cells #[.int .i64 fk, .int .i64 fat] 35 (0, 0)) := (by simpa using heap_alloc_new w10 (.cells #[.int .i64 fk, .int .i64 fat] 35)); have hcl := rclose_calls w2.heap.size _ _ (0 + 8 * s.size) 0 _ hR11 hN1 (by omega) (.inr (.inl (by rw [hk1]; exact hfk))) (by omega); rw [h3] at hcl; simp only [fltV, hk1, hk2] at hcl; have HF11 : Hid (_ = _) := hf11; have HG11 : Hid (_ = _) := hg11; have HA11 : Hid (Acts (fun _ => False) w10 _) := hA1011; have HR11 : Hid (RAt _ _ _ _) := hR11; clear hg10 hf10 hA1011 hR11 hf11 hg11))
      | (go_at_call 12; ((with_reducible refine hcl.mono ?_); rintro e w12 ⟨rfl, ⟨R12, S12, B12, fv12, rv12, qv12⟩, hg12⟩; have hR12 := hg12.new.R.symm; dsimp only at hR12; subst hR12; clear hcl)))
    have hnF := HR11.out.rc_ne HF11.out (by decide)
    have hnG := HR11.out.rc_ne HG11.out (by decide)
    have hF12 := (hg12.acts.same _ (blk_lt HF11.out) hnF).trans HF11.out
    have hG12 := (hg12.acts.same _ (blk_lt HG11.out) hnG).trans HG11.out
    have hA12 : Acts (fun _ => False) W w12 := ((HA10.out.trans HA11.out (fun _ h => .inl h))).trans hg12.acts (fun j hj => .inr (by have := HR11.out.low j hj; have := HA2.out.size; omega))
    have hA1213 : Acts (fun _ => False) w12 (w12.alloc (.cells #[.int .i64 fk, .int .i64 fat] 35)) := Acts.alloc _ _ _
    have hH13 : (w12.alloc (.cells #[.int .i64 fk, .int .i64 fat] 35)).heap[w12.heap.size]? = some (.cells #[.int .i64 fk, .int .i64 fat] 35 (0, 0)) := by simpa using heap_alloc_new w12 (.cells #[.int .i64 fk, .int .i64 fat] 35)
    obtain ⟨w13, hw13⟩ : ∃ w13, w12.alloc (.cells #[.int .i64 fk, .int .i64 fat] 35) = w13 := ⟨_, rfl⟩
    rw [hw13] at hA1213 hH13 ⊢
    have hF13 := (hA1213.same _ (blk_lt hF12) (fun h => h)).trans hF12
    have hG13 := (hA1213.same _ (blk_lt hG12) (fun h => h)).trans hG12
    have hR13 := hg12.it.acts hA1213
    have HA13 : Hid (Acts (fun _ => False) W w13) := hA12.trans hA1213 (fun _ h => .inl h)
    have hfc3 : ∀ w, Acts (fun _ => False) w13 w → Calls Tryd.prog 13 #[.pointer (some ⟨R, 0, none⟩)] w (fun e w' => e = .returned (.agg #[.int .i64 fk, .int .i64 fat]) ∧ Acts (fun _ => False) w w') := fun w h => by
      have := fault_calls _ _ _ w (hR13.acts h)
      simp only [fltV, hk1, hk2] at this
      exact this
    have hcc3 : ∀ w, Acts (fun _ => False) w13 w → Calls Tryd.prog 10 #[.pointer (some ⟨R, 0, none⟩)] w (fun e w' => e = .returned (.int .i64 (wrap64 (r1.given + r1.ready.length))) ∧ Acts (fun _ => False) w w') := fun w h => by
      have := count_calls _ _ _ w (hR13.acts h)
      dsimp only at this
      exact this
    have hoc3 : ∀ w, Acts (fun _ => False) w13 w → Calls Tryd.prog 11 #[.pointer (some ⟨R, 0, none⟩)] w (fun e w' => e = .returned (.int .i64 r1.offset) ∧ Acts (fun _ => False) w w') := fun w h => by
      have := offset_calls _ _ _ w (hR13.acts h)
      dsimp only at this
      exact this
    clear hA12 hA1213 hw13 hR13 hF12 hG12 hnF hnG hg12
    refine start_ (n := 30) (S := fun w' => Acts (fun _ => False) w13 w') (ds := []) #[false, false, false, false, false, false, false, false, false, false, false, false, false, false, false, false, false, false, false, false, false, false, false, false, false, false, false, false, false, false] (by kernel_rfl) rfl rfl (Acts.drew (fun _ => False) w13) (fun hHeld => ?_)
    refine take_ (i := 0) (N := some 60) (v := ?_) (a' := ?_) #[true, false, false, false, false, false, false, false, false, false, false, false, false, false, false, false, false, false, false, false, false, false, false, false, false, false, false, false, false, false] rfl rfl (by kernel_rfl) (fun _ _ _ h => h) (Or.inl ⟨by rfl, ?_⟩) hHeld ?_ ?_
    rotate_left
    · intro w' s0
      have hh := (s0.same _ (blk_lt hG13) (fun h => h)).trans hG13
      have y0 := (blk_cell hh 0).trans rfl
      have y1 := (blk_cell hh 1).trans rfl
      clear hh s0
      go_simp
      with_reducible rfl
    rotate_left
    · simp only [Act.put, List.setIfInBounds_toArray, List.set_cons_zero, List.set_cons_succ]
      rfl
    refine take_ (i := 1) (N := some 61) (v := ?_) (a' := ?_) #[true, true, false, false, false, false, false, false, false, false, false, false, false, false, false, false, false, false, false, false, false, false, false, false, false, false, false, false, false, false] rfl rfl (by kernel_rfl) (fun _ _ _ h => h) (Or.inl ⟨by rfl, ?_⟩) hHeld ?_ ?_
    rotate_left
    · intro w' s0
      have hh := (s0.same _ (blk_lt hF13) (fun h => h)).trans hF13
      have y0 := (blk_cell hh 0).trans rfl
      have y1 := (blk_cell hh 1).trans rfl
      clear hh s0
      go_simp
      with_reducible rfl
    rotate_left
    · simp only [Act.put, List.setIfInBounds_toArray, List.set_cons_zero, List.set_cons_succ]
      rfl
    refine pure_ (i := 2) (N := some 62) (v := ?_) (a' := ?_) #[true, true, true, false, false, false, false, false, false, false, false, false, false, false, false, false, false, false, false, false, false, false, false, false, false, false, false, false, false, false] rfl rfl (by kernel_rfl) (fun _ _ _ h => h) (Or.inl ⟨by rfl, ?_⟩) ?_ ?_
    rotate_left
    · intro w'
      go_simp
      with_reducible rfl
    rotate_left
    · simp only [Act.put, List.setIfInBounds_toArray, List.set_cons_zero, List.set_cons_succ]
      rfl
    refine pure_ (i := 3) (N := some 63) (v := ?_) (a' := ?_) #[true, true, true, true, false, false, false, false, false, false, false, false, false, false, false, false, false, false, false, false, false, false, false, false, false, false, false, false, false, false] rfl rfl (by kernel_rfl) (fun _ _ _ h => h) (Or.inl ⟨by rfl, ?_⟩) ?_ ?_
    rotate_left
    · intro w'
      go_simp
      with_reducible rfl
    rotate_left
    · simp only [Act.put, List.setIfInBounds_toArray, List.set_cons_zero, List.set_cons_succ]
      rfl
    refine take_ (i := 4) (N := some 64) (v := ?_) (a' := ?_) #[true, true, true, true, true, false, false, false, false, false, false, false, false, false, false, false, false, false, false, false, false, false, false, false, false, false, false, false, false, false] rfl rfl (by kernel_rfl) (fun _ _ _ h => h) (Or.inl ⟨by rfl, ?_⟩) hHeld ?_ ?_
    rotate_left
    · intro w' s0
      have hh := (s0.same _ (blk_lt hH13) (fun h => h)).trans hH13
      have y0 := (blk_cell hh 0).trans rfl
      have y1 := (blk_cell hh 1).trans rfl
      clear hh s0
      go_simp
      with_reducible rfl
    rotate_left
    · simp only [Act.put, List.setIfInBounds_toArray, List.set_cons_zero, List.set_cons_succ]
      rfl
    refine take_ (i := 5) (N := some 65) (v := ?_) (a' := ?_) #[true, true, true, true, true, true, false, false, false, false, false, false, false, false, false, false, false, false, false, false, false, false, false, false, false, false, false, false, false, false] rfl rfl (by kernel_rfl) (fun _ _ _ h => h) (Or.inl ⟨by rfl, ?_⟩) hHeld ?_ ?_
    rotate_left
    · intro w' s0
      have hh := (s0.same _ (blk_lt hF13) (fun h => h)).trans hF13
      have y0 := (blk_cell hh 0).trans rfl
      have y1 := (blk_cell hh 1).trans rfl
      clear hh s0
      go_simp
      with_reducible rfl
    rotate_left
    · simp only [Act.put, List.setIfInBounds_toArray, List.set_cons_zero, List.set_cons_succ]
      rfl
    refine pure_ (i := 6) (N := some 66) (v := ?_) (a' := ?_) #[true, true, true, true, true, true, true, false, false, false, false, false, false, false, false, false, false, false, false, false, false, false, false, false, false, false, false, false, false, false] rfl rfl (by kernel_rfl) (fun _ _ _ h => h) (Or.inl ⟨by rfl, ?_⟩) ?_ ?_
    rotate_left
    · intro w'
      go_simp
      with_reducible rfl
    rotate_left
    · simp only [Act.put, List.setIfInBounds_toArray, List.set_cons_zero, List.set_cons_succ]
      rfl
    refine pure_ (i := 7) (N := some 67) (v := ?_) (a' := ?_) #[true, true, true, true, true, true, true, true, false, false, false, false, false, false, false, false, false, false, false, false, false, false, false, false, false, false, false, false, false, false] rfl rfl (by kernel_rfl) (fun _ _ _ h => h) (Or.inl ⟨by rfl, ?_⟩) ?_ ?_
    rotate_left
    · intro w'
      go_simp
      with_reducible rfl
    rotate_left
    · simp only [Act.put, List.setIfInBounds_toArray, List.set_cons_zero, List.set_cons_succ]
      rfl
    refine pure_ (i := 8) (N := some 68) (v := ?_) (a' := ?_) #[true, true, true, true, true, true, true, true, true, false, false, false, false, false, false, false, false, false, false, false, false, false, false, false, false, false, false, false, false, false] rfl rfl (by kernel_rfl) (fun _ _ _ h => h) (Or.inl ⟨by rfl, ?_⟩) ?_ ?_
    rotate_left
    · intro w'
      go_simp
      with_reducible rfl
    rotate_left
    · simp only [Act.put, List.setIfInBounds_toArray, List.set_cons_zero, List.set_cons_succ]
      rfl
    refine pure_ (i := 9) (N := some 69) (v := ?_) (a' := ?_) #[true, true, true, true, true, true, true, true, true, true, false, false, false, false, false, false, false, false, false, false, false, false, false, false, false, false, false, false, false, false] rfl rfl (by kernel_rfl) (fun _ _ _ h => h) (Or.inl ⟨by rfl, ?_⟩) ?_ ?_
    rotate_left
    · intro w'
      go_simp
      with_reducible rfl
    rotate_left
    · simp only [Act.put, List.setIfInBounds_toArray, List.set_cons_zero, List.set_cons_succ]
      rfl
    refine take_ (i := 11) (N := some 71) (v := ?_) (a' := ?_) #[true, true, true, true, true, true, true, true, true, true, false, true, false, false, false, false, false, false, false, false, false, false, false, false, false, false, false, false, false, false] rfl rfl (by kernel_rfl) (fun _ _ _ h => h) (Or.inl ⟨by rfl, ?_⟩) hHeld ?_ ?_
    rotate_left
    · intro w' s0
      have hh := (s0.same _ (blk_lt hF13) (fun h => h)).trans hF13
      have y0 := (blk_cell hh 0).trans rfl
      have y1 := (blk_cell hh 1).trans rfl
      clear hh s0
      go_simp
      with_reducible rfl
    rotate_left
    · simp only [Act.put, List.setIfInBounds_toArray, List.set_cons_zero, List.set_cons_succ]
      rfl
    refine one_ (i := 10) (N := some 70) #[true, true, true, true, true, true, true, true, true, true, true, true, false, false, false, false, false, false, false, false, false, false, false, false, false, false, false, false, false, false] rfl rfl (by kernel_rfl) (by decide) (fun K hK => ?_)
    refine goes_ Tryd.func13 (by kernel_rfl) rfl #[.pointer (some ⟨R, 0, none⟩)] (by rfl) rfl rfl (by simp only [List.map_toArray, List.map_cons, List.map_nil] <;> rfl) ?_
    with_reducible refine (hfc3 _ hHeld).mono ?_
    rintro e w14 ⟨rfl, hB10⟩
    refine ⟨_, rfl, ?_⟩
    refine hK.out _ _ (hHeld.trans hB10 (fun _ h => .inl h)) (fun hHeld => ?_)
    clear hK K
    refine norm_ (a' := ?_) ?_ ?_
    rotate_left
    · show Act.put _ (some 70) _ = _
      simp only [Act.put, List.setIfInBounds_toArray, List.set_cons_zero, List.set_cons_succ]
      rfl
    refine pure_ (i := 12) (N := some 72) (v := ?_) (a' := ?_) #[true, true, true, true, true, true, true, true, true, true, true, true, true, false, false, false, false, false, false, false, false, false, false, false, false, false, false, false, false, false] rfl rfl (by kernel_rfl) (fun _ _ _ h => h) (Or.inl ⟨by rfl, ?_⟩) ?_ ?_
    rotate_left
    · intro w'
      go_simp
      with_reducible rfl
    rotate_left
    · simp only [Act.put, List.setIfInBounds_toArray, List.set_cons_zero, List.set_cons_succ]
      rfl
    refine pure_ (i := 13) (N := some 73) (v := ?_) (a' := ?_) #[true, true, true, true, true, true, true, true, true, true, true, true, true, true, false, false, false, false, false, false, false, false, false, false, false, false, false, false, false, false] rfl rfl (by kernel_rfl) (fun _ _ _ h => h) (Or.inl ⟨by rfl, ?_⟩) ?_ ?_
    rotate_left
    · intro w'
      go_simp
      with_reducible rfl
    rotate_left
    · simp only [Act.put, List.setIfInBounds_toArray, List.set_cons_zero, List.set_cons_succ]
      rfl
    refine pure_ (i := 14) (N := some 74) (v := ?_) (a' := ?_) #[true, true, true, true, true, true, true, true, true, true, true, true, true, true, true, false, false, false, false, false, false, false, false, false, false, false, false, false, false, false] rfl rfl (by kernel_rfl) (fun _ _ _ h => h) (Or.inl ⟨by rfl, ?_⟩) ?_ ?_
    rotate_left
    · intro w'
      go_simp
      with_reducible rfl
    rotate_left
    · simp only [Act.put, List.setIfInBounds_toArray, List.set_cons_zero, List.set_cons_succ]
      rfl
    refine pure_ (i := 15) (N := some 75) (v := ?_) (a' := ?_) #[true, true, true, true, true, true, true, true, true, true, true, true, true, true, true, true, false, false, false, false, false, false, false, false, false, false, false, false, false, false] rfl rfl (by kernel_rfl) (fun _ _ _ h => h) (Or.inl ⟨by rfl, ?_⟩) ?_ ?_
    rotate_left
    · intro w'
      go_simp
      with_reducible rfl
    rotate_left
    · simp only [Act.put, List.setIfInBounds_toArray, List.set_cons_zero, List.set_cons_succ]
      rfl
    refine pure_ (i := 17) (N := some 77) (v := ?_) (a' := ?_) #[true, true, true, true, true, true, true, true, true, true, true, true, true, true, true, true, false, true, false, false, false, false, false, false, false, false, false, false, false, false] rfl rfl (by kernel_rfl) (fun _ _ _ h => h) (Or.inl ⟨by rfl, ?_⟩) ?_ ?_
    rotate_left
    · intro w'
      go_simp
      with_reducible rfl
    rotate_left
    · simp only [Act.put, List.setIfInBounds_toArray, List.set_cons_zero, List.set_cons_succ]
      rfl
    refine one_ (i := 16) (N := some 76) #[true, true, true, true, true, true, true, true, true, true, true, true, true, true, true, true, true, true, false, false, false, false, false, false, false, false, false, false, false, false] rfl rfl (by kernel_rfl) (by decide) (fun K hK => ?_)
    refine goes_ Tryd.func10 (by kernel_rfl) rfl #[.pointer (some ⟨R, 0, none⟩)] (by rfl) rfl rfl (by simp only [List.map_toArray, List.map_cons, List.map_nil] <;> rfl) ?_
    with_reducible refine (hcc3 _ hHeld).mono ?_
    rintro e w15 ⟨rfl, hB16⟩
    refine ⟨_, rfl, ?_⟩
    refine hK.out _ _ (hHeld.trans hB16 (fun _ h => .inl h)) (fun hHeld => ?_)
    clear hK K
    refine norm_ (a' := ?_) ?_ ?_
    rotate_left
    · show Act.put _ (some 76) _ = _
      simp only [Act.put, List.setIfInBounds_toArray, List.set_cons_zero, List.set_cons_succ]
      rfl
    refine pure_ (i := 18) (N := some 78) (v := ?_) (a' := ?_) #[true, true, true, true, true, true, true, true, true, true, true, true, true, true, true, true, true, true, true, false, false, false, false, false, false, false, false, false, false, false] rfl rfl (by kernel_rfl) (fun _ _ _ h => h) (Or.inl ⟨by rfl, ?_⟩) ?_ ?_
    rotate_left
    · intro w'
      go_simp
      with_reducible rfl
    rotate_left
    · simp only [Act.put, List.setIfInBounds_toArray, List.set_cons_zero, List.set_cons_succ]
      rfl
    refine pure_ (i := 19) (N := some 79) (v := ?_) (a' := ?_) #[true, true, true, true, true, true, true, true, true, true, true, true, true, true, true, true, true, true, true, true, false, false, false, false, false, false, false, false, false, false] rfl rfl (by kernel_rfl) (fun _ _ _ h => h) (Or.inl ⟨by rfl, ?_⟩) ?_ ?_
    rotate_left
    · intro w'
      go_simp
      with_reducible rfl
    rotate_left
    · simp only [Act.put, List.setIfInBounds_toArray, List.set_cons_zero, List.set_cons_succ]
      rfl
    refine pure_ (i := 20) (N := some 80) (v := ?_) (a' := ?_) #[true, true, true, true, true, true, true, true, true, true, true, true, true, true, true, true, true, true, true, true, true, false, false, false, false, false, false, false, false, false] rfl rfl (by kernel_rfl) (fun _ _ _ h => h) (Or.inl ⟨by rfl, ?_⟩) ?_ ?_
    rotate_left
    · intro w'
      go_simp
      with_reducible rfl
    rotate_left
    · simp only [Act.put, List.setIfInBounds_toArray, List.set_cons_zero, List.set_cons_succ]
      rfl
    refine pure_ (i := 21) (N := some 81) (v := ?_) (a' := ?_) #[true, true, true, true, true, true, true, true, true, true, true, true, true, true, true, true, true, true, true, true, true, true, false, false, false, false, false, false, false, false] rfl rfl (by kernel_rfl) (fun _ _ _ h => h) (Or.inl ⟨by rfl, ?_⟩) ?_ ?_
    rotate_left
    · intro w'
      go_simp
      with_reducible rfl
    rotate_left
    · simp only [Act.put, List.setIfInBounds_toArray, List.set_cons_zero, List.set_cons_succ]
      rfl
    refine pure_ (i := 23) (N := some 83) (v := ?_) (a' := ?_) #[true, true, true, true, true, true, true, true, true, true, true, true, true, true, true, true, true, true, true, true, true, true, false, true, false, false, false, false, false, false] rfl rfl (by kernel_rfl) (fun _ _ _ h => h) (Or.inl ⟨by rfl, ?_⟩) ?_ ?_
    rotate_left
    · intro w'
      go_simp
      with_reducible rfl
    rotate_left
    · simp only [Act.put, List.setIfInBounds_toArray, List.set_cons_zero, List.set_cons_succ]
      rfl
    refine one_ (i := 22) (N := some 82) #[true, true, true, true, true, true, true, true, true, true, true, true, true, true, true, true, true, true, true, true, true, true, true, true, false, false, false, false, false, false] rfl rfl (by kernel_rfl) (by decide) (fun K hK => ?_)
    refine goes_ Tryd.func11 (by kernel_rfl) rfl #[.pointer (some ⟨R, 0, none⟩)] (by rfl) rfl rfl (by simp only [List.map_toArray, List.map_cons, List.map_nil] <;> rfl) ?_
    with_reducible refine (hoc3 _ hHeld).mono ?_
    rintro e w16 ⟨rfl, hB22⟩
    refine ⟨_, rfl, ?_⟩
    refine hK.out _ _ (hHeld.trans hB22 (fun _ h => .inl h)) (fun hHeld => ?_)
    clear hK K
    refine norm_ (a' := ?_) ?_ ?_
    rotate_left
    · show Act.put _ (some 82) _ = _
      simp only [Act.put, List.setIfInBounds_toArray, List.set_cons_zero, List.set_cons_succ]
      rfl
    refine pure_ (i := 24) (N := some 84) (v := ?_) (a' := ?_) #[true, true, true, true, true, true, true, true, true, true, true, true, true, true, true, true, true, true, true, true, true, true, true, true, true, false, false, false, false, false] rfl rfl (by kernel_rfl) (fun _ _ _ h => h) (Or.inl ⟨by rfl, ?_⟩) ?_ ?_
    rotate_left
    · intro w'
      go_simp
      with_reducible rfl
    rotate_left
    · simp only [Act.put, List.setIfInBounds_toArray, List.set_cons_zero, List.set_cons_succ]
      rfl
    refine pure_ (i := 25) (N := some 85) (v := ?_) (a' := ?_) #[true, true, true, true, true, true, true, true, true, true, true, true, true, true, true, true, true, true, true, true, true, true, true, true, true, true, false, false, false, false] rfl rfl (by kernel_rfl) (fun _ _ _ h => h) (Or.inl ⟨by rfl, ?_⟩) ?_ ?_
    rotate_left
    · intro w'
      go_simp
      with_reducible rfl
    rotate_left
    · simp only [Act.put, List.setIfInBounds_toArray, List.set_cons_zero, List.set_cons_succ]
      rfl
    refine pure_ (i := 26) (N := some 86) (v := ?_) (a' := ?_) #[true, true, true, true, true, true, true, true, true, true, true, true, true, true, true, true, true, true, true, true, true, true, true, true, true, true, true, false, false, false] rfl rfl (by kernel_rfl) (fun _ _ _ h => h) (Or.inl ⟨by rfl, ?_⟩) ?_ ?_
    rotate_left
    · intro w'
      go_simp
      with_reducible rfl
    rotate_left
    · simp only [Act.put, List.setIfInBounds_toArray, List.set_cons_zero, List.set_cons_succ]
      rfl
    refine one_ (i := 27) (N := some 87) #[true, true, true, true, true, true, true, true, true, true, true, true, true, true, true, true, true, true, true, true, true, true, true, true, true, true, true, true, false, false] rfl rfl (by kernel_rfl) (by decide) (fun K hK => ?_)
    refine goes_ Tryd.func7 (by kernel_rfl) rfl #[] (by rfl) rfl rfl (by simp only [List.map_toArray, List.map_nil]) ?_
    with_reducible refine (alive_calls n0 _ (HU.out.acts (HA13.out.trans hHeld (fun _ h => .inl h)) (fun _ h => h.elim))).mono ?_
    rintro e w17 ⟨rfl, hB27⟩
    refine ⟨_, rfl, ?_⟩
    refine hK.out _ _ (hHeld.trans hB27 (fun _ h => .inl h)) (fun hHeld => ?_)
    clear hK K
    refine norm_ (a' := ?_) ?_ ?_
    rotate_left
    · show Act.put _ (some 87) _ = _
      simp only [Act.put, List.setIfInBounds_toArray, List.set_cons_zero, List.set_cons_succ]
      rfl
    refine pure_ (i := 28) (N := some 88) (v := ?_) (a' := ?_) #[true, true, true, true, true, true, true, true, true, true, true, true, true, true, true, true, true, true, true, true, true, true, true, true, true, true, true, true, true, false] rfl rfl (by kernel_rfl) (fun _ _ _ h => h) (Or.inl ⟨by rfl, ?_⟩) ?_ ?_
    rotate_left
    · intro w'
      go_simp
      with_reducible rfl
    rotate_left
    · simp only [Act.put, List.setIfInBounds_toArray, List.set_cons_zero, List.set_cons_succ]
      rfl
    refine pure_ (i := 29) (N := some 6) (v := ?_) (a' := ?_) #[true, true, true, true, true, true, true, true, true, true, true, true, true, true, true, true, true, true, true, true, true, true, true, true, true, true, true, true, true, true] rfl rfl (by kernel_rfl) (fun _ _ _ h => h) (Or.inl ⟨by rfl, ?_⟩) ?_ ?_
    rotate_left
    · intro w'
      go_simp
      with_reducible rfl
    rotate_left
    · simp only [Act.put, List.setIfInBounds_toArray, List.set_cons_zero, List.set_cons_succ]
      rfl
    refine done_ (by kernel_rfl) ?_
    go_wp2
    go_ret
    exact ⟨rfl, HA13.out.trans hHeld (fun _ h => .inl h)⟩
end Go.Proofs.YtmignbhpofmgeaaDoor.Top
