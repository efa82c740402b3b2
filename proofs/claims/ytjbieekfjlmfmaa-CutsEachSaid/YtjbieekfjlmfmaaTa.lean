/- slices.Values, AppendSeq, Collect at ints: their contracts (written by wip/tools/cuts_a.py). -/
import Derived.Test.YtjbieekfjlmfmaaProg
import Derived.Below
import Derived.Deep.Draws
import Derived.Deep.AppendLies
import Derived.Maps.AppendAt
import Derived.OwnWalk
import Derived.Laws.BytesArg
import Derived.Laws.MakeOwn
import Derived.Laws.OwnMore
import Derived.Deep.OwnRows
import Derived.Tactics
import Derived.Lib.ConvBytes
import Derived.Laws.Slices
import Derived.WalkKit
import Derived.KernelRfl
import Derived.RowKit3
import Derived.Deep.LoopGhost
import Derived.Deep.QuietTactic
import Derived.BigQuiet
import Derived.WideLaws
import Derived.Deep.DeepCutAuto
import Derived.Deep.CutBlock
import Derived.Deep.RegionHeld3
import Derived.Laws.Rows
import Derived.Lib.AppendStr
import Derived.ArgAppend
import Derived.Laws.IdiomCopy
import Derived.OrdersHeld
import Derived.Laws.BitsLemmas
import Derived.RowKit
import Derived.Test.YtjbieekfjlmfmaaWWords
import Derived.Test.YtjbieekfjlmfmaaWLast
import Derived.Test.YtjbieekfjlmfmaaWTab
import Derived.Test.YtjbieekfjlmfmaaWFour
import Derived.Test.YtjbieekfjlmfmaaWQPut
import Derived.Test.YtjbieekfjlmfmaaWApart
import Derived.Test.YtjbieekfjlmfmaaWArr
import Derived.Test.YtjbieekfjlmfmaaWZeros
import Derived.Test.YtjbieekfjlmfmaaWFoot
import Derived.Test.YtjbieekfjlmfmaaWKept
import Derived.Test.YtjbieekfjlmfmaaWShare
import Derived.Test.YtjbieekfjlmfmaaWN
import Derived.Test.YtjbieekfjlmfmaaWFootNe
import Derived.Test.YtjbieekfjlmfmaaWAt
import Derived.Test.YtjbieekfjlmfmaaWEqStruct
import Derived.Test.YtjbieekfjlmfmaaWRepsOne
import Derived.Test.YtjbieekfjlmfmaaWInv
import Derived.Test.YtjbieekfjlmfmaaWInvWords
import Derived.Test.YtjbieekfjlmfmaaWGuard
import Derived.Test.YtjbieekfjlmfmaaWNEv
import Derived.Test.YtjbieekfjlmfmaaWMore
import Derived.Test.YtjbieekfjlmfmaaIter
import Derived.Test.YtjbieekfjlmfmaaIterB
import Derived.RangeFuncBox
import Derived.Shelf.Abstract
import Derived.OwnWalkIn
import Derived.TacticsInMore
import Derived.LoopNIn
import Derived.LoopIn
import Derived.Maps.OwnIn
import Derived.Deep.Onto
namespace Go.Proofs.Ytjbieekfjlmfmaa.Cuts07
open Go.RowKit Go.Shelf Go.Proofs.YtjbieekfjlmfmaaW.PrintWords Go.Proofs.YtjbieekfjlmfmaaW.PrintLast Go.Proofs.YtjbieekfjlmfmaaW.PrintMore Go.Proofs.Ytjbieekfjlmfmaa.Iter
set_option linter.unusedVariables false
set_option linter.unusedSimpArgs false
attribute [local go_sem] Oper.semAt_some

/-- The block of a slice's elements, where it has any. -/
def rowOf (A : Option Addr) (n : Nat) (k : Nat) : Prop := 0 < n ∧ ∃ ad, A = some ad ∧ k = ad.block
theorem int_moves {w w1 : World} {A : Option Addr} {n : Nat} {xs : List Int} (h : (Kd.int .i64).C w A n xs) (hm : ∀ k, rowOf A n k → w1.heap[k]? = w.heap[k]?) : (Kd.int .i64).C w1 A n xs :=
  ⟨h.1, h.2.1, fun hn => by
    obtain ⟨ad, e, hc⟩ := h.2.2 hn
    refine ⟨ad, e, fun j p hj => ?_⟩
    obtain ⟨c, hs, hr, hcell⟩ := hc j p hj
    refine ⟨c, hs, hr, fun i u hu => ?_⟩
    have hb : w1.heap[(ad.add (j * (Kd.int .i64).sz + i)).block]? = w.heap[(ad.add (j * (Kd.int .i64).sz + i)).block]? := hm _ ⟨hn, ad, e, by unfold Addr.add; split <;> rfl⟩
    exact (World.cell?_of_block hb).trans (hcell i u hu)⟩
theorem row_live {w : World} {A : Option Addr} {n : Nat} {xs : List Int} (h : (Kd.int .i64).C w A n xs) (k : Nat) (hk : rowOf A n k) : k < w.heap.size := by
  obtain ⟨hn, ad, rfl, rfl⟩ := hk
  obtain ⟨ad', e, hc⟩ := Kd.at_int h 0 (by omega) (by omega)
  obtain rfl := Option.some.inj e
  have := World.block_lt_of_cell? w _ hc
  rwa [show (ad.add (0 : Int).toNat).block = ad.block from by unfold Addr.add; split <;> rfl] at this
theorem take_more {α : Type} {xs : List α} {k : Nat} (h : k < xs.length) : xs.take (k + 1) = xs.take k ++ [xs[k]] := by rw [List.take_succ_eq_append_getElem h]
theorem rd_get {xs : List Int} {k : Nat} (h : k < xs.length) : rd xs (k : Int) = xs[k] := by simp [rd, h]

/-- slices.Values: the slice value is boxed; the function value captures the box. -/
theorem values_calls (a : Option Addr) (len cap : Nat) (w : World) :
    Calls Try.prog 27 #[.slice a len cap] w fun e w' => e = .returned (.func (.func 32) #[] #[.pointer (some ⟨w.heap.size, 0, none⟩)]) ∧ w.alloc (.cells #[.slice a len cap] 22) = w' := by
  go_enter Try.func27, Try.ntmps27
  go_wp2
  go_ret
  exact ⟨rfl, rfl⟩

set_option maxRecDepth 100000 in
set_option maxHeartbeats 2000000 in
/-- What slices.Values hands back tells the slice's elements, in order. -/
theorem values_gives (Bs : Nat) (A : Option Addr) (c : Nat) (xs : List Int) (w : World) (hb : w.heap[Bs]? = some (.cells #[.slice A xs.length c] 22 (0, 0))) (hC : (Kd.int .i64).C w A xs.length xs) :
    Gives Try.prog 32 #[.pointer (some ⟨Bs, 0, none⟩)] (Plain fun x : Int => #[.int .i64 x]) xs (fun k => k = Bs ∨ rowOf A xs.length k) (fun _ => False) (fun _ => True) (fun _ _ => True) w := by
  intro l J Jx C W hz hD hJ hJx hdis h0 hY
  have hBs : W.cell? ⟨Bs, 0, none⟩ = some (.slice A xs.length c) := (blk_cell ((hD Bs (.inl (.inl rfl))).trans hb) 0).trans rfl
  have hCW : (Kd.int .i64).C W A xs.length xs := int_moves hC (fun k hk => hD k (.inl (.inr hk)))
  have hmax := hCW.2.1
  have hnd : ∀ k, rowOf A xs.length k → ¬ C k := fun k hk => hdis k (.inl (.inr hk))
  refine (callsIn_wide (n := 1)).1 (callsIn_of_wp Try.func32 rfl trivial ?_ rfl)
  simp only [Try.ntmps32, List.size_toArray, List.length_cons, List.length_nil, Nat.reduceAdd, Nat.reduceSub, Array.replicate_succ, Array.replicate_zero, List.push_toArray, List.append_toArray, List.nil_append, List.cons_append]
  gi_wp2
  gi_loopw [7] (fun i wr => ∃ (k : Nat) (C1 : Nat → Prop), k ≤ xs.length ∧ i = .int .i64 k ∧ J (xs.take k) C1 wr ∧ Acts C W wr ∧ More W C C1)
    (fun i _ => xs.length - (intOf i).toNat)
  case atStart => exact ⟨0, C, Nat.zero_le _, rfl, h0, Acts.refl _ _, More.refl _ _⟩
  case round =>
    obtain ⟨k, C1, hk, rfl, hJs, hA, hM⟩ := hrel
    by_cases hlt : k < xs.length
    · have hCr : (Kd.int .i64).C wr A xs.length xs := int_moves hCW (fun k hk => hA.same k (row_live hCW k hk) (hnd k hk))
      obtain ⟨ad, rfl, hcell⟩ := Kd.at_int hCr (k : Int) (by omega) (by omega)
      rw [rd_get hlt, Int.toNat_natCast] at hcell
      obtain ⟨fn, tmps, assign, body, hy, hR⟩ := hY (xs.take k) xs[k] _ (fun _ => False) C1 wr hJs (by rw [← take_more hlt]; exact List.take_prefix _ _) ⟨rfl, fun _ h => h⟩ (fun _ h => h.elim) (fun _ h => h.elim) (hA.weaken (fun _ _ h => .inl h)) hM
      dsimp only at hy
      rw [← take_more hlt] at hR
      clear hCr hCW hC hb hD hdis hnd hY
      gi_wp2
      refine hR.mono ?_
      rintro e W3 (⟨rfl, C2, hA3, hM3, hJ3⟩ | ⟨rfl, C2, hA3, hM3, hJ3⟩) <;> (replace hA3 := hA3.weaken (C' := C1) (fun _ _ h => h.elim id False.elim); replace hM3 : More wr C1 C2 := fun k h => (hM3 k h).elim (fun h => h.elim .inl False.elim) .inr)
      · gi_wp2
        go_roundw
        case rel => exact ⟨k + 1, C2, by omega, by simp, hJ3, hA.trans hA3 hM, hM.trans hM3 hA.size⟩
        case measure => simp [intOf]; omega
      · gi_wp2
        refine bodyPost_ret (results_none rfl _ _ _) rfl ?_
        exact ⟨⟨_, rfl⟩, C2, (hA.trans hA3 hM).weaken (fun _ _ h => .inl h), hM.trans hM3 hA.size, .inr ⟨_, List.take_prefix _ _, hJ3, trivial⟩⟩
    · obtain rfl : k = xs.length := by omega
      rw [List.take_length] at hJs
      gi_wp2
      go_end0
      exact ⟨⟨_, rfl⟩, C1, hA.weaken (fun _ _ h => .inl h), hM, .inl ⟨hJs, trivial⟩⟩
/-- A function's leaving over the mark of one range over a function, with nothing handed back. -/
theorem leave_mark0 {fn : Func} {tmps : Array Value} {R : Ending → World → Prop} {d : Nat} {W : World} (h : fn.results = #[]) (hK : W.heap[d]? = some (.deferred (some []))) (hR : R (.returned (.tuple #[])) (W.putObj d (.deferred none))) :
    LeavesInM Fence.wide 0 Try.prog fn tmps R [{ target := .collected d, args := #[] }] .returning W :=
  ⟨by simp, .inl ⟨_, _, rfl, run_takeDeferred hK, ⟨_, results_none h _ _ _, hR⟩⟩⟩
theorem leave_mark1 {fn : Func} {tmps : Array Value} {R : Ending → World → Prop} {d : Nat} {W : World} {t : Tmp} (h : fn.results = #[.tmp t]) (hK : W.heap[d]? = some (.deferred (some []))) (hR : R (.returned (tmps.getD t undef)) (W.putObj d (.deferred none))) :
    LeavesInM Fence.wide 0 Try.prog fn tmps R [{ target := .collected d, args := #[] }] .returning W :=
  ⟨by simp, .inl ⟨_, _, rfl, run_takeDeferred hK, ⟨_, results_tmp h _ _ _, hR⟩⟩⟩

/-- What is kept where a row's block lies as it lay. -/
theorem owns_keep {W W' : World} {base e size n : Nat} {v : Value} {xs : List Value} (h : W.ownsRow base e size v n xs) (hk : ∀ k, v.ownBlock = some k → W'.heap[k]? = W.heap[k]?) : W'.ownsRow base e size v n xs := by
  refine ⟨h.1, h.2.imp id ?_⟩
  rintro ⟨g, cap, cur, rfl, h1, h2, h3⟩
  exact ⟨g, cap, cur, rfl, h1, (hk g rfl).trans h2, h3⟩

/-- 'l = append(l, x)' where l lies in a box and owns its row. -/
theorem pushed {W2 w1 : World} {base B : Nat} {t e : TypeId} {size k m : Nat} {v v' : Value} {xs ys : List Value} {tmp : Obj} (hv : Boxed W2 B t v) (hte : t ≠ e) (hrow : W2.ownsRow base e size v k xs) (hown' : w1.ownsRow base e size v' m ys)
    (hgrow : (W2.alloc tmp).grownBy w1 v.ownBlock) (hat : v'.ownBlock = v.ownBlock ∨ v'.ownBlock = some (W2.alloc tmp).heap.size) :
    Boxed w1 B t v ∧ Boxed (w1.setCell ⟨B, 0, none⟩ v') B t v' ∧ (w1.setCell ⟨B, 0, none⟩ v').ownsRow base e size v' m ys ∧ Acts (fun j => j = B ∨ v.ownBlock = some j) W2 (w1.setCell ⟨B, 0, none⟩ v') ∧ (∀ j, v'.ownBlock = some j → v.ownBlock = some j ∨ W2.heap.size ≤ j) := by
  have hv1 : Boxed w1 B t v := (hv.alloc tmp).kept hgrow (hv.not_row hte hrow)
  refine ⟨hv1, hv1.set v', hown'.kept (grownBy_setCell' w1 B v') (.inr (hv1.not_row hte hown').symm), ?_, ?_⟩
  · exact ((Acts.alloc _ W2 tmp).trans (Acts.grown (C := fun j => j = B ∨ v.ownBlock = some j) hgrow (fun r e => .inr e)) (fun _ h => .inl h)).trans (Acts.setCell _ _ _ _ (.inl rfl)) (fun _ h => .inl h)
  · intro j hj
    rcases hat with h | h
    · exact .inl (h ▸ hj)
    · rw [h] at hj; cases hj; right; simp

theorem elem3 : (Try.prog.info? 3).map (fun i => (i.zero, i.size, i.bytes)) = some (some (.int .i64 0), 1, 8) := by kernel_rfl
theorem C_of_own {w : World} {base n c : Nat} {A : Option Addr} {xs : List Int} (h : w.ownsRow base 3 1 (.slice A n c) xs.length (xs.map (Value.int .i64))) : n = xs.length ∧ n ≤ c ∧ (Kd.int .i64).C w A xs.length xs :=
  Kd.R_reads' (Kd.R_of_own (enc := Value.int .i64) (h1 := fun _ => rfl) (ok := fun _ => True) h (fun _ _ => trivial))
theorem enters32 : ∀ args w, (callFunc 32 args).run Try.prog w = .ok (.enter 32 args) w := enters_of Try.func32 (by kernel_rfl) rfl
/-- A box that holds a list of its own. -/
structure OutI (B base : Nat) (xs : List Int) (v : Value) (W : World) : Prop where
  box : Boxed W B 22 v
  row : W.ownsRow base 3 1 v xs.length (xs.map (Value.int .i64))
theorem OutI.keep {B base : Nat} {xs : List Int} {v : Value} {W W' : World} (h : OutI B base xs v W) (hk : ∀ k, (k = B ∨ v.ownBlock = some k) → W'.heap[k]? = W.heap[k]?) : OutI B base xs v W' :=
  ⟨(hk B (.inl rfl)).trans h.box, owns_keep h.row (fun k e => hk k (.inr e))⟩
theorem OutI.live {B base : Nat} {xs : List Int} {v : Value} {W : World} (h : OutI B base xs v W) (k : Nat) (hk : k = B ∨ v.ownBlock = some k) : k < W.heap.size := by
  rcases hk with rfl | e
  · exact h.box.lt
  · exact (h.row.lt k e).2
/-- .. between the rounds: its blocks, and the one that holds most. -/
def OutJ (B base : Nat) (xs : List Int) (C : Nat → Prop) (W : World) : Prop := ∃ v, OutI B base xs v W ∧ ∀ k, C k ↔ k = B ∨ v.ownBlock = some k
theorem outJ_frames (B base : Nat) : Frames (OutJ B base) :=
  ⟨fun s C W W' ⟨v, h, hc⟩ hz hk => ⟨v, h.keep (fun k hk' => hk k ((hc k).2 hk')), hc⟩, fun s C W ⟨v, h, hc⟩ k hk => h.live k ((hc k).1 hk)⟩

abbrev ints : Int → Array Value → (Nat → Prop) → World → Prop := Plain fun x : Int => #[.int .i64 x]
set_option maxRecDepth 100000 in
set_option maxHeartbeats 2000000 in
/-- slices.AppendSeq(nil, s): all that s tells, in a list of its own. -/
theorem append_calls (gf : Nat) (lb : Array Value) (xs : List Int) (hlen : xs.length ≤ 1000) (D E : Nat → Prop) (Kd : World → Prop) (Ks : List Int → World → Prop) (w : World)
    (eg : ∀ args w, (callFunc gf args).run Try.prog w = .ok (.enter gf args) w) (hDl : ∀ k, D k ∨ E k → k < w.heap.size)
    (hKd : ∀ W W', Kd W → (∀ k, E k → W'.heap[k]? = W.heap[k]?) → Kd W') (hKs : ∀ pre W W', Ks pre W → (∀ k, E k → W'.heap[k]? = W.heap[k]?) → Ks pre W')
    (hG : Gives Try.prog gf lb ints xs D E Kd Ks w) :
    Calls Try.prog 36 #[.slice none 0 0, .func (.func gf) #[] lb] w fun e w' => ∃ v, e = .returned v ∧ w'.ownsRow w.heap.size 3 1 v xs.length (xs.map (Value.int .i64)) ∧ Acts E w w' ∧ Kd w' := by
  obtain ⟨i0, hi, hz0, hz1, hz2⟩ := info_parts elem3
  refine (callsIn_wide (n := 0)).1 (callsIn_of_wp_marks Try.func36 rfl trivial ?_)
  simp only [Try.ntmps36, List.size_toArray, List.length_cons, List.length_nil, Nat.reduceAdd, Nat.reduceSub, Array.replicate_succ, Array.replicate_zero, List.push_toArray, List.append_toArray, List.nil_append, List.cons_append]
  gi_wp2
  obtain ⟨W1, hW1⟩ : ∃ W1, w.alloc (.cells #[.slice none 0 0] 22) = W1 := ⟨_, rfl⟩
  have hs1 : W1.heap.size = w.heap.size + 1 := by rw [← hW1]; simp
  have hA1 : ∀ F, Acts F w W1 := fun F => by rw [← hW1]; exact Acts.alloc F w _
  have hBo : Boxed W1 w.heap.size 22 (.slice none 0 0) := by rw [← hW1]; exact Boxed.new w 22 _
  rw [hW1]
  clear hW1
  refine (wpIn_wide (n := 0)).2 (wp_range_at (gf := gf) (lb := lb) rfl eg hG (fun x args F W h => by rw [h.1]; rfl) (by omega) (fun k hk => (hA1 (fun _ => False)).same k (hDl k hk) (fun h => h)) hDl hKd hKs
    (OutJ w.heap.size W1.heap.size) (fun _ _ _ _ => False) (outJ_frames _ _) (fun c => frames_false)
    (fun k => k = w.heap.size) ⟨.slice none 0 0, ⟨hBo, World.ownsRow_nil _ _ _ _⟩, fun k => by simp [Value.ownBlock]⟩
    (fun k hk h => by have := hDl k hk; omega)
    (fun fr pre x a₁ C' W' => a₁ = { tmps := (fr.setIfInBounds 7 (.int .i64 x)).setIfInBounds 5 (.int .i64 x), defers := [] } ∧ OutJ w.heap.size W1.heap.size pre C' W')
    (fun pre x a₁ => ⟨fun s C' A B h hz hk => ⟨h.1, (outJ_frames _ _).keep _ _ _ _ h.2 hz hk⟩, fun s C' A h => (outJ_frames _ _).live _ _ _ h.2⟩) ?_ ?_ ?_ ?_)
  · intro l2 pre x args F C1 W2 hs2 hpre hI hH hFC hFn hA hM
    obtain ⟨rfl, hF⟩ := hH
    gi_wp2
    exact ⟨C1, Acts.refl _ _, fun k h => .inl (.inl h), by simp, hI⟩
  · rintro l2 pre x a₁ C1 W2 hs2 hpre ⟨ha, v, hout, hC1⟩ hA hM
    simp only [List.setIfInBounds_toArray, List.set_cons_succ, List.set_cons_zero] at ha
    subst ha
    have hx1 : pre.length + 1 ≤ xs.length := by have := hpre.length_le; simpa using this
    have c4 := hout.box.cell
    have f4 := hout.box.frozen
    gi_wp2_with (gi_at_builtin; refine wpListIn_append_own_at _ rfl _ _ 22 rfl W1.heap.size 3 i0 (.int .i64 0) 1 8 Try.underlying22 hi hz0 hz1 hz2 rfl (by decide) v pre.length _ rfl (hout.row.alloc _) ⟨W2.heap.size, 0, none⟩ 1 1 [.int .i64 x] rfl rfl (cell_one_new _ _ _) (by simp [Value.oneCell']) (by simp [maxLen]; omega) (by omega) (by simp; omega) ?_; intro v' w1 hown hgrow hnil hat; obtain ⟨g, cap, rfl⟩ := ownsRow_succ hown; obtain ⟨hb1, hb2, hrow2, hA3, hy3⟩ := pushed hout.box (by decide) hout.row hown hgrow hat; have c4' := hb1.cell; have f4' := hb1.frozen)
    refine ⟨fun k => k = w.heap.size ∨ Value.ownBlock (.slice (some ⟨g, 0, none⟩) (pre.length + 1) cap) = some k, hA3.weaken (fun k _ h => (hC1 k).2 h), fun k h => h.elim (fun e => .inl ((hC1 k).2 (.inl e))) (fun h => (hy3 k h).imp (fun h => (hC1 k).2 (.inr h)) id), _, ⟨hb2, by simpa using hrow2⟩, fun _ => Iff.rfl⟩
  · rintro d C' W2 hd hdC hA hM ⟨v, hout, hC⟩ hk hK
    have c4 := hout.box.cell
    gi_wp2
    have hput : Acts (fun k => k = d) W2 (W2.putObj d (.deferred none)) := Acts.putObj _ _ _ rfl
    have hE : ∀ k, E k → (W2.putObj d (.deferred none)).heap[k]? = W2.heap[k]? := fun k hk => World.putObj_heap_other (by have := hDl k (.inr hk); omega)
    refine leave_mark1 rfl hK ⟨v, rfl, ?_, ?_, hKd _ _ hk hE⟩
    · exact (owns_keep hout.row (fun k e => hput.same k (hout.row.lt k e).2 (fun e' => hdC (by rw [← e']; exact (hC k).2 (.inr e))))).mono (by omega)
    · exact ((hA1 E).trans hA (fun j hj => by rcases hj with h | h; (· exact .inr (by omega)); exact .inl h)).trans hput (fun j e => .inr (by omega))
  · rintro d c pre C' W2 hd hdC hA hM hpre h
    exact h.elim
theorem collect_calls (gf : Nat) (lb : Array Value) (xs : List Int) (hlen : xs.length ≤ 1000) (D E : Nat → Prop) (Kd : World → Prop) (Ks : List Int → World → Prop) (w : World)
    (eg : ∀ args w, (callFunc gf args).run Try.prog w = .ok (.enter gf args) w) (hDl : ∀ k, D k ∨ E k → k < w.heap.size)
    (hKd : ∀ W W', Kd W → (∀ k, E k → W'.heap[k]? = W.heap[k]?) → Kd W') (hKs : ∀ pre W W', Ks pre W → (∀ k, E k → W'.heap[k]? = W.heap[k]?) → Ks pre W')
    (hG : Gives Try.prog gf lb ints xs D E Kd Ks w) :
    Calls Try.prog 30 #[.func (.func gf) #[] lb] w fun e w' => ∃ v, e = .returned v ∧ w'.ownsRow w.heap.size 3 1 v xs.length (xs.map (Value.int .i64)) ∧ Acts E w w' ∧ Kd w' := by
  go_enter Try.func30, Try.ntmps30
  go_wp2_with (go_at_call 36; refine (append_calls gf lb xs hlen D E Kd Ks w eg hDl hKd hKs hG).mono ?_; rintro e w' ⟨v, rfl, h1, h2, h3⟩)
  go_ret
  exact ⟨v, rfl, h1, h2, h3⟩

end Go.Proofs.Ytjbieekfjlmfmaa.Cuts07
