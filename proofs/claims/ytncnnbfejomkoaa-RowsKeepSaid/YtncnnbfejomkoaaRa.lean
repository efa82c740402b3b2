/- slices.Values and rows.Of at ints: their contracts. -/
import Derived.Test.YtncnnbfejomkoaaIter
import Derived.Test.YtncnnbfejomkoaaPRowsChunkx0
import Derived.RangeFuncBox
import Derived.Shelf.Abstract
import Derived.WalkKit
import Derived.OwnWalkIn
import Derived.TacticsInMore
import Derived.LoopNIn
import Derived.LoopIn
namespace Go.Proofs.Ytncnnbfejomkoaa.Rows14
open Go.RowKit Go.Shelf Go.Proofs.YtncnnbfejomkoaaW.PrintWords Go.Proofs.YtncnnbfejomkoaaW.PrintLast Go.Proofs.YtncnnbfejomkoaaW.PrintMore Go.Proofs.Ytncnnbfejomkoaa.Iter
set_option linter.unusedVariables false
set_option linter.unusedSimpArgs false
attribute [local go_sem] Oper.semAt_some

/-- The block of a slice's elements, where it has any. -/
def rowOf (A : Option Addr) (n : Nat) (k : Nat) : Prop := 0 < n ∧ ∃ ad, A = some ad ∧ k = ad.block
theorem int_moves {w w1 : World} {A : Option Addr} {n : Nat} {xs : List Int} (h : (Kd.int .i64).C w A n xs) (hm : ∀ k, rowOf A n k → w1.heap[k]? = w.heap[k]?) : (Kd.int .i64).C w1 A n xs :=
  ⟨h.1, h.2.1, fun hn => by
    obtain ⟨ad, e, hc⟩ := h.2.2 hn
    refine ⟨ad, e, fun j p hj => ?_⟩
    obtain ⟨c, hs, hr, hcell⟩ := hc j p hj
    refine ⟨c, hs, hr, fun i u hu => ?_⟩
    have hb : w1.heap[(ad.add (j * (Kd.int .i64).sz + i)).block]? = w.heap[(ad.add (j * (Kd.int .i64).sz + i)).block]? := hm _ ⟨hn, ad, e, by unfold Addr.add; split <;> rfl⟩
    exact (World.cell?_of_block hb).trans (hcell i u hu)⟩
theorem row_live {w : World} {A : Option Addr} {n : Nat} {xs : List Int} (h : (Kd.int .i64).C w A n xs) (k : Nat) (hk : rowOf A n k) : k < w.heap.size := by
  obtain ⟨hn, ad, rfl, rfl⟩ := hk
  obtain ⟨ad', e, hc⟩ := Kd.at_int h 0 (by omega) (by omega)
  obtain rfl := Option.some.inj e
  have := World.block_lt_of_cell? w _ hc
  rwa [show (ad.add (0 : Int).toNat).block = ad.block from by unfold Addr.add; split <;> rfl] at this
theorem take_more {α : Type} {xs : List α} {k : Nat} (h : k < xs.length) : xs.take (k + 1) = xs.take k ++ [xs[k]] := by rw [List.take_succ_eq_append_getElem h]
theorem rd_get {xs : List Int} {k : Nat} (h : k < xs.length) : rd xs (k : Int) = xs[k] := by simp [rd, h]

/-- slices.Values: the slice value is boxed; the function value captures the box. -/
theorem values_calls (a : Option Addr) (len cap : Nat) (w : World) :
    Calls Try.prog 34 #[.slice a len cap] w fun e w' => e = .returned (.func (.func 45) #[] #[.pointer (some ⟨w.heap.size, 0, none⟩)]) ∧ w.alloc (.cells #[.slice a len cap] 22) = w' := by
  go_enter Try.func34, Try.ntmps34
  go_wp2
  go_ret
  exact ⟨rfl, rfl⟩
theorem of_calls (a : Option Addr) (len cap : Nat) (w : World) :
    Calls Try.prog 10 #[.slice a len cap] w fun e w' => e = .returned (.func (.func 45) #[] #[.pointer (some ⟨w.heap.size, 0, none⟩)]) ∧ w.alloc (.cells #[.slice a len cap] 22) = w' := by
  go_enter Try.func10, Try.ntmps10
  go_wp2_with (go_at_call 34; refine (values_calls _ _ _ _).mono ?_; rintro e w' ⟨rfl, rfl⟩)
  go_ret
  exact ⟨rfl, rfl⟩

set_option maxRecDepth 100000 in
set_option maxHeartbeats 2000000 in
/-- What slices.Values hands back tells the slice's elements, in order. -/
theorem values_gives (Bs : Nat) (A : Option Addr) (c : Nat) (xs : List Int) (w : World) (hb : w.heap[Bs]? = some (.cells #[.slice A xs.length c] 22 (0, 0))) (hC : (Kd.int .i64).C w A xs.length xs) :
    Gives Try.prog 45 #[.pointer (some ⟨Bs, 0, none⟩)] (Plain fun x : Int => #[.int .i64 x]) xs (fun k => k = Bs ∨ rowOf A xs.length k) (fun _ => False) (fun _ => True) (fun _ _ => True) w := by
  intro l J Jx C W hz hD hJ hJx hdis h0 hY
  have hBs : W.cell? ⟨Bs, 0, none⟩ = some (.slice A xs.length c) := (blk_cell ((hD Bs (.inl (.inl rfl))).trans hb) 0).trans rfl
  have hCW : (Kd.int .i64).C W A xs.length xs := int_moves hC (fun k hk => hD k (.inl (.inr hk)))
  have hmax := hCW.2.1
  have hnd : ∀ k, rowOf A xs.length k → ¬ C k := fun k hk => hdis k (.inl (.inr hk))
  refine (callsIn_wide (n := 1)).1 (callsIn_of_wp Try.func45 rfl trivial ?_ rfl)
  simp only [Try.ntmps45, List.size_toArray, List.length_cons, List.length_nil, Nat.reduceAdd, Nat.reduceSub, Array.replicate_succ, Array.replicate_zero, List.push_toArray, List.append_toArray, List.nil_append, List.cons_append]
  gi_wp2
  gi_loopw [7] (fun i wr => ∃ (k : Nat) (C1 : Nat → Prop), k ≤ xs.length ∧ i = .int .i64 k ∧ J (xs.take k) C1 wr ∧ Acts C W wr ∧ More W C C1)
    (fun i _ => xs.length - (intOf i).toNat)
  case atStart => exact ⟨0, C, Nat.zero_le _, rfl, h0, Acts.refl _ _, More.refl _ _⟩
  case round =>
    obtain ⟨k, C1, hk, rfl, hJs, hA, hM⟩ := hrel
    by_cases hlt : k < xs.length
    · have hCr : (Kd.int .i64).C wr A xs.length xs := int_moves hCW (fun k hk => hA.same k (row_live hCW k hk) (hnd k hk))
      obtain ⟨ad, rfl, hcell⟩ := Kd.at_int hCr (k : Int) (by omega) (by omega)
      rw [rd_get hlt, Int.toNat_natCast] at hcell
      obtain ⟨fn, tmps, assign, body, hy, hR⟩ := hY (xs.take k) xs[k] _ (fun _ => False) C1 wr hJs (by rw [← take_more hlt]; exact List.take_prefix _ _) ⟨rfl, fun _ h => h⟩ (fun _ h => h.elim) (fun _ h => h.elim) (hA.weaken (fun _ _ h => .inl h)) hM
      dsimp only at hy
      rw [← take_more hlt] at hR
      clear hCr hCW hC hb hD hdis hnd hY
      gi_wp2
      refine hR.mono ?_
      rintro e W3 (⟨rfl, C2, hA3, hM3, hJ3⟩ | ⟨rfl, C2, hA3, hM3, hJ3⟩) <;> (replace hA3 := hA3.weaken (C' := C1) (fun _ _ h => h.elim id False.elim); replace hM3 : More wr C1 C2 := fun k h => (hM3 k h).elim (fun h => h.elim .inl False.elim) .inr)
      · gi_wp2
        go_roundw
        case rel => exact ⟨k + 1, C2, by omega, by simp, hJ3, hA.trans hA3 hM, hM.trans hM3 hA.size⟩
        case measure => simp [intOf]; omega
      · gi_wp2
        refine bodyPost_ret (results_none rfl _ _ _) rfl ?_
        exact ⟨⟨_, rfl⟩, C2, (hA.trans hA3 hM).weaken (fun _ _ h => .inl h), hM.trans hM3 hA.size, .inr ⟨_, List.take_prefix _ _, hJ3, trivial⟩⟩
    · obtain rfl : k = xs.length := by omega
      rw [List.take_length] at hJs
      gi_wp2
      go_end0
      exact ⟨⟨_, rfl⟩, C1, hA.weaken (fun _ _ h => .inl h), hM, .inl ⟨hJs, trivial⟩⟩
end Go.Proofs.Ytncnnbfejomkoaa.Rows14
