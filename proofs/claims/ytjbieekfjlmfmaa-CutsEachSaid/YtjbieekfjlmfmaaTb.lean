/- slices.ContainsFunc over 'n > 0'; slices.Sorted over slices.Values: their contracts. -/
import Derived.Test.YtjbieekfjlmfmaaTa
import Derived.Test.YtjbieekfjlmfmaaSh
import Derived.Sort.OwnSortedInts
namespace Go.Proofs.Ytjbieekfjlmfmaa.Cuts07
open Go.RowKit Go.Shelf Go.Proofs.YtjbieekfjlmfmaaW.PrintWords Go.Proofs.YtjbieekfjlmfmaaW.PrintLast Go.Proofs.YtjbieekfjlmfmaaW.PrintMore Go.Proofs.Ytjbieekfjlmfmaa.Iter
set_option linter.unusedVariables false
set_option linter.unusedSimpArgs false
attribute [local go_sem] Oper.semAt_some

def isPos (n : Int) : Bool := decide (0 < n)
theorem pos_calls (x : Int) (w : World) : Calls Try.prog 22 #[.int .i64 x] w fun e w' => e = .returned (.bool (isPos x)) ∧ w = w' := by
  go_enter Try.func22, Try.ntmps22
  go_wp2
  go_ret
  exact ⟨rfl, rfl⟩
set_option maxHeartbeats 1000000 in
theorem index_calls (A : Option Addr) (c : Nat) (l : List Int) (w : World) (hC : (Kd.int .i64).C w A l.length l) (hl : l.length ≤ 1000) :
    Calls Try.prog 29 #[.slice A l.length c, .func (.func 22) #[] #[]] w fun e w' => ∃ r : Int, e = .returned (.int .i64 r) ∧ decide (r ≥ 0) = l.any isPos ∧ ∃ m, w' = w.drewN m := by
  go_enter Try.func29, Try.ntmps29
  go_wp2
  go_loopw [8] (fun z wr => ∃ (k m : Nat), k ≤ l.length ∧ z = .int .i64 k ∧ wr = w.drewN m ∧ ∀ x ∈ l.take k, isPos x = false)
    (fun z _ => l.length - (intOf z).toNat)
  case atStart => exact ⟨0, 0, Nat.zero_le _, rfl, rfl, by simp⟩
  case round =>
    obtain ⟨k, m, hk, rfl, hwm, hall⟩ := hrel
    have hCr : (Kd.int .i64).C wr A l.length l := by rw [hwm]; exact Kd.C_drewN hC _
    have hwA := Aside0.mk hwm
    clear hwm
    by_cases hlt : k < l.length
    · obtain ⟨ad, rfl, hcell⟩ := Kd.at_int hCr (k : Int) (by omega) (by omega)
      rw [rd_get hlt, Int.toNat_natCast] at hcell
      have hi0 : (0 : Int) ≤ (k : Int) := by omega
      have hi1 : (k : Int) < (l.length : Int) := by omega
      have hd : decide ((k : Int) < (l.length : Int)) = true := decide_eq_true hi1
      cases hpk : isPos l[k] with
      | true =>
        go_wp2_with (go_at_call 22; refine (pos_calls l[k] _).mono ?_; rintro e w' ⟨rfl, rfl⟩)
        go_ret
        refine ⟨k, rfl, ?_, m, hwA.out⟩
        have h1 : l.any isPos = true := List.any_eq_true.2 ⟨l[k], List.getElem_mem hlt, hpk⟩
        rw [h1]
        exact decide_eq_true (by omega)
      | false =>
        go_wp2_with (go_at_call 22; refine (pos_calls l[k] _).mono ?_; rintro e w' ⟨rfl, rfl⟩)
        go_roundw
        case rel => exact ⟨k + 1, m, by omega, by simp, hwA.out, fun y hy => by
          rw [take_more hlt] at hy
          rcases List.mem_append.1 hy with h | h
          · exact hall y h
          · rw [List.mem_singleton.1 h]; exact hpk⟩
        case measure => simp [intOf]; omega
    · obtain rfl : k = l.length := by omega
      have hd : decide ((l.length : Int) < (l.length : Int)) = false := decide_eq_false (by omega)
      go_wp2
      go_ret
      refine ⟨-1, rfl, ?_, m, hwA.out⟩
      rw [List.take_length] at hall
      have h1 : l.any isPos = false := List.any_eq_false.2 (fun x hx => by simp [hall x hx])
      rw [h1]
      rfl
/-- Is any of them above nought; lists of up to 1000. -/
def containsF (l : List Int) : Option Bool := if l.length ≤ 1000 then some (l.any isPos) else none
theorem contains_calls (A : Option Addr) (c : Nat) (l : List Int) (r : Bool) (w : World) (hC : (Kd.int .i64).C w A l.length l) (h : containsF l = some r) :
    Calls Try.prog 21 #[.slice A l.length c, .func (.func 22) #[] #[]] w fun e w' => e = .returned (.bool r) ∧ Below w.heap.size w w' := by
  unfold containsF at h
  split at h
  case isFalse => cases h
  case isTrue hl =>
    obtain rfl := Option.some.inj h
    go_enter Try.func21, Try.ntmps21
    go_wp2_with (go_at_call 29; refine (index_calls A c l _ hC hl).mono ?_; rintro e w' ⟨q, rfl, hq, m, rfl⟩)
    go_ret
    exact ⟨by rw [← hq]; rfl, pw_below_drewN (Below.refl _ _) _⟩
/-- The same in order; lists of up to 1000. -/
def sortedF (l : List Int) : Option (List Int) := if l.length ≤ 1000 then some (l.mergeSort fun x y => decide (x ≤ y)) else none
theorem sorted_calls (A : Option Addr) (c : Nat) (l r : List Int) (w : World) (hC : (Kd.int .i64).C w A l.length l) (h : sortedF l = some r) :
    Calls Try.prog 26 #[.func (.func 32) #[] #[.pointer (some ⟨w.heap.size, 0, none⟩)]] (w.alloc (.cells #[.slice A l.length c] 22)) fun e w' => ∃ v, e = .returned v ∧ w'.ownsRow w.heap.size 3 1 v r.length (r.map (Value.int .i64)) ∧ Below w.heap.size w w' := by
  unfold sortedF at h
  split at h
  case isFalse => cases h
  case isTrue hl =>
    obtain rfl := Option.some.inj h
    obtain ⟨W, hW⟩ : ∃ W, w.alloc (.cells #[.slice A l.length c] 22) = W := ⟨_, rfl⟩
    have hs : W.heap.size = w.heap.size + 1 := by rw [← hW]; simp
    have hA1 : Acts (fun _ => False) w W := by rw [← hW]; exact Acts.alloc _ _ _
    have hBs : W.heap[w.heap.size]? = some (.cells #[.slice A l.length c] 22 (0, 0)) := by rw [← hW]; exact World.alloc_heap_new w _
    have hCW : (Kd.int .i64).C W A l.length l := int_moves hC (fun k hk => hA1.same k (row_live hC k hk) id)
    have hG := values_gives w.heap.size A c l W hBs hCW
    have hcol := collect_calls 32 _ l hl _ (fun _ => False) _ _ W enters32 (fun k hk => by
      rcases hk with (h | h) | h
      · omega
      · exact row_live hCW k h
      · exact h.elim) (fun _ _ _ _ => trivial) (fun pre W W' h _ => h) hG
    rw [hW]
    have hbW : Below w.heap.size w W := hA1.below (Nat.le_refl _) (fun _ _ h => h)
    have hszz := Aside0.mk hs
    clear hW hs hBs hG hA1
    go_enter Try.func26, Try.ntmps26
    go_wp2_with (go_at_call 30; refine hcol.mono ?_; rintro e w2 ⟨v, rfl, hrow, hA2, _⟩)
    have hb2 : Below w.heap.size w w2 := hbW.trans (hA2.below hbW.size (fun _ _ h => h))
    rcases hrow.2 with ⟨rfl, hz⟩ | ⟨gb, cap, cur, rfl, hbase, hgb, r1, r2, r3, r4⟩
    · obtain rfl : l = [] := List.eq_nil_of_length_eq_zero hz
      go_wp2_with (go_at_call 31; refine (Try.slices_Sort_int_none none 0 w2).mono ?_; rintro e w' ⟨rfl, rfl⟩)
      go_ret
      exact ⟨_, rfl, by simpa using hrow.mono hbW.size, hb2⟩
    · have hgl : gb < w2.heap.size := (Array.getElem?_eq_some_iff.1 hgb).1
      have cS := Try.slices_Sort_int gb 0 cap l w2 (Go.holds_of_blockI hgb (by simpa using r4)) hgl (by omega)
      clear hCW hC hcol hrow
      go_wp2_with (go_at_call 31; refine cS.mono ?_; rintro e w' ⟨rfl, nn, os, rfl⟩)
      go_ret
      refine ⟨_, rfl, ?_, hb2.grown (Go.grownBy_sortedI _) hb2.size (fun j hj => by cases hj; have := hszz.out; omega)⟩
      have := Go.ownsRow_sortedI (n := nn) (os := os) (base := w.heap.size) (ss := l) (ts := l.mergeSort fun x y => decide (x ≤ y)) (by simp) (by have := hszz.out; omega) hgb r1 r2 r3
      rw [show (l.mergeSort fun x y => decide (x ≤ y)).length = l.length from by simp]
      exact this
end Go.Proofs.Ytjbieekfjlmfmaa.Cuts07
