/- A part of the reader. -/
import Derived.Test.YtmignbhpofmgeaaDoorProg
import Derived.Below
import Derived.Deep.Draws
import Derived.Deep.AppendLies
import Derived.Maps.AppendAt
import Derived.OwnWalk
import Derived.Laws.BytesArg
import Derived.Laws.MakeOwn
import Derived.Laws.OwnMore
import Derived.Deep.OwnRows
import Derived.Tactics
import Derived.Lib.ConvBytes
import Derived.Laws.Slices
import Derived.WalkKit
import Derived.KernelRfl
import Derived.RowKit3
import Derived.Deep.LoopGhost
import Derived.Deep.QuietTactic
import Derived.BigQuiet
import Derived.WideLaws
import Derived.Deep.DeepCutAuto
import Derived.Deep.CutBlock
import Derived.Deep.RegionHeld3
import Derived.Laws.Rows
import Derived.Lib.AppendStr
import Derived.ArgAppend
import Derived.Laws.IdiomCopy
import Derived.OrdersHeld
import Derived.Laws.BitsLemmas
import Derived.RowKit
import Derived.Test.YtmignbhpofmgeaaDoorWWords
import Derived.Test.YtmignbhpofmgeaaDoorWLast
import Derived.Test.YtmignbhpofmgeaaDoorWTab
import Derived.Test.YtmignbhpofmgeaaDoorWFour
import Derived.Test.YtmignbhpofmgeaaDoorWQPut
import Derived.Test.YtmignbhpofmgeaaDoorWApart
import Derived.Test.YtmignbhpofmgeaaDoorWArr
import Derived.Test.YtmignbhpofmgeaaDoorWZeros
import Derived.Test.YtmignbhpofmgeaaDoorWFoot
import Derived.Test.YtmignbhpofmgeaaDoorWKept
import Derived.Test.YtmignbhpofmgeaaDoorWShare
import Derived.Test.YtmignbhpofmgeaaDoorWN
import Derived.Test.YtmignbhpofmgeaaDoorWFootNe
import Derived.Test.YtmignbhpofmgeaaDoorWAt
import Derived.Test.YtmignbhpofmgeaaDoorWEqStruct
import Derived.Test.YtmignbhpofmgeaaDoorWRepsOne
import Derived.Test.YtmignbhpofmgeaaDoorWInv
import Derived.Test.YtmignbhpofmgeaaDoorWInvWords
import Derived.Test.YtmignbhpofmgeaaDoorWGuard
import Derived.Test.YtmignbhpofmgeaaDoorWNEv
import Derived.Test.YtmignbhpofmgeaaDoorWMore
import Derived.Test.YtmignbhpofmgeaaDoorIter
import Derived.RangeFuncBox
import Derived.Lib.ConvBytes
import Derived.Test.YtmignbhpofmgeaaDoorNf
import Derived.Test.YtmignbhpofmgeaaDoorOb
namespace Go.Proofs.YtmignbhpofmgeaaDoor.Top
open Go.RowKit Go.Proofs.YtmignbhpofmgeaaDoorW.PrintWords Go.Proofs.YtmignbhpofmgeaaDoorW.PrintLast Go.Proofs.YtmignbhpofmgeaaDoorW.PrintMore Go.Proofs.YtmignbhpofmgeaaDoor.Iter
set_option linter.unusedVariables false
set_option linter.unusedSimpArgs false

theorem feedL_app : ∀ (xs ys : List Int) (r : RS), r.fk = 0 → feedL (xs ++ ys) r = if (feedL xs r).fk = 0 then feedL ys (feedL xs r) else feedL xs r
  | [], ys, r, h => by rw [List.nil_append, feedL, if_pos h]
  | c :: cs, ys, r, h => by
    obtain ⟨h1, h2, h3⟩ := stepR_fk r c
    rw [List.cons_append, feedL, feedL]
    by_cases ht : (stepR r c).2 = true
    · rw [if_pos ht, if_pos ht]
      exact feedL_app cs ys _ ((h1 ht).1.trans h)
    · rw [if_neg ht, if_neg ht, if_neg (h2 (by simpa using ht))]
/-- Piece by piece. -/
def feedP (ps : List (List Int)) (r : RS) : RS := ps.foldl (fun r p => feedB p r) r
theorem feedP_stuck : ∀ (ps : List (List Int)) (r : RS), r.closed = true ∨ r.fk ≠ 0 → feedP ps r = r
  | [], r, h => rfl
  | p :: ps, r, h => by
    show feedP ps (feedB p r) = r
    rw [show feedB p r = r from if_pos h]
    exact feedP_stuck ps r h
theorem feedP_all : ∀ (ps : List (List Int)) (r : RS), r.closed = false → r.fk = 0 → feedP ps r = feedL ps.flatten r
  | [], r, h, h0 => rfl
  | p :: ps, r, h, h0 => by
    show feedP ps (feedB p r) = _
    have e : feedB p r = feedL p r := if_neg (by rw [h]; simp [h0])
    rw [e, List.flatten_cons, feedL_app p _ r h0]
    by_cases hk : (feedL p r).fk = 0
    · rw [if_pos hk]
      exact feedP_all ps _ ((feedL_fk p r).2.trans h) hk
    · rw [if_neg hk]
      exact feedP_stuck ps _ (.inr hk)
theorem bytesOf_app (a b : ByteArray) : bytesOf (a ++ b) = bytesOf a ++ bytesOf b := by
  unfold bytesOf
  rw [ByteArray.data_append, Array.toList_append, List.map_append]
theorem bytesOf_fold : ∀ (l : List ByteArray) (a : ByteArray), bytesOf (l.foldl (· ++ ·) a) = bytesOf a ++ (l.map bytesOf).flatten
  | [], a => by simp
  | x :: l, a => by rw [List.foldl_cons, bytesOf_fold l, bytesOf_app, List.map_cons, List.flatten_cons, List.append_assoc]
theorem bytesOf_all (l : List ByteArray) : bytesOf (Pure.allOf l) = (l.map bytesOf).flatten := by
  unfold Pure.allOf
  rw [bytesOf_fold]
  rfl
/-- The rows that lie ready are no longer than this. -/
def Rowed (N : Nat) (r : RS) : Prop := r.maker.record.length ≤ N ∧ ∀ l ∈ r.ready, l.length ≤ N
theorem takeM_row (m : MS) (e : Ev) : (takeM m e).2.1.length ≤ m.record.length + 2 := by
  have h1 : (take1 m e).record.length ≤ m.record.length + 2 := by
    unfold take1
    split
    · exact (gatherM_keeps m e).2
    · show m.record.length ≤ _; omega
  unfold takeM
  split
  · exact h1
  · exact Nat.zero_le _
theorem Rowed.event {N : Nat} {r : RS} (h : Rowed N r) (ev : Ev) (f a : Int) : Rowed (N + 2) (eventR r ev f a).1 := by
  obtain ⟨h1, h2⟩ := h
  have hm := (takeM_small r.maker ev).2
  have hr := takeM_row r.maker ev
  have hl : ∀ l ∈ r.ready, l.length ≤ N + 2 := fun l hl => by have := h2 l hl; omega
  unfold eventR
  split
  · split
    · refine ⟨by show (takeM r.maker ev).1.record.length ≤ _; omega, ?_⟩
      show ∀ l ∈ (if (takeM r.maker ev).2.2.1 = true then r.ready ++ [(takeM r.maker ev).2.1] else r.ready), l.length ≤ N + 2
      split
      · intro l hl'
        rcases List.mem_append.1 hl' with h | h
        · exact hl l h
        · rw [List.mem_singleton] at h; subst h; omega
      · exact hl
    · exact ⟨by show (takeM r.maker ev).1.record.length ≤ _; omega, hl⟩
  · exact ⟨by show r.maker.record.length ≤ _; omega, hl⟩
theorem Rowed.mono {N N' : Nat} {r : RS} (h : Rowed N r) (hn : N ≤ N') : Rowed N' r := ⟨by have := h.1; omega, fun l hl => by have := h.2 l hl; omega⟩
theorem Rowed.take {a : Int} {n : Nat} : ∀ (xs : List Int) (i N : Nat) (r : RS), Rowed N r → Rowed (N + 2 * xs.length) (takeL a n i xs r).1
  | [], i, N, r, h => h
  | c :: cs, i, N, r, h => by
    have he := Rowed.event (r := { r with state := (scanS r.de r.qu r.en r.state c).2.1 }) (N := N) h (scanS r.de r.qu r.en r.state c).1 (scanS r.de r.qu r.en r.state c).2.2 (a - n + 1 + i)
    unfold takeL
    split
    · exact (Rowed.take cs (i + 1) (N + 2) _ he).mono (by simp only [List.length_cons]; omega)
    · exact he.mono (by simp only [List.length_cons]; omega)
theorem Rowed.cut {N : Nat} {r : RS} (h : Rowed N r) (hh : r.mark.held ≤ 2) (k : Int) : Rowed (N + 8) (cutR r k) := by
  have hc := (Rowed.take (a := r.offset - 1) (n := (closeS r.mark).2.length) (closeS r.mark).2 0 N { r with mark := (closeS r.mark).1 } h).mono (N' := N + 8) (by have := closeS_len r.mark hh; omega)
  unfold cutR
  split
  · exact hc
  · exact hc
theorem Rowed.step {N : Nat} {r : RS} (h : Rowed N r) (hh : r.mark.held ≤ 2) (c : Int) : Rowed (N + 8) (stepR r c).1 := by
  unfold stepR
  split
  · exact (Rowed.take (a := r.offset) (n := (feedS r.mark c).2.length) (feedS r.mark c).2 0 N { r with utf := (stepU r.utf c).1.toNat, offset := r.offset + 1, mark := (feedS r.mark c).1 } h).mono (by have := feedS_len3 r.mark c hh; omega)
  · exact h.cut hh 3
theorem Rowed.feedL : ∀ (xs : List Int) (N M : Nat) (r : RS), Rowed N r → Fine M r → Rowed (N + 8 * xs.length) (Top.feedL xs r)
  | [], N, M, r, h, _ => h
  | c :: cs, N, M, r, h, hf => by
    have hs := Rowed.step h hf.2.2.2.1 c
    unfold Top.feedL
    split
    · rename_i ht
      exact (Rowed.feedL cs (N + 8) (M + 1) _ hs (hf.step c ht)).mono (by simp only [List.length_cons]; omega)
    · exact hs.mono (by simp only [List.length_cons]; omega)
/-- Where feeding ends without a fault, it stands so that it can go on. -/
theorem feedL_fine : ∀ (xs : List Int) (M : Nat) (r : RS), Fine M r → r.fk = 0 → (feedL xs r).fk = 0 → Fine (M + xs.length) (feedL xs r)
  | [], M, r, h, _, _ => h
  | c :: cs, M, r, h, h0, hk => by
    obtain ⟨h1, h2, h3⟩ := stepR_fk r c
    unfold feedL at hk ⊢
    split
    · rename_i ht
      rw [if_pos ht] at hk
      have := feedL_fine cs (M + 1) _ (h.step c ht) ((h1 ht).1.trans h0) hk
      rw [show M + (c :: cs).length = M + 1 + cs.length by simp only [List.length_cons]; omega]
      exact this
    · rename_i ht
      rw [if_neg ht] at hk
      exact absurd hk (h2 (by simpa using ht))
theorem Small.close {N M : Nat} {r : RS} (h : Small N r) (hM : r.closed = true ∨ r.fk ≠ 0 ∨ Fine M r) : Small (N + 8) (closeR r) := by
  unfold closeR
  split
  · exact h.mono (by omega)
  · rename_i hst
    have hf : Fine M r := hM.elim (fun h => absurd (Or.inl h) hst) (fun h => h.elim (fun h => absurd (Or.inr h) hst) id)
    split
    · have hc := (Small.take (a := r.offset - 1) (n := (closeS r.mark).2.length) (closeS r.mark).2 0 N { r with closed := true, mark := (closeS r.mark).1 } h).mono (N' := N + 8) (by have := closeS_len r.mark hf.2.2.2.1; omega)
      unfold cutR
      split
      · exact hc
      · exact hc
    · exact (Small.event (r := { r with closed := true }) (N := N) h _ _ _).mono (by omega)
theorem Rowed.close {N M : Nat} {r : RS} (h : Rowed N r) (hM : r.closed = true ∨ r.fk ≠ 0 ∨ Fine M r) : Rowed (N + 8) (closeR r) := by
  unfold closeR
  split
  · exact Rowed.mono (r := { r with closed := true }) h (by omega)
  · rename_i hst
    have hf : Fine M r := hM.elim (fun h => absurd (Or.inl h) hst) (fun h => h.elim (fun h => absurd (Or.inr h) hst) id)
    split
    · exact Rowed.cut (r := { r with closed := true }) h hf.2.2.2.1 12
    · exact (Rowed.event (r := { r with closed := true }) (N := N) h _ _ _).mono (by omega)
theorem table_tells (l : List (List ByteArray)) (N : Nat) (hN : N ≤ 1000000) (hl : l.length ≤ 1000000) (hr : ∀ x ∈ l, x.length ≤ N) : Pure.Tells (fun k => PTopChunks.quillpenref05_SameTable.f k l l) true := by
  have hb : ∃ K, ∀ x ∈ l, ∀ k, K ≤ k → PTopChunks.quillpenref05_Same.f k x x = some true := by
    clear hl
    induction l with
    | nil => exact ⟨0, fun x hx => by cases hx⟩
    | cons a l ih =>
      obtain ⟨K, hK⟩ := ih (fun x hx => hr x (List.mem_cons_of_mem _ hx))
      obtain ⟨K2, hK2⟩ := Pure.same_tells a (by have := hr a (List.mem_cons_self ..); omega)
      refine ⟨K + K2, fun x hx k hk => ?_⟩
      rcases List.mem_cons.1 hx with rfl | hx
      · exact hK2 k (by omega)
      · exact hK x hx k (by omega)
  obtain ⟨K, hK⟩ := hb
  have h : ∀ (d i : Nat), i + d = l.length → ∀ k, d + K < k → PTopChunks.quillpenref05_SameTable.l0 k l l (l.length : Int) (i : Int) = some true := by
    intro d
    induction d with
    | zero =>
      intro i hi k hk
      obtain ⟨k, rfl⟩ := Nat.exists_eq_succ_of_ne_zero (show k ≠ 0 by omega)
      unfold PTopChunks.quillpenref05_SameTable.l0
      rw [if_neg (by omega)]
    | succ d ih =>
      intro i hi k hk
      obtain ⟨k, rfl⟩ := Nat.exists_eq_succ_of_ne_zero (show k ≠ 0 by omega)
      have hlt : i < l.length := by omega
      have hx : PTopChunks.rd_L3 l (i : Int) ∈ l := by
        unfold PTopChunks.rd_L3
        rw [Int.toNat_natCast, List.getD_eq_getElem?_getD, List.getElem?_eq_getElem hlt]
        exact List.getElem_mem hlt
      unfold PTopChunks.quillpenref05_SameTable.l0
      rw [if_pos (by omega), if_pos (by omega), if_pos (by omega), if_pos (by omega), hK _ hx k (by omega), Option.bind_some, if_pos rfl, show wrap64 ((i : Int) + 1) = ((i + 1 : Nat) : Int) from by unfold wrap64; omega]
      exact ih (i + 1) (by omega) k (by omega)
  refine ⟨l.length + K + 1, fun k hk => ?_⟩
  show PTopChunks.quillpenref05_SameTable.f k l l = some true
  unfold PTopChunks.quillpenref05_SameTable.f
  rw [if_pos rfl]
  exact h l.length 0 (by omega) k (by omega)
end Go.Proofs.YtmignbhpofmgeaaDoor.Top
