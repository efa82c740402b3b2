/- RowsChunk: the document's parting is the fold's. -/
import Derived.Test.YtncnnbfejomkoaaRd
import Derived.OpenShut
namespace Go.Proofs.Ytncnnbfejomkoaa.Rows14
open Go.RowKit
open PRowsChunk
set_option linter.unusedVariables false

def chFin (s : List (List Int) × List Int) : List (List Int) := if s.2 = [] then s.1 else s.1 ++ [s.2]
theorem ch_less (n : Int) : ∀ (ys cur : List Int) (acc : List (List Int)), ((cur.length + ys.length : Nat) : Int) < n → ys.foldl (chStep n) (acc, cur) = (acc, cur ++ ys) := by
  intro ys
  induction ys with
  | nil => intro cur acc _; simp
  | cons y ys ih =>
    intro cur acc h
    simp only [List.length_cons] at h
    have : chStep n (acc, cur) y = (acc, cur ++ [y]) := by unfold chStep; rw [if_pos (by simp only []; omega)]
    rw [List.foldl_cons, this, ih _ _ (by simp; omega)]
    simp
theorem ch_full (n : Int) : ∀ (ys cur : List Int) (acc : List (List Int)), ys ≠ [] → ((cur.length + ys.length : Nat) : Int) = n → ys.foldl (chStep n) (acc, cur) = (acc ++ [cur ++ ys], []) := by
  intro ys
  induction ys with
  | nil => intro cur acc h; exact absurd rfl h
  | cons y ys ih =>
    intro cur acc _ h
    simp only [List.length_cons] at h
    by_cases hy : ys = []
    · subst hy
      have : chStep n (acc, cur) y = (acc ++ [cur ++ [y]], []) := by unfold chStep; simp at h; rw [if_neg (by simp only []; omega)]
      rw [List.foldl_cons, this]; rfl
    · have h1 : 0 < ys.length := List.length_pos_iff.2 hy
      have : chStep n (acc, cur) y = (acc, cur ++ [y]) := by unfold chStep; rw [if_pos (by simp only []; omega)]
      rw [List.foldl_cons, this, ih _ _ hy (by simp; omega)]
      simp
theorem ch_loop (n : Int) (hn : 1 ≤ n) : ∀ (k : Nat) (xs : List Int) (acc : List (List Int)), xs.length < k → acc.length + xs.length < 1000 → quillpenref14_Chunk.l0 k xs n acc = some (chFin (xs.foldl (chStep n) (acc, []))) := by
  intro k
  induction k with
  | zero => intro xs acc h; omega
  | succ k ih =>
    intro xs acc hk ha
    unfold quillpenref14_Chunk.l0
    by_cases h1 : (xs.length : Int) > n
    · have hm : ((n.toNat : Nat) : Int) = n := Int.toNat_of_nonneg (by omega)
      have htl : (xs.take n.toNat).length = n.toNat := by rw [List.length_take]; omega
      rw [if_pos h1, if_pos (by omega), if_pos (by omega), if_pos (by omega), ih _ _ (by rw [List.length_drop]; omega) (by rw [List.length_append, List.length_drop]; simp; omega)]
      have := ch_full n (xs.take n.toNat) [] acc (by intro e; rw [e] at htl; simp at htl; omega) (by rw [htl]; simp; omega)
      conv => rhs; rw [← List.take_append_drop n.toNat xs, List.foldl_append, this]
      simp
    · rw [if_neg h1]
      by_cases h2 : (xs.length : Int) > 0
      · rw [if_pos h2, if_pos (by omega)]
        have hne : xs ≠ [] := by intro e; rw [e] at h2; simp at h2
        by_cases h3 : (xs.length : Int) < n
        · rw [ch_less n xs [] acc (by simpa using h3)]
          simp [chFin, hne]
        · rw [ch_full n xs [] acc hne (by simp; omega)]
          simp [chFin]
      · rw [if_neg h2]
        have : xs = [] := List.length_eq_zero_iff.1 (by omega)
        subst this
        simp [chFin]
theorem chunk_pure (l : List Int) (n : Int) (h : l.length ≤ 100) : ∃ k, quillpenref14_Chunk.f k l n = some (chunksOf n l) := by
  refine ⟨l.length + 1, ?_⟩
  unfold quillpenref14_Chunk.f chunksOf
  by_cases h1 : n < 1
  · rw [if_pos h1, if_pos h1]
  · rw [if_neg h1, if_neg h1, ch_loop n (by omega) _ _ _ (by omega) (by simp; omega)]
    rfl

open Go.Proofs.YtncnnbfejomkoaaW.PrintWords in
/-- THE LAW's WALK, as its row asks it. -/
theorem rowsChunk_walk (a0 : Option Addr) (len0 cap0 : Nat) (z0 : List Int) (a1 : Int) (w : World)
    (w0 : (a0 = none ∧ len0 = 0 ∧ cap0 = 0 ∧ z0 = []) ∨ ∃ x, a0 = some x ∧ len0 ≤ cap0 ∧ cap0 ≤ maxLen ∧ z0.length = cap0 ∧ (∀ i, i < z0.length → w.cell? (x.add i) = some (.int .i64 (z0.getD i 0))) ∧ ∀ n ∈ z0, (Lit.int .i64 n).wf = true)
    (y0 : len0 * 8 ≤ 140737488351232) (w1 : (Lit.int .i64 a1).wf = true) :
    Calls Try.prog 3 #[.slice a0 len0 cap0, .int .i64 a1] w fun e w' => e = .returned (.bool true) ∧ Below w.heap.size w w' := by
  obtain ⟨l0, rfl, hr0, hm0, hw0, hc0⟩ := ReadsInt.ofRowC w0
  have b1 := bounds_i64 w1
  exact chunk_walk a0 cap0 l0 a1 b1.1 b1.2 (fun x hx => bounds_i64 (hw0 x hx)) w (Kd.C_of_reads (d := (0 : Int)) (h1 := fun _ => rfl) hr0) hc0 (fun h => chunk_pure l0 a1 h)
end Go.Proofs.Ytncnnbfejomkoaa.Rows14
