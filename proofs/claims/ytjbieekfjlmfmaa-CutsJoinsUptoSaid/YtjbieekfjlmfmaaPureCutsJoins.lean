/- CutsJoins, the plain law: any pieces are joined, one behind the other. -/
import Derived.Test.YtjbieekfjlmfmaaXCutsJoinsx1
import Derived.Lib.Strings
namespace Go.Proofs.Ytjbieekfjlmfmaa.Pure
open Go.RowKit Go.Proofs.Ytjbieekfjlmfmaa Go.Proofs.Ytjbieekfjlmfmaa.XCutsJoins Go.Proofs.YtjbieekfjlmfmaaW.PrintWords Go.Proofs.YtjbieekfjlmfmaaW.PrintLast Go.Proofs.YtjbieekfjlmfmaaW.PrintMore
set_option linter.unusedVariables false
set_option linter.unusedSimpArgs false

theorem toList_nil {x : ByteArray} : x.toList = ([] : List UInt8) ↔ x.size = 0 := by
  rw [ByteArray.toList_eq]
  constructor
  · intro h
    have := congrArg List.length h
    simpa using this
  · intro h
    exact List.eq_nil_of_length_eq_zero (by rw [Array.length_toList]; exact h)
/-- From k on it tells r. -/
def Tells {α : Type} (f : Nat → Option α) (r : α) : Prop := ∃ k, ∀ j, k ≤ j → f j = some r
theorem tells_of {α : Type} {f : Nat → Option α} {r : α} (hm : ∀ k, LeO (f k) (f (k + 1))) {k : Nat} (h : f k = some r) : Tells f r :=
  ⟨k, fun j hj => by
    obtain ⟨d, rfl⟩ := Nat.exists_eq_add_of_le hj
    induction d with
    | zero => exact h
    | succ d ih => exact hm _ _ (ih (by omega))⟩
theorem same_tells (l : List ByteArray) (hl : l.length ≤ 1000000) : Tells (fun k => quillpenref05_Same.f k l l) true := by
  have h : ∀ (d i : Nat), i + d = l.length → ∀ k, d < k → quillpenref05_Same.l0 k l l (l.length : Int) (i : Int) = some true := by
    intro d
    induction d with
    | zero =>
      intro i hi k hk
      obtain ⟨k, rfl⟩ := Nat.exists_eq_succ_of_ne_zero (show k ≠ 0 by omega)
      unfold quillpenref05_Same.l0
      rw [if_neg (by omega)]
    | succ d ih =>
      intro i hi k hk
      obtain ⟨k, rfl⟩ := Nat.exists_eq_succ_of_ne_zero (show k ≠ 0 by omega)
      unfold quillpenref05_Same.l0
      rw [if_pos (by omega), if_pos (by omega), if_pos (by omega), if_pos (by omega), if_pos rfl, show wrap64 ((i : Int) + 1) = ((i + 1 : Nat) : Int) from by unfold wrap64; omega]
      exact ih (i + 1) (by omega) k (by omega)
  refine ⟨l.length + 1, fun k hk => ?_⟩
  simp only [quillpenref05_Same.f, if_pos]
  exact h l.length 0 (by omega) k (by omega)
theorem sorted_313 : ([3, 1, 3] : List Int).mergeSort (fun x y => decide (x ≤ y)) = [1, 3, 3] := by
  simp [List.mergeSort, List.MergeSort.Internal.splitInTwo, List.merge]
set_option maxRecDepth 100000 in
theorem awake_tells : Tells quillpenlaw07_awake.f true := by
  refine tells_of quillpenlaw07_awake.mono (k := 10) ?_
  have hA : cuts_At.f 10 (⟨#[97, 98, 99, 100]⟩ : ByteArray) ([3, 1, 3] : List Int) = some [⟨#[97]⟩, ⟨#[98, 99]⟩, ⟨#[]⟩, ⟨#[100]⟩] := by
    have : slices_Sorted_int.f ([3, 1, 3] : List Int) = some [1, 3, 3] := by
      unfold slices_Sorted_int.f Cuts07.sortedF
      rw [sorted_313]; rfl
    unfold cuts_At.f
    rw [this]
    decide +kernel
  have hB : cuts_By.f 10 (⟨#[97, 98, 99, 100]⟩ : ByteArray) ([1, 2] : List Int) = some [⟨#[97]⟩, ⟨#[98, 99]⟩, ⟨#[100]⟩] := by decide +kernel
  unfold quillpenlaw07_awake.f
  rw [hA, Option.bind_some, hB]
  decide +kernel
open Go.Proofs.Ytjbieekfjlmfmaa.Cuts07 (allOf)
theorem fold_size (l : List ByteArray) : ∀ a : ByteArray, (l.foldl (· ++ ·) a).size = a.size + (l.map ByteArray.size).sum := by
  induction l with
  | nil => intro a; simp
  | cons x l ih => intro a; rw [List.foldl_cons, ih, ByteArray.size_append, List.map_cons, List.sum_cons]; omega
theorem joined_tells (l : List ByteArray) (hl : l.length ≤ 1000000) (hs : (allOf l).size ≤ 1000000000) : Tells (fun k => quillpenlaw07_joined.f k l) (allOf l) := by
  have h : ∀ (d i : Nat), i + d = l.length → ∀ k, d < k → quillpenlaw07_joined.l0 k ((l.take i).foldl (· ++ ·) ByteArray.empty) l (l.length : Int) (i : Int) = some (allOf l) := by
    intro d
    induction d with
    | zero =>
      intro i hi k hk
      obtain ⟨k, rfl⟩ := Nat.exists_eq_succ_of_ne_zero (show k ≠ 0 by omega)
      unfold quillpenlaw07_joined.l0
      rw [if_neg (by omega), List.take_of_length_le (by omega)]
      rfl
    | succ d ih =>
      intro i hi k hk
      obtain ⟨k, rfl⟩ := Nat.exists_eq_succ_of_ne_zero (show k ≠ 0 by omega)
      have hlt : i < l.length := by omega
      have hstep : (l.take i).foldl (· ++ ·) ByteArray.empty ++ rdOf ByteArray.empty l (i : Int) = (l.take (i + 1)).foldl (· ++ ·) ByteArray.empty := by
        rw [List.take_succ_eq_append_getElem hlt, List.foldl_append]
        simp [rdOf, hlt]
      have hsz : ((l.take (i + 1)).foldl (· ++ ·) ByteArray.empty).size ≤ (allOf l).size := by
        have e : allOf l = (l.drop (i + 1)).foldl (· ++ ·) ((l.take (i + 1)).foldl (· ++ ·) ByteArray.empty) := by
          rw [← List.foldl_append, List.take_append_drop]; rfl
        rw [e, fold_size (l.drop (i + 1))]
        omega
      unfold quillpenlaw07_joined.l0
      rw [if_pos (by omega), if_pos (by omega), if_pos (by omega), if_pos (by rw [← ByteArray.size_append, hstep]; omega), hstep, show wrap64 ((i : Int) + 1) = ((i + 1 : Nat) : Int) from by unfold wrap64; omega]
      exact ih (i + 1) (by omega) k (by omega)
  refine ⟨l.length + 1, fun k hk => ?_⟩
  exact h l.length 0 (by omega) k (by omega)
theorem ext_app (s : ByteArray) (a b c : Nat) (h1 : a ≤ b) (h2 : b ≤ c) : s.extract a b ++ s.extract b c = s.extract a c := by
  apply ByteArray.ext
  rw [ByteArray.data_append, ByteArray.data_extract, ByteArray.data_extract, ByteArray.data_extract, Array.extract_append_extract, Nat.min_eq_left h1, Nat.max_eq_right h2]
theorem ext_all (s : ByteArray) : s.extract 0 s.size = s := by
  apply ByteArray.ext
  rw [ByteArray.data_extract]
  exact Array.extract_size
theorem ext_none (s : ByteArray) (a : Nat) (h : s.size ≤ a) : s.extract a s.size = ByteArray.empty := by
  apply ByteArray.ext
  rw [ByteArray.data_extract]
  exact Array.eq_empty_of_size_eq_zero (by rw [Array.size_extract]; show min s.size s.size - a = 0; omega)
theorem app_none (a : ByteArray) : a ++ ByteArray.empty = a := ByteArray.append_empty
theorem none_app (a : ByteArray) : ByteArray.empty ++ a = a := ByteArray.empty_append
theorem joins_tells (l : List ByteArray) (hs : (allOf l).size ≤ 1048576) : ∃ k, quillpenlaw07_CutsJoins.f k l = some true := by
  obtain ⟨ka, ha⟩ := awake_tells
  by_cases c1 : (l.length : Int) > 60
  · exact ⟨ka, by unfold quillpenlaw07_CutsJoins.f; rw [if_pos c1, ha ka (by omega)]; rfl⟩
  · obtain ⟨k4, h4⟩ := joined_tells l (by omega) (by omega)
    have hj : cuts_Join.f l = some (allOf l) := by unfold cuts_Join.f Cuts07.joinF; rw [if_pos ⟨by omega, by omega⟩]
    refine ⟨ka + k4, ?_⟩
    have e4 := h4 (ka + k4) (by omega)
    have e5 := ha (ka + k4) (by omega)
    simp only at e4 e5
    unfold quillpenlaw07_CutsJoins.f
    rw [if_neg c1, hj, Option.bind_some, e4, Option.bind_some, if_pos rfl, e5]
    rfl
end Go.Proofs.Ytjbieekfjlmfmaa.Pure
