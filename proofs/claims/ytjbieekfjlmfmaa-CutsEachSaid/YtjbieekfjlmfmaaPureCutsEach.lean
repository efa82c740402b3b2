/- CutsEach, the plain law: the pieces, and what awake tells. -/
import Derived.Test.YtjbieekfjlmfmaaTe
import Derived.Lib.Strings
namespace Go.Proofs.Ytjbieekfjlmfmaa.Pure
open Go.RowKit Go.Proofs.Ytjbieekfjlmfmaa Go.Proofs.Ytjbieekfjlmfmaa.XCutsEach Go.Proofs.YtjbieekfjlmfmaaW.PrintWords Go.Proofs.YtjbieekfjlmfmaaW.PrintLast Go.Proofs.YtjbieekfjlmfmaaW.PrintMore
set_option linter.unusedVariables false
set_option linter.unusedSimpArgs false

theorem toList_nil {x : ByteArray} : x.toList = ([] : List UInt8) ↔ x.size = 0 := by
  rw [ByteArray.toList_eq]
  constructor
  · intro h
    have := congrArg List.length h
    simpa using this
  · intro h
    exact List.eq_nil_of_length_eq_zero (by rw [Array.length_toList]; exact h)
/-- From k on it tells r. -/
def Tells {α : Type} (f : Nat → Option α) (r : α) : Prop := ∃ k, ∀ j, k ≤ j → f j = some r
theorem tells_of {α : Type} {f : Nat → Option α} {r : α} (hm : ∀ k, LeO (f k) (f (k + 1))) {k : Nat} (h : f k = some r) : Tells f r :=
  ⟨k, fun j hj => by
    obtain ⟨d, rfl⟩ := Nat.exists_eq_add_of_le hj
    induction d with
    | zero => exact h
    | succ d ih => exact hm _ _ (ih (by omega))⟩
theorem same_tells (l : List ByteArray) (hl : l.length ≤ 1000000) : Tells (fun k => quillpenref05_Same.f k l l) true := by
  have h : ∀ (d i : Nat), i + d = l.length → ∀ k, d < k → quillpenref05_Same.l0 k l l (l.length : Int) (i : Int) = some true := by
    intro d
    induction d with
    | zero =>
      intro i hi k hk
      obtain ⟨k, rfl⟩ := Nat.exists_eq_succ_of_ne_zero (show k ≠ 0 by omega)
      unfold quillpenref05_Same.l0
      rw [if_neg (by omega)]
    | succ d ih =>
      intro i hi k hk
      obtain ⟨k, rfl⟩ := Nat.exists_eq_succ_of_ne_zero (show k ≠ 0 by omega)
      unfold quillpenref05_Same.l0
      rw [if_pos (by omega), if_pos (by omega), if_pos (by omega), if_pos (by omega), if_pos rfl, show wrap64 ((i : Int) + 1) = ((i + 1 : Nat) : Int) from by unfold wrap64; omega]
      exact ih (i + 1) (by omega) k (by omega)
  refine ⟨l.length + 1, fun k hk => ?_⟩
  simp only [quillpenref05_Same.f, if_pos]
  exact h l.length 0 (by omega) k (by omega)
theorem sorted_313 : ([3, 1, 3] : List Int).mergeSort (fun x y => decide (x ≤ y)) = [1, 3, 3] := by
  simp [List.mergeSort, List.MergeSort.Internal.splitInTwo, List.merge]
set_option maxRecDepth 100000 in
theorem awake_tells : Tells quillpenlaw07_awake.f true := by
  refine tells_of quillpenlaw07_awake.mono (k := 10) ?_
  have hA : cuts_At.f 10 (⟨#[97, 98, 99, 100]⟩ : ByteArray) ([3, 1, 3] : List Int) = some [⟨#[97]⟩, ⟨#[98, 99]⟩, ⟨#[]⟩, ⟨#[100]⟩] := by
    have : slices_Sorted_int.f ([3, 1, 3] : List Int) = some [1, 3, 3] := by
      unfold slices_Sorted_int.f Cuts07.sortedF
      rw [sorted_313]; rfl
    unfold cuts_At.f
    rw [this]
    decide +kernel
  have hB : cuts_By.f 10 (⟨#[97, 98, 99, 100]⟩ : ByteArray) ([1, 2] : List Int) = some [⟨#[97]⟩, ⟨#[98, 99]⟩, ⟨#[100]⟩] := by decide +kernel
  unfold quillpenlaw07_awake.f
  rw [hA, Option.bind_some, hB]
  decide +kernel
/-- All of a list, one behind the other. -/
def allOf (l : List ByteArray) : ByteArray := l.foldl (· ++ ·) ByteArray.empty
theorem fold_size (l : List ByteArray) : ∀ a : ByteArray, (l.foldl (· ++ ·) a).size = a.size + (l.map ByteArray.size).sum := by
  induction l with
  | nil => intro a; simp
  | cons x l ih => intro a; rw [List.foldl_cons, ih, ByteArray.size_append, List.map_cons, List.sum_cons]; omega
theorem joined_tells (l : List ByteArray) (hl : l.length ≤ 1000000) (hs : (allOf l).size ≤ 1000000000) : Tells (fun k => quillpenlaw07_joined.f k l) (allOf l) := by
  have h : ∀ (d i : Nat), i + d = l.length → ∀ k, d < k → quillpenlaw07_joined.l0 k ((l.take i).foldl (· ++ ·) ByteArray.empty) l (l.length : Int) (i : Int) = some (allOf l) := by
    intro d
    induction d with
    | zero =>
      intro i hi k hk
      obtain ⟨k, rfl⟩ := Nat.exists_eq_succ_of_ne_zero (show k ≠ 0 by omega)
      unfold quillpenlaw07_joined.l0
      rw [if_neg (by omega), List.take_of_length_le (by omega)]
      rfl
    | succ d ih =>
      intro i hi k hk
      obtain ⟨k, rfl⟩ := Nat.exists_eq_succ_of_ne_zero (show k ≠ 0 by omega)
      have hlt : i < l.length := by omega
      have hstep : (l.take i).foldl (· ++ ·) ByteArray.empty ++ rdOf ByteArray.empty l (i : Int) = (l.take (i + 1)).foldl (· ++ ·) ByteArray.empty := by
        rw [List.take_succ_eq_append_getElem hlt, List.foldl_append]
        simp [rdOf, hlt]
      have hsz : ((l.take (i + 1)).foldl (· ++ ·) ByteArray.empty).size ≤ (allOf l).size := by
        have e : allOf l = (l.drop (i + 1)).foldl (· ++ ·) ((l.take (i + 1)).foldl (· ++ ·) ByteArray.empty) := by
          rw [← List.foldl_append, List.take_append_drop]; rfl
        rw [e, fold_size (l.drop (i + 1))]
        omega
      unfold quillpenlaw07_joined.l0
      rw [if_pos (by omega), if_pos (by omega), if_pos (by omega), if_pos (by rw [← ByteArray.size_append, hstep]; omega), hstep, show wrap64 ((i : Int) + 1) = ((i + 1 : Nat) : Int) from by unfold wrap64; omega]
      exact ih (i + 1) (by omega) k (by omega)
  refine ⟨l.length + 1, fun k hk => ?_⟩
  exact h l.length 0 (by omega) k (by omega)
theorem ext_app (s : ByteArray) (a b c : Nat) (h1 : a ≤ b) (h2 : b ≤ c) : s.extract a b ++ s.extract b c = s.extract a c := by
  apply ByteArray.ext
  rw [ByteArray.data_append, ByteArray.data_extract, ByteArray.data_extract, ByteArray.data_extract, Array.extract_append_extract, Nat.min_eq_left h1, Nat.max_eq_right h2]
theorem ext_all (s : ByteArray) : s.extract 0 s.size = s := by
  apply ByteArray.ext
  rw [ByteArray.data_extract]
  exact Array.extract_size
theorem ext_none (s : ByteArray) (a : Nat) (h : s.size ≤ a) : s.extract a s.size = ByteArray.empty := by
  apply ByteArray.ext
  rw [ByteArray.data_extract]
  exact Array.eq_empty_of_size_eq_zero (by rw [Array.size_extract]; show min s.size s.size - a = 0; omega)
theorem app_none (a : ByteArray) : a ++ ByteArray.empty = a := ByteArray.append_empty
theorem none_app (a : ByteArray) : ByteArray.empty ++ a = a := ByteArray.empty_append
/-- A number within nought and another one. -/
def held (m v : Int) : Int := mn (mx v 0) m
theorem held_in {v m : Int} (h : 0 ≤ m) : 0 ≤ held m v ∧ held m v ≤ m := by unfold held mn mx; split <;> split <;> omega
theorem held_mono {a b m : Int} (h : a ≤ b) : held m a ≤ held m b := by
  unfold held mn mx
  repeat' split
  all_goals omega
theorem held_says {v m : Int} (h : 0 ≤ m) : quillpenref07_Held.f v m = some (held m v) := by
  unfold quillpenref07_Held.f held mn mx
  by_cases h1 : v < 0
  · rw [if_pos h1, if_pos h1, if_neg (by omega)]
  · rw [if_neg h1, if_neg h1]
    by_cases h2 : v > m
    · rw [if_pos h2, if_pos (by omega)]
    · rw [if_neg h2, if_neg (by omega)]
/-- The pieces that end at these places. -/
def cutP (s : ByteArray) : Int → List Int → List ByteArray
  | a, [] => [s.extract a.toNat s.size]
  | a, e :: es => s.extract a.toNat e.toNat :: cutP s e es
/-- Places in order, from a on, within the text. -/
def Ord (s : ByteArray) (a : Int) (M : List Int) : Prop := 0 ≤ a ∧ a ≤ s.size ∧ (∀ x ∈ M, a ≤ x ∧ x ≤ s.size) ∧ M.Pairwise (· ≤ ·)
theorem Ord.tail {s : ByteArray} {a e : Int} {M : List Int} (h : Ord s a (e :: M)) : Ord s e M ∧ a ≤ e ∧ e ≤ s.size := by
  obtain ⟨h1, h2, h3, h4⟩ := h
  obtain ⟨h5, h6⟩ := List.pairwise_cons.1 h4
  have := h3 e (by simp)
  exact ⟨⟨by omega, by omega, fun x hx => ⟨h5 x hx, (h3 x (by simp [hx])).2⟩, h6⟩, this.1, this.2⟩
theorem cut_len (s : ByteArray) : ∀ (M : List Int) (a : Int), (cutP s a M).length = M.length + 1 := by
  intro M
  induction M with
  | nil => intro a; rfl
  | cons e M ih => intro a; unfold cutP; rw [List.length_cons, ih, List.length_cons]
theorem cut_all (s : ByteArray) : ∀ (M : List Int) (a : Int), Ord s a M → ∀ acc : ByteArray, (cutP s a M).foldl (· ++ ·) acc = acc ++ s.extract a.toNat s.size := by
  intro M
  induction M with
  | nil => intro a h acc; rfl
  | cons e M ih =>
    intro a h acc
    obtain ⟨h1, h2, h3⟩ := h.tail
    have := h.1
    unfold cutP
    rw [List.foldl_cons, ih e h1, ByteArray.append_assoc, ext_app s _ _ _ (by omega) (by omega)]
theorem at_run (s : ByteArray) (t : List Int) (ht : t.length ≤ 1000) : ∀ (d i : Nat) (a : Int) (out : List ByteArray), i + d = t.length → Ord s a ((t.drop i).map (held s.size)) → out.length + d ≤ 100000 → ∀ k, d < k →
    cuts_At.l0 k s out a t (t.length : Int) (i : Int) = some (out ++ cutP s a ((t.drop i).map (held s.size))) := by
  intro d
  induction d with
  | zero =>
    intro i a out hi ho h1 k hk
    obtain ⟨k, rfl⟩ := Nat.exists_eq_succ_of_ne_zero (show k ≠ 0 by omega)
    have h2 := ho.1
    have h3 := ho.2.1
    unfold cuts_At.l0
    rw [if_neg (by omega), if_pos h2, if_pos h3, if_pos (by omega), List.drop_of_length_le (by omega)]
    rfl
  | succ d ih =>
    intro i a out hi ho h1 k hk
    obtain ⟨k, rfl⟩ := Nat.exists_eq_succ_of_ne_zero (show k ≠ 0 by omega)
    have hlt : i < t.length := by omega
    rw [List.drop_eq_getElem_cons hlt, List.map_cons] at ho ⊢
    obtain ⟨o1, o2, o3⟩ := ho.tail
    have h2 := ho.1
    have hrd : mn (mx (rd t (i : Int)) 0) (s.size : Int) = held s.size t[i] := by simp [rd, hlt, held]
    unfold cuts_At.l0
    rw [if_pos (by omega), if_pos (by omega), if_pos (by omega), if_pos h2, hrd, if_pos o2, if_pos o3, if_pos (by omega), show wrap64 ((i : Int) + 1) = ((i + 1 : Nat) : Int) from by unfold wrap64; omega]
    rw [ih (i + 1) _ _ (by omega) o1 (by simp; omega) k (by omega)]
    simp [cutP]
theorem ref_held (s : ByteArray) (l : List Int) (hl : l.length ≤ 1000) : ∀ (d i : Nat) (L : List Int), i + d = l.length → L.length = i → ∀ k, quillpenref07_At.l0 (k + d + 1) s L l (l.length : Int) (i : Int) = quillpenref07_At.l1 k s (L ++ (l.drop i).map (held s.size)) [] 0 := by
  intro d
  induction d with
  | zero =>
    intro i L hi hL k
    rw [show k + 0 + 1 = k + 1 from rfl, quillpenref07_At.l0, if_neg (by omega), List.drop_of_length_le (by omega)]
    simp
  | succ d ih =>
    intro i L hi hL k
    have hlt : i < l.length := by omega
    have hrd : rd l (i : Int) = l[i] := by simp [rd, hlt]
    rw [show k + (d + 1) + 1 = (k + d + 1) + 1 from by omega, quillpenref07_At.l0, if_pos (by omega), if_pos (by omega), if_pos (by omega), hrd, held_says (by omega), Option.bind_some, if_pos (by omega), show wrap64 ((i : Int) + 1) = ((i + 1 : Nat) : Int) from by unfold wrap64; omega, ih (i + 1) _ (by omega) (by simp [hL]) k, List.drop_eq_getElem_cons hlt, List.map_cons]
    simp
theorem ref_least (s : ByteArray) (L : List Int) (hl : L.length ≤ 1000) (out : List ByteArray) (ho : out.length ≤ 100000) (a : Int) (ha : 0 ≤ a) (hin : ∀ x ∈ L, a ≤ x ∧ x ≤ s.size) : ∀ (d i b : Nat) (hb : b < L.length), i + d = L.length → (∀ j (hj : j < L.length), j < i → L[b] ≤ L[j]) → ∃ (b' : Nat) (hb' : b' < L.length), (∀ j (hj : j < L.length), L[b'] ≤ L[j]) ∧ ∀ k, quillpenref07_At.l2 (k + d + 1) s L out a (b : Int) (L.length : Int) (i : Int) = quillpenref07_At.l3 k s L (out ++ [s.extract a.toNat L[b'].toNat]) L[b'] (b' : Int) [] (L.length : Int) 0 := by
  intro d
  induction d with
  | zero =>
    intro i b hb hi hall
    refine ⟨b, hb, fun j hj => hall j hj (by omega), fun k => ?_⟩
    have hrd : rd L (b : Int) = L[b] := by simp [rd, hb]
    have hx := hin L[b] (List.getElem_mem hb)
    rw [show k + 0 + 1 = k + 1 from rfl, quillpenref07_At.l2, if_neg (by omega), if_pos (by omega), if_pos (by omega), if_pos ha, hrd, if_pos hx.1, if_pos hx.2, if_pos (by omega)]
  | succ d ih =>
    intro i b hb hi hall
    have hlt : i < L.length := by omega
    have hrb : rd L (b : Int) = L[b] := by simp [rd, hb]
    have hri : rd L (i : Int) = L[i] := by simp [rd, hlt]
    by_cases hc : L[i] < L[b]
    · obtain ⟨b', hb', h1, h2⟩ := ih (i + 1) i hlt (by omega) (fun j hj hji => by
        by_cases hj2 : j < i
        · have := hall j hj hj2; omega
        · have : j = i := by omega
          subst this; exact Int.le_refl _)
      refine ⟨b', hb', h1, fun k => ?_⟩
      rw [show k + (d + 1) + 1 = (k + d + 1) + 1 from by omega, quillpenref07_At.l2, if_pos (by omega), if_pos (by omega), if_pos (by omega), if_pos (by omega), if_pos (by omega), hri, hrb, if_pos hc, show wrap64 ((i : Int) + 1) = ((i + 1 : Nat) : Int) from by unfold wrap64; omega]
      exact h2 k
    · obtain ⟨b', hb', h1, h2⟩ := ih (i + 1) b hb (by omega) (fun j hj hji => by
        by_cases hj2 : j < i
        · exact hall j hj hj2
        · have : j = i := by omega
          subst this; omega)
      refine ⟨b', hb', h1, fun k => ?_⟩
      rw [show k + (d + 1) + 1 = (k + d + 1) + 1 from by omega, quillpenref07_At.l2, if_pos (by omega), if_pos (by omega), if_pos (by omega), if_pos (by omega), if_pos (by omega), hri, hrb, if_neg hc, show wrap64 ((i : Int) + 1) = ((i + 1 : Nat) : Int) from by unfold wrap64; omega]
      exact h2 k
/-- What is left behind place b, from i on. -/
def leftOf (L : List Int) (b i : Nat) : List Int := if i ≤ b then (L.take b).drop i ++ L.drop (b + 1) else L.drop i
theorem ref_rest (s : ByteArray) (L : List Int) (hl : L.length ≤ 1000) (out : List ByteArray) (a : Int) (b : Nat) (hb : b < L.length) : ∀ (d i : Nat) (R : List Int), i + d = L.length → R.length ≤ i → ∀ k, quillpenref07_At.l3 (k + d + 1) s L out a (b : Int) R (L.length : Int) (i : Int) = quillpenref07_At.l1 k s (R ++ leftOf L b i) out a := by
  intro d
  induction d with
  | zero =>
    intro i R hi hR k
    rw [show k + 0 + 1 = k + 1 from rfl, quillpenref07_At.l3, if_neg (by omega)]
    unfold leftOf
    rw [if_neg (by omega), List.drop_of_length_le (by omega), List.append_nil]
  | succ d ih =>
    intro i R hi hR k
    have hlt : i < L.length := by omega
    have hri : rd L (i : Int) = L[i] := by simp [rd, hlt]
    rw [show k + (d + 1) + 1 = (k + d + 1) + 1 from by omega, quillpenref07_At.l3, if_pos (by omega), show wrap64 ((i : Int) + 1) = ((i + 1 : Nat) : Int) from by unfold wrap64; omega]
    by_cases hc : i = b
    · subst hc
      rw [if_pos rfl, ih (i + 1) R (by omega) (by omega) k]
      unfold leftOf
      rw [if_neg (by omega), if_pos (by omega), show (L.take i).drop i = [] from List.drop_of_length_le (by rw [List.length_take]; omega), List.nil_append]
    · rw [if_neg (by omega), if_pos (by omega), if_pos (by omega), if_pos (by omega), hri, ih (i + 1) _ (by omega) (by simp; omega) k]
      congr 1
      unfold leftOf
      by_cases h1 : i ≤ b
      · have h2 : i < (L.take b).length := by rw [List.length_take]; omega
        rw [if_pos (by omega), if_pos h1, List.drop_eq_getElem_cons h2]
        simp
      · rw [if_neg (by omega), if_neg h1, List.drop_eq_getElem_cons hlt]
        simp
theorem ref_cut (s : ByteArray) : ∀ (n : Nat) (L M : List Int) (a : Int) (out : List ByteArray), L.length = n → n ≤ 40 → M.Perm L → Ord s a M → out.length + n ≤ 1000 → ∀ k, 100 * n + 5 ≤ k → quillpenref07_At.l1 k s L out a = some (out ++ cutP s a M) := by
  intro n
  induction n with
  | zero =>
    intro L M a out hL hn hp ho h1 k hk
    obtain rfl : L = [] := List.eq_nil_of_length_eq_zero hL
    obtain rfl : M = [] := List.Perm.eq_nil hp
    obtain ⟨k, rfl⟩ := Nat.exists_eq_succ_of_ne_zero (show k ≠ 0 by omega)
    rw [quillpenref07_At.l1, if_neg (by simp), if_pos ho.1, if_pos ho.2.1, if_pos (by omega)]
    rfl
  | succ n ih =>
    intro L M a out hL hn hp ho h1 k hk
    obtain ⟨k, rfl⟩ := Nat.exists_eq_succ_of_ne_zero (show k ≠ 0 by omega)
    have hin : ∀ x ∈ L, a ≤ x ∧ x ≤ s.size := fun x hx => ho.2.2.1 x (hp.symm.mem_iff.1 hx)
    obtain ⟨b, hb, hmin, h2⟩ := ref_least s L (by omega) out (by omega) a ho.1 hin L.length 0 0 (by omega) (by omega) (fun j hj h => by omega)
    have hperm : (L[b] :: L.eraseIdx b).Perm L := by
      rw [List.eraseIdx_eq_take_drop_succ]
      refine List.perm_middle.symm.trans ?_
      rw [← List.drop_eq_getElem_cons hb, List.take_append_drop]
    cases M with
    | nil => have := hp.length_eq; simp at this; omega
    | cons m M =>
      obtain ⟨o1, o2, o3⟩ := ho.tail
      have hmb : m = L[b] := by
        have e1 : m ∈ L := hp.mem_iff.1 (by simp)
        obtain ⟨j, hj, hjm⟩ := List.getElem_of_mem e1
        have e2 := hmin j hj
        have e3 : L[b] ∈ m :: M := hp.symm.mem_iff.1 (List.getElem_mem hb)
        rcases List.mem_cons.1 e3 with e3 | e3
        · exact e3.symm
        · have := (List.pairwise_cons.1 ho.2.2.2).1 _ e3
          omega
      subst hmb
      have hp2 : M.Perm (L.eraseIdx b) := List.Perm.cons_inv (hp.trans hperm.symm)
      rw [quillpenref07_At.l1, if_pos (by omega)]
      obtain ⟨q, hq⟩ : ∃ q, k = (q + L.length + 1) + L.length + 1 := ⟨k - 2 * L.length - 2, by omega⟩
      have h3 := h2 (q + L.length + 1)
      rw [show ((0 : Nat) : Int) = 0 from rfl] at h3
      rw [hq, h3]
      have h4 := ref_rest s L (by omega) (out ++ [s.extract a.toNat L[b].toNat]) L[b] b hb L.length 0 [] (by omega) (by simp) q
      rw [show ((0 : Nat) : Int) = 0 from rfl] at h4
      rw [h4, List.nil_append, show leftOf L b 0 = L.eraseIdx b from by unfold leftOf; rw [if_pos (by omega), List.drop_zero, List.eraseIdx_eq_take_drop_succ]]
      have hle : (L.eraseIdx b).length = n := by rw [List.length_eraseIdx, if_pos hb]; omega
      rw [ih (L.eraseIdx b) M L[b] _ hle (by omega) hp2 o1 (by simp; omega) q (by omega)]
      simp [cutP]
theorem at_tells (s : ByteArray) (l : List Int) (hl : l.length ≤ 40) : ∃ r, Tells (fun k => cuts_At.f k s l) r ∧ Tells (fun k => quillpenref07_At.f k s l) r ∧ r.length = l.length + 1 ∧ allOf r = s := by
  have hsp : (l.mergeSort fun x y => decide (x ≤ y)).Perm l := List.mergeSort_perm _ _
  have hso : (l.mergeSort fun x y => decide (x ≤ y)).Pairwise (fun a b => a ≤ b) := by
    have := List.pairwise_mergeSort (le := fun x y : Int => decide (x ≤ y)) (fun a b c h1 h2 => by simp at h1 h2 ⊢; omega) (fun a b => by simp; omega) l
    exact this.imp (fun h => of_decide_eq_true h)
  obtain ⟨t, ht⟩ : ∃ t, (l.mergeSort fun x y => decide (x ≤ y)) = t := ⟨_, rfl⟩
  have hsf : slices_Sorted_int.f l = some t := by unfold slices_Sorted_int.f Cuts07.sortedF; rw [if_pos (by omega), ht]
  rw [ht] at hsp hso
  clear ht
  have htl := hsp.length_eq
  have hord : Ord s 0 (t.map (held s.size)) := ⟨by omega, by omega, fun x hx => by
    obtain ⟨y, _, rfl⟩ := List.mem_map.1 hx
    have := held_in (v := y) (m := (s.size : Int)) (by omega)
    omega, List.Pairwise.map _ (fun a b h => held_mono h) hso⟩
  refine ⟨cutP s 0 (t.map (held s.size)), ⟨t.length + 1, fun k hk => ?_⟩, ⟨5000, fun k hk => ?_⟩, by rw [cut_len, List.length_map, htl], ?_⟩
  · simp only [cuts_At.f, hsf, Option.bind_some]
    have := at_run s t (by omega) t.length 0 0 [] (by omega) (by simpa using hord) (by simp; omega) k (by omega)
    simpa using this
  · simp only [quillpenref07_At.f]
    obtain ⟨q, hq⟩ : ∃ q, k = q + l.length + 1 := ⟨k - l.length - 1, by omega⟩
    have h1 := ref_held s l (by omega) l.length 0 [] (by omega) rfl q
    rw [show ((0 : Nat) : Int) = 0 from rfl, List.drop_zero, List.nil_append] at h1
    rw [hq, h1]
    have := ref_cut s l.length (l.map (held s.size)) (t.map (held s.size)) 0 [] (by simp) hl (hsp.map _) hord (by simp; omega) q (by omega)
    simpa using this
  · unfold allOf
    rw [cut_all s _ 0 hord]
    show ByteArray.empty ++ s.extract 0 s.size = s
    rw [ext_all, none_app]
/-- A text's pieces at places. -/
def atR (s : ByteArray) (l : List Int) : List ByteArray := cutP s 0 ((l.mergeSort fun x y => decide (x ≤ y)).map (held s.size))
theorem at_is (s : ByteArray) (l : List Int) (hl : l.length ≤ 40) : Tells (fun k => cuts_At.f k s l) (atR s l) ∧ Tells (fun k => quillpenref07_At.f k s l) (atR s l) ∧ (atR s l).length = l.length + 1 ∧ allOf (atR s l) = s := by
  unfold atR
  have hsp : (l.mergeSort fun x y => decide (x ≤ y)).Perm l := List.mergeSort_perm _ _
  have hso : (l.mergeSort fun x y => decide (x ≤ y)).Pairwise (fun a b => a ≤ b) := by
    have := List.pairwise_mergeSort (le := fun x y : Int => decide (x ≤ y)) (fun a b c h1 h2 => by simp at h1 h2 ⊢; omega) (fun a b => by simp; omega) l
    exact this.imp (fun h => of_decide_eq_true h)
  obtain ⟨t, ht⟩ : ∃ t, (l.mergeSort fun x y => decide (x ≤ y)) = t := ⟨_, rfl⟩
  have hsf : slices_Sorted_int.f l = some t := by unfold slices_Sorted_int.f Cuts07.sortedF; rw [if_pos (by omega), ht]
  rw [ht] at hsp hso ⊢
  clear ht
  have htl := hsp.length_eq
  have hord : Ord s 0 (t.map (held s.size)) := ⟨by omega, by omega, fun x hx => by
    obtain ⟨y, _, rfl⟩ := List.mem_map.1 hx
    have := held_in (v := y) (m := (s.size : Int)) (by omega)
    omega, List.Pairwise.map _ (fun a b h => held_mono h) hso⟩
  refine ⟨⟨t.length + 1, fun k hk => ?_⟩, ⟨5000, fun k hk => ?_⟩, by rw [cut_len, List.length_map, htl], ?_⟩
  · simp only [cuts_At.f, hsf, Option.bind_some]
    have := at_run s t (by omega) t.length 0 0 [] (by omega) (by simpa using hord) (by simp; omega) k (by omega)
    simpa using this
  · simp only [quillpenref07_At.f]
    obtain ⟨q, hq⟩ : ∃ q, k = q + l.length + 1 := ⟨k - l.length - 1, by omega⟩
    have h1 := ref_held s l (by omega) l.length 0 [] (by omega) rfl q
    rw [show ((0 : Nat) : Int) = 0 from rfl, List.drop_zero, List.nil_append] at h1
    rw [hq, h1]
    have := ref_cut s l.length (l.map (held s.size)) (t.map (held s.size)) 0 [] (by simp) hl (hsp.map _) hord (by simp; omega) q (by omega)
    simpa using this
  · unfold allOf
    rw [cut_all s _ 0 hord]
    show ByteArray.empty ++ s.extract 0 s.size = s
    rw [ext_all, none_app]
end Go.Proofs.Ytjbieekfjlmfmaa.Pure
