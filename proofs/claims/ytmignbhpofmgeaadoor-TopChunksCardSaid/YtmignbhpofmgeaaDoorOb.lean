/- quillpenref07.By: its pieces, one behind the other, are the text; quillpenref05.Same and SameTable: a table is the same as itself. -/
import Derived.Test.YtmignbhpofmgeaaDoorOa
import Derived.Lib.Strings
namespace Go.Proofs.YtmignbhpofmgeaaDoor.Pure
open Go.RowKit Go.Proofs.YtmignbhpofmgeaaDoor Go.Proofs.YtmignbhpofmgeaaDoor.PTopChunks Go.Proofs.YtmignbhpofmgeaaDoorW.PrintWords Go.Proofs.YtmignbhpofmgeaaDoorW.PrintLast Go.Proofs.YtmignbhpofmgeaaDoorW.PrintMore
set_option linter.unusedVariables false
set_option linter.unusedSimpArgs false
/-- Is a number above nought? -/
def isPos (n : Int) : Bool := decide (0 < n)
theorem toList_nil {x : ByteArray} : x.toList = ([] : List UInt8) ↔ x.size = 0 := by
  rw [ByteArray.toList_eq]
  constructor
  · intro h
    have := congrArg List.length h
    simpa using this
  · intro h
    exact List.eq_nil_of_length_eq_zero (by rw [Array.length_toList]; exact h)
/-- From k on it tells r. -/
def Tells {α : Type} (f : Nat → Option α) (r : α) : Prop := ∃ k, ∀ j, k ≤ j → f j = some r
theorem tells_of {α : Type} {f : Nat → Option α} {r : α} (hm : ∀ k, LeO (f k) (f (k + 1))) {k : Nat} (h : f k = some r) : Tells f r :=
  ⟨k, fun j hj => by
    obtain ⟨d, rfl⟩ := Nat.exists_eq_add_of_le hj
    induction d with
    | zero => exact h
    | succ d ih => exact hm _ _ (ih (by omega))⟩
theorem same_tells (l : List ByteArray) (hl : l.length ≤ 1000000) : Tells (fun k => quillpenref05_Same.f k l l) true := by
  have h : ∀ (d i : Nat), i + d = l.length → ∀ k, d < k → quillpenref05_Same.l0 k l l (l.length : Int) (i : Int) = some true := by
    intro d
    induction d with
    | zero =>
      intro i hi k hk
      obtain ⟨k, rfl⟩ := Nat.exists_eq_succ_of_ne_zero (show k ≠ 0 by omega)
      unfold quillpenref05_Same.l0
      rw [if_neg (by omega)]
    | succ d ih =>
      intro i hi k hk
      obtain ⟨k, rfl⟩ := Nat.exists_eq_succ_of_ne_zero (show k ≠ 0 by omega)
      unfold quillpenref05_Same.l0
      rw [if_pos (by omega), if_pos (by omega), if_pos (by omega), if_pos (by omega), if_pos rfl, show wrap64 ((i : Int) + 1) = ((i + 1 : Nat) : Int) from by unfold wrap64; omega]
      exact ih (i + 1) (by omega) k (by omega)
  refine ⟨l.length + 1, fun k hk => ?_⟩
  simp only [quillpenref05_Same.f, if_pos]
  exact h l.length 0 (by omega) k (by omega)
def allOf (l : List ByteArray) : ByteArray := l.foldl (· ++ ·) ByteArray.empty
theorem ext_app (s : ByteArray) (a b c : Nat) (h1 : a ≤ b) (h2 : b ≤ c) : s.extract a b ++ s.extract b c = s.extract a c := by
  apply ByteArray.ext
  rw [ByteArray.data_append, ByteArray.data_extract, ByteArray.data_extract, ByteArray.data_extract, Array.extract_append_extract, Nat.min_eq_left h1, Nat.max_eq_right h2]
theorem ext_all (s : ByteArray) : s.extract 0 s.size = s := by
  apply ByteArray.ext
  rw [ByteArray.data_extract]
  exact Array.extract_size
theorem ext_none (s : ByteArray) (a : Nat) (h : s.size ≤ a) : s.extract a s.size = ByteArray.empty := by
  apply ByteArray.ext
  rw [ByteArray.data_extract]
  exact Array.eq_empty_of_size_eq_zero (by rw [Array.size_extract]; show min s.size s.size - a = 0; omega)
theorem app_none (a : ByteArray) : a ++ ByteArray.empty = a := ByteArray.append_empty
theorem none_app (a : ByteArray) : ByteArray.empty ++ a = a := ByteArray.empty_append
/-- A number within nought and another one. -/
def hold (v m : Int) : Int := mn (mx v 0) m
theorem hold_in {v m : Int} (h : 0 ≤ m) : 0 ≤ hold v m ∧ hold v m ≤ m := by unfold hold mn mx; split <;> split <;> omega
theorem hold_pos {v m : Int} (h : 0 < m) (hv : 0 < v) : 0 < hold v m := by unfold hold mn mx; split <;> split <;> omega
theorem held_is {v m : Int} (h : 0 ≤ m) : quillpenref07_Held.f v m = some (hold v m) := by
  unfold quillpenref07_Held.f hold mn mx
  by_cases h1 : v < 0
  · rw [if_pos h1, if_pos h1, if_neg (by omega)]
  · rw [if_neg h1, if_neg h1]
    by_cases h2 : v > m
    · rw [if_pos h2, if_pos (by omega)]
    · rw [if_neg h2, if_neg (by omega)]
/-- Where the next piece ends. -/
def nextAt (s : ByteArray) (l : List Int) (at_ i : Nat) : Nat := at_ + (hold (rd l ((i % l.length : Nat) : Int)) ((s.size : Int) - at_)).toNat
theorem next_in (s : ByteArray) (l : List Int) (at_ i : Nat) (h : at_ ≤ s.size) : at_ ≤ nextAt s l at_ i ∧ nextAt s l at_ i ≤ s.size := by
  have := hold_in (v := rd l ((i % l.length : Nat) : Int)) (m := (s.size : Int) - at_) (by omega)
  unfold nextAt; omega
def piecesBy (s : ByteArray) (l : List Int) : Nat → Nat → Nat → List ByteArray
  | 0, _, _ => []
  | f + 1, at_, i => if at_ < s.size then s.extract at_ (nextAt s l at_ i) :: piecesBy s l f (nextAt s l at_ i) (i + 1) else []
/-- f rounds are enough. -/
def Fin_ (s : ByteArray) (l : List Int) : Nat → Nat → Nat → Prop
  | 0, at_, _ => s.size ≤ at_
  | f + 1, at_, i => at_ < s.size → Fin_ s l f (nextAt s l at_ i) (i + 1)
theorem pieces_len (s : ByteArray) (l : List Int) : ∀ (f at_ i : Nat), (piecesBy s l f at_ i).length ≤ f := by
  intro f
  induction f with
  | zero => intro _ _; simp [piecesBy]
  | succ f ih =>
    intro at_ i
    unfold piecesBy; split
    · rw [List.length_cons]; have := ih (nextAt s l at_ i) (i + 1); omega
    · simp
theorem fin_more (s : ByteArray) (l : List Int) : ∀ (f at_ i : Nat), Fin_ s l f at_ i → Fin_ s l (f + 1) at_ i := by
  intro f
  induction f with
  | zero => intro at_ i h h2; unfold Fin_ at h; omega
  | succ f ih => intro at_ i h h2; exact ih _ _ (h h2)
theorem fin_more' (s : ByteArray) (l : List Int) (f at_ i : Nat) (h : Fin_ s l f at_ i) : ∀ g, f ≤ g → Fin_ s l g at_ i := by
  intro g hg
  obtain ⟨d, rfl⟩ := Nat.exists_eq_add_of_le hg
  induction d with
  | zero => exact h
  | succ d ih => exact fin_more s l _ _ _ (ih (by omega))
theorem fin_end (s : ByteArray) (l : List Int) (f at_ i : Nat) (h : s.size ≤ at_) : Fin_ s l f at_ i := by
  cases f with
  | zero => exact h
  | succ f => intro h2; omega
theorem fin_step (s : ByteArray) (l : List Int) (p : Nat) (hp : p < l.length) (hv : 0 < rd l (p : Int)) (f : Nat) : ∀ (t at_ i : Nat), at_ ≤ s.size → (i + t) % l.length = p → (∀ a j, at_ < a → a ≤ s.size → Fin_ s l f a j) → Fin_ s l (f + t + 1) at_ i := by
  intro t
  induction t with
  | zero =>
    intro at_ i ha hi hf h2
    have hn := next_in s l at_ i ha
    refine hf _ _ ?_ hn.2
    have := hold_pos (v := rd l ((i % l.length : Nat) : Int)) (m := (s.size : Int) - at_) (by omega) (by rw [show i % l.length = p from by simpa using hi]; exact hv)
    unfold nextAt; omega
  | succ t ih =>
    intro at_ i ha hi hf h2
    have hn := next_in s l at_ i ha
    exact ih _ _ hn.2 (by rw [show i + 1 + t = i + (t + 1) from by omega]; exact hi) (fun a j h1 h2 => hf a j (by omega) h2)
theorem fin_all (s : ByteArray) (l : List Int) (p : Nat) (hp : p < l.length) (hv : 0 < rd l (p : Int)) : ∀ (d at_ i : Nat), s.size - at_ ≤ d → at_ ≤ s.size → Fin_ s l (l.length * d) at_ i := by
  intro d
  induction d with
  | zero => intro at_ i h ha; exact fin_end s l _ _ _ (by omega)
  | succ d ih =>
    intro at_ i h ha
    have hn : 0 < l.length := by omega
    have hm := Nat.mod_lt i hn
    obtain ⟨t, ht, hti⟩ : ∃ t, t < l.length ∧ (i + t) % l.length = p := by
      by_cases hc : i % l.length ≤ p
      · refine ⟨p - i % l.length, by omega, ?_⟩
        rw [Nat.add_mod, Nat.mod_eq_of_lt (show p - i % l.length < l.length by omega), show i % l.length + (p - i % l.length) = p from by omega, Nat.mod_eq_of_lt hp]
      · refine ⟨p + l.length - i % l.length, by omega, ?_⟩
        rw [Nat.add_mod, Nat.mod_eq_of_lt (show p + l.length - i % l.length < l.length by omega), show i % l.length + (p + l.length - i % l.length) = p + l.length from by omega, Nat.add_mod_right, Nat.mod_eq_of_lt hp]
    refine fin_more' s l _ _ _ (fin_step s l p hp hv (l.length * d) t at_ i ha hti (fun a j h1 h2 => ih a j (by omega) h2)) _ ?_
    rw [Nat.mul_succ]; omega
theorem ref_skip (s : ByteArray) (l : List Int) (hn2 : l.length ≤ 100) (at_ : Nat) (ha : s.size ≤ at_) (out : List ByteArray) : ∀ (d j : Nat), j + d = l.length → ∀ k, d + 1 < k → quillpenref07_By.l2 k s l out (at_ : Int) l (l.length : Int) (j : Int) = some out := by
  intro d
  induction d with
  | zero =>
    intro j hj k hk
    obtain ⟨k, rfl⟩ := Nat.exists_eq_succ_of_ne_zero (show k ≠ 0 by omega)
    obtain ⟨k, rfl⟩ := Nat.exists_eq_succ_of_ne_zero (show k ≠ 0 by omega)
    unfold quillpenref07_By.l2
    rw [if_neg (by omega)]
    unfold quillpenref07_By.l1
    rw [if_neg (by omega)]
  | succ d ih =>
    intro j hj k hk
    obtain ⟨k, rfl⟩ := Nat.exists_eq_succ_of_ne_zero (show k ≠ 0 by omega)
    unfold quillpenref07_By.l2
    rw [if_pos (by omega), if_pos (by omega), if_pos (by omega), if_neg (by omega), show wrap64 ((j : Int) + 1) = ((j + 1 : Nat) : Int) from by unfold wrap64; omega]
    exact ih (j + 1) (by omega) k (by omega)
theorem ref_run (s : ByteArray) (l : List Int) (hn : 0 < l.length) (hn2 : l.length ≤ 100) (hs : s.size ≤ 1000) : ∀ (f at_ i j : Nat) (out : List ByteArray), at_ ≤ s.size → Fin_ s l f at_ i → out.length + f ≤ 1000000 → j < l.length → i % l.length = j → ∀ k, 3 * f + 130 ≤ k →
    quillpenref07_By.l2 k s l out (at_ : Int) l (l.length : Int) (j : Int) = some (out ++ piecesBy s l f at_ i) := by
  intro f
  induction f with
  | zero =>
    intro at_ i j out ha hf h1 hj hij k hk
    unfold Fin_ at hf
    rw [ref_skip s l hn2 at_ hf out (l.length - j) j (by omega) k (by omega)]
    simp [piecesBy]
  | succ f ih =>
    intro at_ i j out ha hf h1 hj hij k hk
    by_cases hc : at_ < s.size
    · obtain ⟨k, rfl⟩ := Nat.exists_eq_succ_of_ne_zero (show k ≠ 0 by omega)
      have hin := hold_in (v := rd l (j : Int)) (m := (s.size : Int) - at_) (by omega)
      have hnx := next_in s l at_ i ha
      have hnv : nextAt s l at_ i = at_ + (hold (rd l (j : Int)) ((s.size : Int) - at_)).toNat := by unfold nextAt; rw [hij]
      have hw1 : wrap64 ((s.size : Int) - (at_ : Int)) = (s.size : Int) - at_ := by unfold wrap64; omega
      have hw2 : wrap64 ((at_ : Int) + hold (rd l (j : Int)) ((s.size : Int) - at_)) = ((nextAt s l at_ i : Nat) : Int) := by rw [hnv]; unfold wrap64; omega
      unfold quillpenref07_By.l2
      rw [if_pos (by omega), if_pos (by omega), if_pos (by omega), if_pos (by omega), hw1, held_is (by omega), Option.bind_some, hw2, if_pos (by omega), if_pos (by omega), if_pos (by omega), if_pos (by omega), show wrap64 ((j : Int) + 1) = ((j + 1 : Nat) : Int) from by unfold wrap64; omega]
      rw [show piecesBy s l (f + 1) at_ i = s.extract at_ (nextAt s l at_ i) :: piecesBy s l f (nextAt s l at_ i) (i + 1) from by rw [piecesBy, if_pos hc]]
      rw [Int.toNat_natCast, Int.toNat_natCast, show out ++ s.extract at_ (nextAt s l at_ i) :: piecesBy s l f (nextAt s l at_ i) (i + 1) = (out ++ [s.extract at_ (nextAt s l at_ i)]) ++ piecesBy s l f (nextAt s l at_ i) (i + 1) from by simp]
      by_cases hj2 : j + 1 < l.length
      · exact ih _ (i + 1) (j + 1) _ hnx.2 (hf hc) (by simp; omega) hj2 (by rw [Nat.add_mod, hij, Nat.mod_eq_of_lt (show 1 < l.length by omega), Nat.mod_eq_of_lt hj2]) k (by omega)
      · obtain ⟨k, rfl⟩ := Nat.exists_eq_succ_of_ne_zero (show k ≠ 0 by omega)
        obtain ⟨k, rfl⟩ := Nat.exists_eq_succ_of_ne_zero (show k ≠ 0 by omega)
        rw [quillpenref07_By.l2, if_neg (by omega), quillpenref07_By.l1]
        by_cases hc2 : nextAt s l at_ i < s.size
        · rw [if_pos (by omega)]
          refine ih _ (i + 1) 0 _ hnx.2 (hf hc) (by simp; omega) hn ?_ k (by omega)
          have e : i + 1 = l.length * (i / l.length + 1) := by have := Nat.div_add_mod i l.length; rw [hij] at this; rw [Nat.mul_add]; omega
          rw [e, Nat.mul_mod_right]
        · rw [if_neg (by omega)]
          cases f with
          | zero => simp [piecesBy]
          | succ f => rw [show piecesBy s l (f + 1) (nextAt s l at_ i) (i + 1) = [] from by rw [piecesBy, if_neg hc2], List.append_nil]
    · rw [ref_skip s l hn2 at_ (by omega) out (l.length - j) j (by omega) k (by omega)]
      rw [show piecesBy s l (f + 1) at_ i = [] from by rw [piecesBy, if_neg hc]]
      simp
theorem pieces_all (s : ByteArray) (l : List Int) : ∀ (f at_ i : Nat), at_ ≤ s.size → Fin_ s l f at_ i → ∀ a : ByteArray, (piecesBy s l f at_ i).foldl (· ++ ·) a = a ++ s.extract at_ s.size := by
  have hend : ∀ (a : ByteArray) (at_ : Nat), s.size ≤ at_ → a ++ s.extract at_ s.size = a := by
    intro a at_ h
    rw [ext_none s at_ h, app_none]
  intro f
  induction f with
  | zero => intro at_ i ha hf a; exact (hend a at_ hf).symm
  | succ f ih =>
    intro at_ i ha hf a
    unfold piecesBy; split
    case isTrue hc =>
      have hnx := next_in s l at_ i ha
      rw [List.foldl_cons, ih _ _ hnx.2 (hf hc), ByteArray.append_assoc, ext_app s _ _ _ hnx.1 hnx.2]
    case isFalse hc => exact (hend a at_ (by omega)).symm
theorem ref_scan (s : ByteArray) (l : List Int) (hn2 : l.length ≤ 100) (B : Bool) : ∀ (d i : Nat) (b : Bool), i + d = l.length → (b || (l.drop i).any isPos) = B → ∀ k, d < k → quillpenref07_By.l0 k s l b l (l.length : Int) (i : Int) = if s.toList = ([] : List UInt8) then quillpenref07_By.j1 (k - d - 1) s l true else quillpenref07_By.j1 (k - d - 1) s l (!B) := by
  intro d
  induction d with
  | zero =>
    intro i b hi hb k hk
    obtain ⟨k, rfl⟩ := Nat.exists_eq_succ_of_ne_zero (show k ≠ 0 by omega)
    unfold quillpenref07_By.l0
    rw [if_neg (by omega)]
    rw [List.drop_of_length_le (by omega)] at hb
    simp at hb
    subst hb
    rfl
  | succ d ih =>
    intro i b hi hb k hk
    obtain ⟨k, rfl⟩ := Nat.exists_eq_succ_of_ne_zero (show k ≠ 0 by omega)
    have hlt : i < l.length := by omega
    unfold quillpenref07_By.l0
    rw [if_pos (by omega), if_pos (by omega), if_pos (by omega), show wrap64 ((i : Int) + 1) = ((i + 1 : Nat) : Int) from by unfold wrap64; omega, show k + 1 - (d + 1) - 1 = k - d - 1 from by omega]
    rw [List.drop_eq_getElem_cons hlt, List.any_cons] at hb
    have hrd : decide (rd l (i : Int) > 0) = isPos l[i] := by simp [rd, hlt, isPos]
    cases b with
    | true =>
      rw [if_pos rfl]
      exact ih (i + 1) true (by omega) (by simpa using hb) k (by omega)
    | false =>
      rw [if_neg (by decide), hrd]
      exact ih (i + 1) _ (by omega) (by simpa using hb) k (by omega)
theorem by_tells (s : ByteArray) (l : List Int) (hs : s.size ≤ 300) (hl : l.length ≤ 100) : ∃ r, Tells (fun k => quillpenref07_By.f k s l) r ∧ r.length ≤ 30000 ∧ allOf r = s := by
  have hone : allOf [s] = s := by
    unfold allOf
    rw [List.foldl_cons, List.foldl_nil, none_app]
  by_cases hE : s.toList = ([] : List UInt8)
  · refine ⟨[s], ⟨l.length + 2, fun k hk => ?_⟩, by simp, hone⟩
    · simp only [quillpenref07_By.f]
      have := ref_scan s l hl _ l.length 0 false (by omega) rfl k (by omega)
      rw [show ((0 : Nat) : Int) = 0 from rfl] at this
      rw [this, if_pos hE]
      obtain ⟨q, hq⟩ := Nat.exists_eq_succ_of_ne_zero (show k - l.length - 1 ≠ 0 by omega)
      rw [hq]
      simp [quillpenref07_By.j1]
  · cases hany : l.any isPos with
    | false =>
      refine ⟨[s], ⟨l.length + 2, fun k hk => ?_⟩, by simp, hone⟩
      · simp only [quillpenref07_By.f]
        have := ref_scan s l hl false l.length 0 false (by omega) (by simpa using hany) k (by omega)
        rw [show ((0 : Nat) : Int) = 0 from rfl] at this
        rw [this, if_neg hE]
        obtain ⟨q, hq⟩ := Nat.exists_eq_succ_of_ne_zero (show k - l.length - 1 ≠ 0 by omega)
        rw [hq]
        simp [quillpenref07_By.j1]
    | true =>
      obtain ⟨x, hx, hpx⟩ := List.any_eq_true.1 hany
      obtain ⟨p, hp, rfl⟩ := List.getElem_of_mem hx
      have hv : 0 < rd l (p : Int) := by simp [rd, hp]; exact of_decide_eq_true hpx
      have hfin := fin_all s l p hp hv s.size 0 0 (by omega) (by omega)
      have hb1 : l.length * s.size ≤ 100 * 300 := Nat.mul_le_mul hl hs
      generalize hF : l.length * s.size = F at hfin hb1
      have h0 : s.extract 0 s.size = s := ext_all s
      refine ⟨piecesBy s l F 0 0, ⟨l.length + 3 * F + 140, fun k hk => ?_⟩, ?_, ?_⟩
      · simp only [quillpenref07_By.f]
        have := ref_scan s l hl true l.length 0 false (by omega) (by simpa using hany) k (by omega)
        rw [show ((0 : Nat) : Int) = 0 from rfl] at this
        rw [this, if_neg hE]
        obtain ⟨q, hq⟩ := Nat.exists_eq_succ_of_ne_zero (show k - l.length - 1 ≠ 0 by omega)
        obtain ⟨q, rfl⟩ := Nat.exists_eq_succ_of_ne_zero (show q ≠ 0 by omega)
        rw [hq]
        have hpos : 0 < s.size := by
          rcases Nat.eq_zero_or_pos s.size with h | h
          · exact absurd (toList_nil.2 h) hE
          · exact h
        have hr := ref_run s l (by omega) hl (by omega) F 0 0 0 [] (by omega) hfin (by simp; omega) (by omega) (Nat.zero_mod _) q (by omega)
        simp only [quillpenref07_By.j1, quillpenref07_By.l1]
        rw [if_neg (by decide), if_pos (by omega)]
        simpa using hr
      · have := pieces_len s l F 0 0; omega
      · unfold allOf
        rw [pieces_all s l F 0 0 (by omega) hfin, h0, none_app]
end Go.Proofs.YtmignbhpofmgeaaDoor.Pure
