/- cuts.Join: its contract, over the shelf's strings.Join. -/
import Derived.Test.YtjbieekfjlmfmaaTa
import Derived.Test.YtjbieekfjlmfmaaShj
namespace Go.Proofs.Ytjbieekfjlmfmaa.Cuts07
open Go.RowKit Go.Shelf Go.Proofs.YtjbieekfjlmfmaaW.PrintWords Go.Proofs.YtjbieekfjlmfmaaW.PrintLast Go.Proofs.YtjbieekfjlmfmaaW.PrintMore Go.Proofs.Ytjbieekfjlmfmaa.Iter
set_option linter.unusedVariables false
set_option linter.unusedSimpArgs false

/-- All of a list, one behind the other. -/
def allOf (l : List ByteArray) : ByteArray := l.foldl (· ++ ·) ByteArray.empty
theorem all_data (l : List ByteArray) : (allOf l).data.toList = (l.map (·.data.toList)).flatten := by
  have h : ∀ (l : List ByteArray) (a : ByteArray), (l.foldl (· ++ ·) a).data.toList = a.data.toList ++ (l.map (·.data.toList)).flatten := by
    intro l
    induction l with
    | nil => intro a; simp
    | cons x l ih => intro a; rw [List.foldl_cons, ih, ByteArray.data_append]; simp
  exact (h l ByteArray.empty).trans (by simp)
theorem join_all (l : List ByteArray) : (⟨(Lib.join (l.map (·.data.toList)) (⟨#[]⟩ : ByteArray).data.toList).toArray⟩ : ByteArray) = allOf l := by
  apply ByteArray.ext
  apply Array.ext'
  rw [all_data]
  simp only [Lib.join]
  generalize l.map (·.data.toList) = xs
  show ([].intercalate xs) = xs.flatten
  unfold List.intercalate
  induction xs with
  | nil => rfl
  | cons x xs ih =>
    cases xs with
    | nil => simp
    | cons y ys => rw [List.intersperse_cons_cons]; simp only [List.flatten_cons, List.nil_append]; rw [ih]; simp
def joinF (l : List ByteArray) : Option ByteArray := if l.length ≤ 1000000 ∧ (allOf l).size ≤ 140737488355328 then some (allOf l) else none
theorem join_calls (A : Option Addr) (c : Nat) (l : List ByteArray) (r : ByteArray) (w : World) (hC : Kd.string.C w A l.length l) (hc : l.length ≤ c) (h : joinF l = some r) :
    Calls Try.prog 20 #[.slice A l.length c] w fun e w' => e = .returned (.string r) ∧ Below w.heap.size w w' := by
  unfold joinF at h
  split at h
  case isFalse => cases h
  case isTrue hl =>
    obtain rfl := Option.some.inj h
    have hj : Calls Try.prog 28 #[.slice A l.length c, .string ⟨#[]⟩] w fun e w' => e = .returned (.string (allOf l)) ∧ Below w.heap.size w w' := by
      cases hcs : l with
      | nil => exact (Try.strings_Join_none A c ⟨#[]⟩ w).mono (fun e w' ⟨h1, h2⟩ => ⟨h1.trans rfl, by rw [h2]; exact Below.refl _ _⟩)
      | cons x xs =>
        rw [← hcs]
        have hpos : 0 < l.length := by rw [hcs]; simp
        obtain ⟨ad, rfl, hx⟩ := Kd.at_string hC 0 (by omega) (by omega)
        obtain ⟨b, o, rfl⟩ : ∃ b o, ad = ⟨b, o, none⟩ := by
          have h1 := World.cell?_spot hx
          rw [show ad.add (0 : Int).toNat = ad from rfl] at h1
          obtain ⟨b, o, sp⟩ := ad
          exact ⟨b, o, by rw [show sp = none from h1]⟩
        have hb : b < w.heap.size := World.block_lt_of_cell? w _ hx
        rw [← join_all l]
        refine (Try.strings_Join b o c l ⟨#[]⟩ w (fun j y hy => ?_) hb (by omega) hc ?_)
        · obtain ⟨hlt, rfl⟩ := List.getElem?_eq_some_iff.1 hy
          obtain ⟨ad', e, hcell⟩ := Kd.at_string hC (j : Int) (by omega) (by omega)
          obtain rfl := Option.some.inj e
          rw [Int.toNat_natCast, show rdOf ByteArray.empty l (j : Int) = l[j] from by simp [rdOf, hlt]] at hcell
          rw [show (⟨b, o, none⟩ : Addr).add j = ⟨b, o + j, none⟩ from by unfold Addr.add; split <;> simp_all] at hcell
          exact hcell
        · have := congrArg ByteArray.size (join_all l)
          have e : (⟨(Lib.join (l.map (·.data.toList)) (⟨#[]⟩ : ByteArray).data.toList).toArray⟩ : ByteArray).size = (Lib.join (l.map (·.data.toList)) (⟨#[]⟩ : ByteArray).data.toList).length := by simp [ByteArray.size]
          omega
    go_enter Try.func20, Try.ntmps20
    go_wp2_with (go_at_call 28; refine hj.mono ?_; rintro e w' ⟨rfl, hb⟩)
    go_ret
    exact ⟨rfl, hb⟩
end Go.Proofs.Ytjbieekfjlmfmaa.Cuts07
