/- CutsJoins: any pieces are joined, one behind the other; up to 60; where what comes in is of bulk at most 1048576. -/
import Derived.Test.YtjbieekfjlmfmaaRows
import Derived.Test.YtjbieekfjlmfmaaPureCutsJoins
import Derived.WalkKit
import Derived.ProofKit
import Derived.OpenShut
import Derived.ShutString
import Derived.ChangeOld
import Derived.Below
import Derived.SizedLaws
import Derived.Lib.SmallJoins
import Derived.ChangeSame
import Derived.JoinedCond
import Derived.SliceStrings
namespace Go.Proofs.Ytjbieekfjlmfmaa.cutsJoins
open Go.ChangeShapes Go.WideShapes Go.ChangeAt Go.RowKit Go.Joins Go.Proofs.YtjbieekfjlmfmaaW Go.Proofs.YtjbieekfjlmfmaaW.PrintWords
set_option linter.unusedVariables false
theorem own : ownKnob Try.prog.godebug = none := by kernel_rfl
theorem laidOut : laidOutB Try.prog = true := by kernel_rfl
theorem bulk_append {H : Type} (l r : List (DataW H)) : Rows.uptoBulkAll (l ++ r) = Rows.uptoBulkAll l + Rows.uptoBulkAll r := by
  induction l with
  | nil => simp [Rows.uptoBulkAll]
  | cons x l ih => simp only [List.cons_append, Rows.uptoBulkAll, ih]; omega
/-- The letters of a list of strings are within its bulk. -/
theorem letters_le {H : Type} (ss : List ByteArray) : (ss.map ByteArray.size).sum ≤ Rows.uptoBulkAll (strs (H := H) ss) := by
  induction ss with
  | nil => simp
  | cons s ss ih =>
    have e : strs (H := H) (s :: ss) = DataW.lit (.string s.data.toList) :: strs ss := rfl
    rw [e]
    simp only [Rows.uptoBulkAll, Rows.uptoBulk, List.map_cons, List.sum_cons]
    have : s.data.toList.length = s.size := by rw [Array.length_toList]; rfl
    omega
theorem walk (A : Option Addr) (c : Nat) (l : List ByteArray) (W : World) (hC : Kd.string.C W A l.length l) (hc : l.length ≤ c) (hs : (l.map ByteArray.size).sum ≤ 1048576) :
    Calls Try.prog 7 #[.slice A l.length c] W fun e w' => e = .returned (.bool true) ∧ Below W.heap.size W w' := by
  obtain ⟨k, hk⟩ := Pure.joins_tells l (by unfold Cuts07.allOf; rw [Pure.fold_size]; simpa using hs)
  exact XCutsJoins.quillpenlaw07_CutsJoins.calls k A c l true W hC hc hk
set_option maxRecDepth 100000 in
theorem contract (H : Type) (enc : TypeId × Value → H) (W : World) (base : Nat) (args : Array Value) (ds gs : List (DataW H)) (before : List MemPlace)
    (hval : ∀ (j : Nat) t v, Try.f7.params[j]? = some t → args[j]? = some v → Value.okWide Try.prog W .any base t v)
    (hW : DataW.Whole enc Try.prog Try.f7.params.toList Rows.cutsJoinsSpec.vars false W args.toList ds gs before) (hk : Rows.uptoSmall H (ds ++ gs) = true) :
    Calls Try.prog 7 args W fun e W' => ∃ v, e = .returned v ∧ Rows.cutsJoinsSpec.post enc Try.prog Try.f7 false true false false W args v W' := by
  have hW' := hW
  obtain ⟨p, q, hA0, hV, rfl, hfz, hnd⟩ := hW
  have hA : DataW.TrodAll enc Try.prog W 0 (fun _ => true) true Try.f7.params.toList args.toList ds p := hA0
  rw [Try.params7] at hA hval
  obtain ⟨v0, vs0, d0, ds0, p0, q0, hargs, rfl, rfl, h0, r0⟩ := trodAll_cons hA
  obtain ⟨rfl, rfl, rfl⟩ := trodAll_nil r0
  obtain rfl : args = #[v0] := by cases args; simp_all
  obtain ⟨rfl, rfl⟩ := trodVars_none hV
  obtain ⟨a0, len0, cap0, rfl⟩ := okWide_slice Try.underlying24 (hval 0 24 v0 rfl rfl)
  have k0 := h0
  have lt0 : ∀ x ∈ p0, x.block < W.heap.size := by obtain ⟨m, hm⟩ := k0; exact DataW.trod_lt m _ _ _ hm
  have hb : Rows.uptoBulkAll [d0] ≤ 1048576 := by
    have h : Rows.uptoBulkAll ([d0] ++ []) ≤ 1048576 := of_decide_eq_true hk
    simpa using h
  obtain ⟨l0, rfl, hC, hc, hs⟩ : ∃ l0 : List ByteArray, len0 = l0.length ∧ Kd.string.C W a0 l0.length l0 ∧ l0.length ≤ cap0 ∧ (l0.map ByteArray.size).sum ≤ 1048576 := by
    obtain ⟨fuel, hf⟩ := h0
    rcases open_strings Try.underlying24 Try.underlying9 (by kernel_rfl) hf with ⟨hcs, _⟩ | ⟨x, l, c, ss, hcs, _, hl, hm, hz, hx, hcell, hws⟩
    · simp [Value.cells] at hcs
      obtain ⟨rfl, rfl, rfl⟩ := hcs
      exact ⟨[], rfl, ⟨rfl, by simp, fun h => by simp at h⟩, Nat.zero_le _, by simp⟩
    · simp [Value.cells] at hcs
      obtain ⟨rfl, rfl, rfl⟩ := hcs
      have hlen : len0 ≤ ss.length := by rw [hz]; split <;> omega
      refine ⟨ss.take len0, by rw [List.length_take]; omega, ?_, by rw [List.length_take]; omega, ?_⟩
      · refine ⟨rfl, ?_, fun _ => ⟨x, rfl, fun j y hy => ?_⟩⟩
        · rw [List.length_take]; have : maxLen = 9223372036854775807 := rfl; omega
        · obtain ⟨hj, rfl⟩ := List.getElem?_eq_some_iff.1 hy
          have hj2 : j < ss.length := by rw [List.length_take] at hj; omega
          refine ⟨[.string (ss.take len0)[j]], rfl, rfl, fun i u hu => ?_⟩
          have hi : i = 0 := by
            rcases Nat.eq_zero_or_pos i with h | h
            · exact h
            · rw [List.getElem?_eq_none (by simp; omega)] at hu; cases hu
          subst hi
          have hu2 : u = .string (ss.take len0)[j] := by simpa using hu.symm
          have hcj := hcell j hj2
          rw [show ss.getD j ByteArray.empty = (ss.take len0)[j] from by simp [List.getD, hj2]] at hcj
          rw [hu2, show j * Kd.string.sz + 0 = j from by show j * 1 + 0 = j; omega]
          exact hcj
      · have hd : d0 = .slice (strs (ss.take len0)) (strs (ss.drop len0)) := (Prod.mk.inj hx).1
        rw [hd] at hb
        simp only [Rows.uptoBulkAll, Rows.uptoBulk] at hb
        have := letters_le (H := H) (ss.take len0)
        omega
  clear hA0 h0 hk
  refine (walk a0 cap0 l0 W hC hc hs).mono fun e W' ⟨he, bel⟩ => ?_
  subst he
  exact ⟨_, rfl, _, _, _, [], _, [], hW', trodAll_mk1 (shut_bool Try.underlying4 _), (trodAll_cons_mk (Below.trod laidOut (by kernel_rfl) (of_decide_eq_true (by kernel_rfl)) k0 bel lt0) trodAll_mk0), rfl, bel.frame _, fun h => by cases h⟩
set_option maxRecDepth 100000 in
theorem lifted (os : Os) (started : os.Started) (H : Type) (enc : TypeId × Value → H) (F : Stop.Interp) :
    ReturnsInHanded {} Try.checked os 7 .any ((Rows.OpenSpec.upto Rows.cutsJoinsSpec).pre6 enc Try.prog Try.f7 Rows.cutsJoinsUptoRow.domain false) (((Rows.OpenSpec.upto Rows.cutsJoinsSpec).at F).post enc Try.prog Try.f7 false true false false) := by
  refine returnsInHanded_of_cond (C := Try.checked) (s := Rows.OpenSpec.upto Rows.cutsJoinsSpec) (k := Rows.uptoSmall) rfl own started (by kernel_rfl) Try.func7
    (OpenSpec.witness (enc := enc) (C := Try.checked) (s := Rows.OpenSpec.upto Rows.cutsJoinsSpec) (k := Rows.uptoSmall) rfl false ⟨#[], #[.slice none 0 0], []⟩ 8 (by kernel_rfl) (by kernel_rfl) (by kernel_rfl)
      (x := ([.nil], [], [])) (by kernel_rfl) rfl (by kernel_rfl)) ?_
  intro W base args ds gs before hval hW _ hk _
  exact contract H enc W base args ds gs before hval hW hk
theorem over : Rows.cutsJoinsUptoRow.holds Try.pinned (Rows.OpenSpec.upto Rows.cutsJoinsSpec) :=
  OpenClaim.holds_of_cond 7 Try.f7 rfl rfl rfl rfl rfl rfl rfl ⟨rfl, rfl, rfl, rfl, rfl⟩ rfl rfl rfl rfl rfl (by kernel_rfl) Try.func7 (by kernel_rfl)
    (of_decide_eq_true (by kernel_rfl)) (by unfold Func.isWrapper; first | (rw [if_pos (by decide +kernel)]; kernel_rfl) | (rw [if_neg (by decide +kernel)]; exact ⟨rfl, rfl⟩))
    (fun os started H enc _ F => lifted os started H enc F)
theorem proved : Rows.CutsJoinsUptoSaid := over
#print axioms proved
end Go.Proofs.Ytjbieekfjlmfmaa.cutsJoins
namespace Go.Proofs.Ytjbieekfjlmfmaa
/-- The row, under a short name, for the claim. -/
theorem cutsJoinsUpto_holds : Rows.CutsJoinsUptoSaid := cutsJoins.proved
end Go.Proofs.Ytjbieekfjlmfmaa
