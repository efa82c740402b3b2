/- ScanCloses, the plain law: what the end comes to in any state is what the document says. -/
import Derived.Test.YtpejppnkdaiilaaXScanClosesx9
import Derived.OpenShut
namespace Go.Proofs.Ytpejppnkdaiilaa.Pure
open Go.RowKit Go.Proofs.Ytpejppnkdaiilaa Go.Proofs.Ytpejppnkdaiilaa.XScanCloses Go.Proofs.YtpejppnkdaiilaaW.PrintWords Go.Proofs.YtpejppnkdaiilaaW.PrintLast
set_option linter.unusedVariables false
set_option linter.unusedSimpArgs false
theorem u8_bounds {x : Int} (h : (Lit.int .u8 x).wf = true) : 0 ≤ x ∧ x ≤ 255 := bounds_u8 h
theorem ScanCloses : quillpenlaw04_ScanCloses.Pure := by
  intro a0 h
  have h := u8_bounds h
  refine ⟨16, ?_⟩
  unfold quillpenlaw04_ScanCloses.f
  have hw : wrap64 a0 = a0 := by unfold wrap64; omega
  rw [hw]
  have hs : 0 ≤ Int.tmod a0 7 ∧ Int.tmod a0 7 ≤ 6 := by rw [Int.tmod_eq_emod_of_nonneg h.1]; omega
  generalize Int.tmod a0 7 = s at hs ⊢
  have : s = 0 ∨ s = 1 ∨ s = 2 ∨ s = 3 ∨ s = 4 ∨ s = 5 ∨ s = 6 := by omega
  clear hs hw h
  rcases this with rfl | rfl | rfl | rfl | rfl | rfl | rfl <;> decide +kernel
end Go.Proofs.Ytpejppnkdaiilaa.Pure
