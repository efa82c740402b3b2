/- ScanEither, the plain law: what is no error with LF or CRLF comes to the same with Either; up to 300 bytes. -/
import Derived.Test.YtpejppnkdaiilaaXScanEitherx7
import Derived.OpenShut
namespace Go.Proofs.Ytpejppnkdaiilaa.Pure
open Go.RowKit Go.Proofs.Ytpejppnkdaiilaa Go.Proofs.Ytpejppnkdaiilaa.XScanEither Go.Proofs.YtpejppnkdaiilaaW.PrintWords Go.Proofs.YtpejppnkdaiilaaW.PrintLast
set_option linter.unusedVariables false
set_option linter.unusedSimpArgs false
/-- A dialect that may be, byte by byte. -/
def okD (d q e : Int) : Prop := 0 ≤ d ∧ d ≤ 127 ∧ d ≠ 10 ∧ d ≠ 13 ∧ 0 ≤ q ∧ q ≤ 127 ∧ q ≠ 10 ∧ q ≠ 13 ∧ d ≠ q ∧ (e = 1 ∨ e = 2 ∨ e = 3)
theorem right_okD {d q e : Int} (h : quillpenref01_Right.f d q e = some true) : okD d q e := by
  have h' := Option.some.inj h
  simp [Ext.okB] at h'
  unfold okD
  omega
theorem right_tells (d q e : Int) : ∃ r, quillpenref01_Right.f d q e = some r := ⟨_, rfl⟩
/-- What one byte comes to with an end of lines, and, where that is no error, with either. -/
def Either (d q e s b : Int) : Prop := ∃ (x1 x2 x3 x4 x5 : Bool) (B nx er : Int), (∀ k, scan_Step.f (k + 6) d q e s b = some (x1, x2, x3, x4, x5, B, nx, er)) ∧ (er = 0 → ∀ k, scan_Step.f (k + 6) d q 3 s b = some (x1, x2, x3, x4, x5, B, nx, er)) ∧ (er = 0 → 0 ≤ nx ∧ nx ≤ 6)
set_option maxHeartbeats 2000000 in
theorem either0 (d q e b : Int) (h : okD d q e) (hb : 0 ≤ b ∧ b ≤ 255) : Either d q e 0 b := by
  obtain ⟨d1, d2, d3, d4, q1, q2, q3, q4, hdq, he⟩ := h
  by_cases c0 : b = q
  · subst c0
    have f1 := Ne.symm hdq
    exact ⟨true, false, false, false, false, 0, 3, 0, fun k => by simp [scan_Step.f, scan_Step.j0, scan_Step.j1, scan_Step.j2, scan_Step.j3, scan_ends.f, scan_ends.j0, scan_pending.f, *], by simp [scan_Step.f, scan_Step.j0, scan_Step.j1, scan_Step.j2, scan_Step.j3, scan_ends.f, scan_ends.j0, scan_pending.f, *], by omega⟩
  by_cases c1 : b = d
  · subst c1
    exact ⟨true, false, true, false, false, 0, 1, 0, fun k => by simp [scan_Step.f, scan_Step.j0, scan_Step.j1, scan_Step.j2, scan_Step.j3, scan_ends.f, scan_ends.j0, scan_pending.f, *], by simp [scan_Step.f, scan_Step.j0, scan_Step.j1, scan_Step.j2, scan_Step.j3, scan_ends.f, scan_ends.j0, scan_pending.f, *], by omega⟩
  by_cases c2 : b = 13
  · subst c2
    have f1 : ¬ 13 = d := by omega
    have f2 : ¬ 13 = q := by omega
    by_cases e1 : e = 1
    · subst e1
      exact ⟨false, false, false, false, false, 0, 0, 6, fun k => by simp [scan_Step.f, scan_Step.j0, scan_Step.j1, scan_Step.j2, scan_Step.j3, scan_ends.f, scan_ends.j0, scan_pending.f, f1, f2], by simp [scan_Step.f, scan_Step.j0, scan_Step.j1, scan_Step.j2, scan_Step.j3, scan_ends.f, scan_ends.j0, scan_pending.f, f1, f2], by omega⟩
    · exact ⟨false, false, false, false, false, 0, 6, 0, fun k => by simp [scan_Step.f, scan_Step.j0, scan_Step.j1, scan_Step.j2, scan_Step.j3, scan_ends.f, scan_ends.j0, scan_pending.f, f1, f2, e1], by simp [scan_Step.f, scan_Step.j0, scan_Step.j1, scan_Step.j2, scan_Step.j3, scan_ends.f, scan_ends.j0, scan_pending.f, f1, f2, e1], by omega⟩
  by_cases c3 : b = 10
  · subst c3
    have f1 : ¬ 10 = d := by omega
    have f2 : ¬ 10 = q := by omega
    by_cases e1 : e = 2
    · subst e1
      exact ⟨false, false, false, false, false, 0, 0, 6, fun k => by simp [scan_Step.f, scan_Step.j0, scan_Step.j1, scan_Step.j2, scan_Step.j3, scan_ends.f, scan_ends.j0, scan_pending.f, f1, f2], by simp [scan_Step.f, scan_Step.j0, scan_Step.j1, scan_Step.j2, scan_Step.j3, scan_ends.f, scan_ends.j0, scan_pending.f, f1, f2], by omega⟩
    · exact ⟨false, false, false, false, false, 0, 0, 0, fun k => by simp [scan_Step.f, scan_Step.j0, scan_Step.j1, scan_Step.j2, scan_Step.j3, scan_ends.f, scan_ends.j0, scan_pending.f, f1, f2, e1], by simp [scan_Step.f, scan_Step.j0, scan_Step.j1, scan_Step.j2, scan_Step.j3, scan_ends.f, scan_ends.j0, scan_pending.f, f1, f2, e1], by omega⟩
  exact ⟨true, true, false, false, false, b, 2, 0, fun k => by simp [scan_Step.f, scan_Step.j0, scan_Step.j1, scan_Step.j2, scan_Step.j3, scan_ends.f, scan_ends.j0, scan_pending.f, c0, c1, c2, c3], by simp [scan_Step.f, scan_Step.j0, scan_Step.j1, scan_Step.j2, scan_Step.j3, scan_ends.f, scan_ends.j0, scan_pending.f, c0, c1, c2, c3], by omega⟩
set_option maxHeartbeats 2000000 in
theorem either1 (d q e b : Int) (h : okD d q e) (hb : 0 ≤ b ∧ b ≤ 255) : Either d q e 1 b := by
  obtain ⟨d1, d2, d3, d4, q1, q2, q3, q4, hdq, he⟩ := h
  by_cases c0 : b = q
  · subst c0
    have f1 := Ne.symm hdq
    exact ⟨false, false, false, false, false, 0, 3, 0, fun k => by simp [scan_Step.f, scan_Step.j0, scan_Step.j1, scan_Step.j2, scan_Step.j3, scan_ends.f, scan_ends.j0, scan_pending.f, *], by simp [scan_Step.f, scan_Step.j0, scan_Step.j1, scan_Step.j2, scan_Step.j3, scan_ends.f, scan_ends.j0, scan_pending.f, *], by omega⟩
  by_cases c1 : b = d
  · subst c1
    exact ⟨false, false, true, false, false, 0, 1, 0, fun k => by simp [scan_Step.f, scan_Step.j0, scan_Step.j1, scan_Step.j2, scan_Step.j3, scan_ends.f, scan_ends.j0, scan_pending.f, *], by simp [scan_Step.f, scan_Step.j0, scan_Step.j1, scan_Step.j2, scan_Step.j3, scan_ends.f, scan_ends.j0, scan_pending.f, *], by omega⟩
  by_cases c2 : b = 13
  · subst c2
    have f1 : ¬ 13 = d := by omega
    have f2 : ¬ 13 = q := by omega
    by_cases e1 : e = 1
    · subst e1
      exact ⟨false, false, false, false, false, 0, 0, 6, fun k => by simp [scan_Step.f, scan_Step.j0, scan_Step.j1, scan_Step.j2, scan_Step.j3, scan_ends.f, scan_ends.j0, scan_pending.f, f1, f2], by simp [scan_Step.f, scan_Step.j0, scan_Step.j1, scan_Step.j2, scan_Step.j3, scan_ends.f, scan_ends.j0, scan_pending.f, f1, f2], by omega⟩
    · exact ⟨false, false, false, true, false, 0, 5, 0, fun k => by simp [scan_Step.f, scan_Step.j0, scan_Step.j1, scan_Step.j2, scan_Step.j3, scan_ends.f, scan_ends.j0, scan_pending.f, f1, f2, e1], by simp [scan_Step.f, scan_Step.j0, scan_Step.j1, scan_Step.j2, scan_Step.j3, scan_ends.f, scan_ends.j0, scan_pending.f, f1, f2, e1], by omega⟩
  by_cases c3 : b = 10
  · subst c3
    have f1 : ¬ 10 = d := by omega
    have f2 : ¬ 10 = q := by omega
    by_cases e1 : e = 2
    · subst e1
      exact ⟨false, false, false, false, false, 0, 0, 6, fun k => by simp [scan_Step.f, scan_Step.j0, scan_Step.j1, scan_Step.j2, scan_Step.j3, scan_ends.f, scan_ends.j0, scan_pending.f, f1, f2], by simp [scan_Step.f, scan_Step.j0, scan_Step.j1, scan_Step.j2, scan_Step.j3, scan_ends.f, scan_ends.j0, scan_pending.f, f1, f2], by omega⟩
    · exact ⟨false, false, false, true, true, 0, 0, 0, fun k => by simp [scan_Step.f, scan_Step.j0, scan_Step.j1, scan_Step.j2, scan_Step.j3, scan_ends.f, scan_ends.j0, scan_pending.f, f1, f2, e1], by simp [scan_Step.f, scan_Step.j0, scan_Step.j1, scan_Step.j2, scan_Step.j3, scan_ends.f, scan_ends.j0, scan_pending.f, f1, f2, e1], by omega⟩
  exact ⟨false, true, false, false, false, b, 2, 0, fun k => by simp [scan_Step.f, scan_Step.j0, scan_Step.j1, scan_Step.j2, scan_Step.j3, scan_ends.f, scan_ends.j0, scan_pending.f, c0, c1, c2, c3], by simp [scan_Step.f, scan_Step.j0, scan_Step.j1, scan_Step.j2, scan_Step.j3, scan_ends.f, scan_ends.j0, scan_pending.f, c0, c1, c2, c3], by omega⟩
set_option maxHeartbeats 2000000 in
theorem either2 (d q e b : Int) (h : okD d q e) (hb : 0 ≤ b ∧ b ≤ 255) : Either d q e 2 b := by
  obtain ⟨d1, d2, d3, d4, q1, q2, q3, q4, hdq, he⟩ := h
  by_cases c0 : b = q
  · subst c0
    have f1 := Ne.symm hdq
    exact ⟨false, false, false, false, false, 0, 0, 4, fun k => by simp [scan_Step.f, scan_Step.j0, scan_Step.j1, scan_Step.j2, scan_Step.j3, scan_ends.f, scan_ends.j0, scan_pending.f, *], by simp [scan_Step.f, scan_Step.j0, scan_Step.j1, scan_Step.j2, scan_Step.j3, scan_ends.f, scan_ends.j0, scan_pending.f, *], by omega⟩
  by_cases c1 : b = d
  · subst c1
    exact ⟨false, false, true, false, false, 0, 1, 0, fun k => by simp [scan_Step.f, scan_Step.j0, scan_Step.j1, scan_Step.j2, scan_Step.j3, scan_ends.f, scan_ends.j0, scan_pending.f, *], by simp [scan_Step.f, scan_Step.j0, scan_Step.j1, scan_Step.j2, scan_Step.j3, scan_ends.f, scan_ends.j0, scan_pending.f, *], by omega⟩
  by_cases c2 : b = 13
  · subst c2
    have f1 : ¬ 13 = d := by omega
    have f2 : ¬ 13 = q := by omega
    by_cases e1 : e = 1
    · subst e1
      exact ⟨false, false, false, false, false, 0, 0, 6, fun k => by simp [scan_Step.f, scan_Step.j0, scan_Step.j1, scan_Step.j2, scan_Step.j3, scan_ends.f, scan_ends.j0, scan_pending.f, f1, f2], by simp [scan_Step.f, scan_Step.j0, scan_Step.j1, scan_Step.j2, scan_Step.j3, scan_ends.f, scan_ends.j0, scan_pending.f, f1, f2], by omega⟩
    · exact ⟨false, false, false, true, false, 0, 5, 0, fun k => by simp [scan_Step.f, scan_Step.j0, scan_Step.j1, scan_Step.j2, scan_Step.j3, scan_ends.f, scan_ends.j0, scan_pending.f, f1, f2, e1], by simp [scan_Step.f, scan_Step.j0, scan_Step.j1, scan_Step.j2, scan_Step.j3, scan_ends.f, scan_ends.j0, scan_pending.f, f1, f2, e1], by omega⟩
  by_cases c3 : b = 10
  · subst c3
    have f1 : ¬ 10 = d := by omega
    have f2 : ¬ 10 = q := by omega
    by_cases e1 : e = 2
    · subst e1
      exact ⟨false, false, false, false, false, 0, 0, 6, fun k => by simp [scan_Step.f, scan_Step.j0, scan_Step.j1, scan_Step.j2, scan_Step.j3, scan_ends.f, scan_ends.j0, scan_pending.f, f1, f2], by simp [scan_Step.f, scan_Step.j0, scan_Step.j1, scan_Step.j2, scan_Step.j3, scan_ends.f, scan_ends.j0, scan_pending.f, f1, f2], by omega⟩
    · exact ⟨false, false, false, true, true, 0, 0, 0, fun k => by simp [scan_Step.f, scan_Step.j0, scan_Step.j1, scan_Step.j2, scan_Step.j3, scan_ends.f, scan_ends.j0, scan_pending.f, f1, f2, e1], by simp [scan_Step.f, scan_Step.j0, scan_Step.j1, scan_Step.j2, scan_Step.j3, scan_ends.f, scan_ends.j0, scan_pending.f, f1, f2, e1], by omega⟩
  exact ⟨false, true, false, false, false, b, 2, 0, fun k => by simp [scan_Step.f, scan_Step.j0, scan_Step.j1, scan_Step.j2, scan_Step.j3, scan_ends.f, scan_ends.j0, scan_pending.f, c0, c1, c2, c3], by simp [scan_Step.f, scan_Step.j0, scan_Step.j1, scan_Step.j2, scan_Step.j3, scan_ends.f, scan_ends.j0, scan_pending.f, c0, c1, c2, c3], by omega⟩
set_option maxHeartbeats 2000000 in
theorem either3 (d q e b : Int) (h : okD d q e) (hb : 0 ≤ b ∧ b ≤ 255) : Either d q e 3 b := by
  obtain ⟨d1, d2, d3, d4, q1, q2, q3, q4, hdq, he⟩ := h
  by_cases c0 : b = q
  · subst c0
    have f1 := Ne.symm hdq
    exact ⟨false, false, false, false, false, 0, 4, 0, fun k => by simp [scan_Step.f, scan_Step.j0, scan_Step.j1, scan_Step.j2, scan_Step.j3, scan_ends.f, scan_ends.j0, scan_pending.f, *], by simp [scan_Step.f, scan_Step.j0, scan_Step.j1, scan_Step.j2, scan_Step.j3, scan_ends.f, scan_ends.j0, scan_pending.f, *], by omega⟩
  by_cases c1 : b = d
  · subst c1
    exact ⟨false, true, false, false, false, b, 3, 0, fun k => by simp [scan_Step.f, scan_Step.j0, scan_Step.j1, scan_Step.j2, scan_Step.j3, scan_ends.f, scan_ends.j0, scan_pending.f, *], by simp [scan_Step.f, scan_Step.j0, scan_Step.j1, scan_Step.j2, scan_Step.j3, scan_ends.f, scan_ends.j0, scan_pending.f, *], by omega⟩
  by_cases c2 : b = 13
  · subst c2
    have f1 : ¬ 13 = d := by omega
    have f2 : ¬ 13 = q := by omega
    exact ⟨false, true, false, false, false, 13, 3, 0, fun k => by simp [scan_Step.f, scan_Step.j0, scan_Step.j1, scan_Step.j2, scan_Step.j3, scan_ends.f, scan_ends.j0, scan_pending.f, f1, f2], by simp [scan_Step.f, scan_Step.j0, scan_Step.j1, scan_Step.j2, scan_Step.j3, scan_ends.f, scan_ends.j0, scan_pending.f, f1, f2], by omega⟩
  by_cases c3 : b = 10
  · subst c3
    have f1 : ¬ 10 = d := by omega
    have f2 : ¬ 10 = q := by omega
    exact ⟨false, true, false, false, false, 10, 3, 0, fun k => by simp [scan_Step.f, scan_Step.j0, scan_Step.j1, scan_Step.j2, scan_Step.j3, scan_ends.f, scan_ends.j0, scan_pending.f, f1, f2], by simp [scan_Step.f, scan_Step.j0, scan_Step.j1, scan_Step.j2, scan_Step.j3, scan_ends.f, scan_ends.j0, scan_pending.f, f1, f2], by omega⟩
  exact ⟨false, true, false, false, false, b, 3, 0, fun k => by simp [scan_Step.f, scan_Step.j0, scan_Step.j1, scan_Step.j2, scan_Step.j3, scan_ends.f, scan_ends.j0, scan_pending.f, c0, c1, c2, c3], by simp [scan_Step.f, scan_Step.j0, scan_Step.j1, scan_Step.j2, scan_Step.j3, scan_ends.f, scan_ends.j0, scan_pending.f, c0, c1, c2, c3], by omega⟩
set_option maxHeartbeats 2000000 in
theorem either4 (d q e b : Int) (h : okD d q e) (hb : 0 ≤ b ∧ b ≤ 255) : Either d q e 4 b := by
  obtain ⟨d1, d2, d3, d4, q1, q2, q3, q4, hdq, he⟩ := h
  by_cases c0 : b = q
  · subst c0
    have f1 := Ne.symm hdq
    exact ⟨false, true, false, false, false, b, 3, 0, fun k => by simp [scan_Step.f, scan_Step.j0, scan_Step.j1, scan_Step.j2, scan_Step.j3, scan_ends.f, scan_ends.j0, scan_pending.f, *], by simp [scan_Step.f, scan_Step.j0, scan_Step.j1, scan_Step.j2, scan_Step.j3, scan_ends.f, scan_ends.j0, scan_pending.f, *], by omega⟩
  by_cases c1 : b = d
  · subst c1
    exact ⟨false, false, true, false, false, 0, 1, 0, fun k => by simp [scan_Step.f, scan_Step.j0, scan_Step.j1, scan_Step.j2, scan_Step.j3, scan_ends.f, scan_ends.j0, scan_pending.f, *], by simp [scan_Step.f, scan_Step.j0, scan_Step.j1, scan_Step.j2, scan_Step.j3, scan_ends.f, scan_ends.j0, scan_pending.f, *], by omega⟩
  by_cases c2 : b = 13
  · subst c2
    have f1 : ¬ 13 = d := by omega
    have f2 : ¬ 13 = q := by omega
    by_cases e1 : e = 1
    · subst e1
      exact ⟨false, false, false, false, false, 0, 0, 6, fun k => by simp [scan_Step.f, scan_Step.j0, scan_Step.j1, scan_Step.j2, scan_Step.j3, scan_ends.f, scan_ends.j0, scan_pending.f, f1, f2], by simp [scan_Step.f, scan_Step.j0, scan_Step.j1, scan_Step.j2, scan_Step.j3, scan_ends.f, scan_ends.j0, scan_pending.f, f1, f2], by omega⟩
    · exact ⟨false, false, false, true, false, 0, 5, 0, fun k => by simp [scan_Step.f, scan_Step.j0, scan_Step.j1, scan_Step.j2, scan_Step.j3, scan_ends.f, scan_ends.j0, scan_pending.f, f1, f2, e1], by simp [scan_Step.f, scan_Step.j0, scan_Step.j1, scan_Step.j2, scan_Step.j3, scan_ends.f, scan_ends.j0, scan_pending.f, f1, f2, e1], by omega⟩
  by_cases c3 : b = 10
  · subst c3
    have f1 : ¬ 10 = d := by omega
    have f2 : ¬ 10 = q := by omega
    by_cases e1 : e = 2
    · subst e1
      exact ⟨false, false, false, false, false, 0, 0, 6, fun k => by simp [scan_Step.f, scan_Step.j0, scan_Step.j1, scan_Step.j2, scan_Step.j3, scan_ends.f, scan_ends.j0, scan_pending.f, f1, f2], by simp [scan_Step.f, scan_Step.j0, scan_Step.j1, scan_Step.j2, scan_Step.j3, scan_ends.f, scan_ends.j0, scan_pending.f, f1, f2], by omega⟩
    · exact ⟨false, false, false, true, true, 0, 0, 0, fun k => by simp [scan_Step.f, scan_Step.j0, scan_Step.j1, scan_Step.j2, scan_Step.j3, scan_ends.f, scan_ends.j0, scan_pending.f, f1, f2, e1], by simp [scan_Step.f, scan_Step.j0, scan_Step.j1, scan_Step.j2, scan_Step.j3, scan_ends.f, scan_ends.j0, scan_pending.f, f1, f2, e1], by omega⟩
  exact ⟨false, false, false, false, false, 0, 0, 5, fun k => by simp [scan_Step.f, scan_Step.j0, scan_Step.j1, scan_Step.j2, scan_Step.j3, scan_ends.f, scan_ends.j0, scan_pending.f, c0, c1, c2, c3], by simp [scan_Step.f, scan_Step.j0, scan_Step.j1, scan_Step.j2, scan_Step.j3, scan_ends.f, scan_ends.j0, scan_pending.f, c0, c1, c2, c3], by omega⟩
set_option maxHeartbeats 2000000 in
theorem either5 (d q e b : Int) (h : okD d q e) (hb : 0 ≤ b ∧ b ≤ 255) : Either d q e 5 b := by
  obtain ⟨d1, d2, d3, d4, q1, q2, q3, q4, hdq, he⟩ := h
  by_cases c0 : b = q
  · subst c0
    have f1 := Ne.symm hdq
    exact ⟨false, false, false, false, false, 0, 0, 6, fun k => by simp [scan_Step.f, scan_Step.j0, scan_Step.j1, scan_Step.j2, scan_Step.j3, scan_ends.f, scan_ends.j0, scan_pending.f, *], by simp [scan_Step.f, scan_Step.j0, scan_Step.j1, scan_Step.j2, scan_Step.j3, scan_ends.f, scan_ends.j0, scan_pending.f, *], by omega⟩
  by_cases c1 : b = d
  · subst c1
    exact ⟨false, false, false, false, false, 0, 0, 6, fun k => by simp [scan_Step.f, scan_Step.j0, scan_Step.j1, scan_Step.j2, scan_Step.j3, scan_ends.f, scan_ends.j0, scan_pending.f, *], by simp [scan_Step.f, scan_Step.j0, scan_Step.j1, scan_Step.j2, scan_Step.j3, scan_ends.f, scan_ends.j0, scan_pending.f, *], by omega⟩
  by_cases c2 : b = 13
  · subst c2
    have f1 : ¬ 13 = d := by omega
    have f2 : ¬ 13 = q := by omega
    exact ⟨false, false, false, false, false, 0, 0, 6, fun k => by simp [scan_Step.f, scan_Step.j0, scan_Step.j1, scan_Step.j2, scan_Step.j3, scan_ends.f, scan_ends.j0, scan_pending.f, f1, f2], by simp [scan_Step.f, scan_Step.j0, scan_Step.j1, scan_Step.j2, scan_Step.j3, scan_ends.f, scan_ends.j0, scan_pending.f, f1, f2], by omega⟩
  by_cases c3 : b = 10
  · subst c3
    have f1 : ¬ 10 = d := by omega
    have f2 : ¬ 10 = q := by omega
    exact ⟨false, false, false, false, true, 0, 0, 0, fun k => by simp [scan_Step.f, scan_Step.j0, scan_Step.j1, scan_Step.j2, scan_Step.j3, scan_ends.f, scan_ends.j0, scan_pending.f, f1, f2], by simp [scan_Step.f, scan_Step.j0, scan_Step.j1, scan_Step.j2, scan_Step.j3, scan_ends.f, scan_ends.j0, scan_pending.f, f1, f2], by omega⟩
  exact ⟨false, false, false, false, false, 0, 0, 6, fun k => by simp [scan_Step.f, scan_Step.j0, scan_Step.j1, scan_Step.j2, scan_Step.j3, scan_ends.f, scan_ends.j0, scan_pending.f, c0, c1, c2, c3], by simp [scan_Step.f, scan_Step.j0, scan_Step.j1, scan_Step.j2, scan_Step.j3, scan_ends.f, scan_ends.j0, scan_pending.f, c0, c1, c2, c3], by omega⟩
set_option maxHeartbeats 2000000 in
theorem either6 (d q e b : Int) (h : okD d q e) (hb : 0 ≤ b ∧ b ≤ 255) : Either d q e 6 b := by
  obtain ⟨d1, d2, d3, d4, q1, q2, q3, q4, hdq, he⟩ := h
  by_cases c0 : b = q
  · subst c0
    have f1 := Ne.symm hdq
    exact ⟨false, false, false, false, false, 0, 0, 6, fun k => by simp [scan_Step.f, scan_Step.j0, scan_Step.j1, scan_Step.j2, scan_Step.j3, scan_ends.f, scan_ends.j0, scan_pending.f, *], by simp [scan_Step.f, scan_Step.j0, scan_Step.j1, scan_Step.j2, scan_Step.j3, scan_ends.f, scan_ends.j0, scan_pending.f, *], by omega⟩
  by_cases c1 : b = d
  · subst c1
    exact ⟨false, false, false, false, false, 0, 0, 6, fun k => by simp [scan_Step.f, scan_Step.j0, scan_Step.j1, scan_Step.j2, scan_Step.j3, scan_ends.f, scan_ends.j0, scan_pending.f, *], by simp [scan_Step.f, scan_Step.j0, scan_Step.j1, scan_Step.j2, scan_Step.j3, scan_ends.f, scan_ends.j0, scan_pending.f, *], by omega⟩
  by_cases c2 : b = 13
  · subst c2
    have f1 : ¬ 13 = d := by omega
    have f2 : ¬ 13 = q := by omega
    exact ⟨false, false, false, false, false, 0, 0, 6, fun k => by simp [scan_Step.f, scan_Step.j0, scan_Step.j1, scan_Step.j2, scan_Step.j3, scan_ends.f, scan_ends.j0, scan_pending.f, f1, f2], by simp [scan_Step.f, scan_Step.j0, scan_Step.j1, scan_Step.j2, scan_Step.j3, scan_ends.f, scan_ends.j0, scan_pending.f, f1, f2], by omega⟩
  by_cases c3 : b = 10
  · subst c3
    have f1 : ¬ 10 = d := by omega
    have f2 : ¬ 10 = q := by omega
    exact ⟨false, false, false, false, false, 0, 0, 0, fun k => by simp [scan_Step.f, scan_Step.j0, scan_Step.j1, scan_Step.j2, scan_Step.j3, scan_ends.f, scan_ends.j0, scan_pending.f, f1, f2], by simp [scan_Step.f, scan_Step.j0, scan_Step.j1, scan_Step.j2, scan_Step.j3, scan_ends.f, scan_ends.j0, scan_pending.f, f1, f2], by omega⟩
  exact ⟨false, false, false, false, false, 0, 0, 6, fun k => by simp [scan_Step.f, scan_Step.j0, scan_Step.j1, scan_Step.j2, scan_Step.j3, scan_ends.f, scan_ends.j0, scan_pending.f, c0, c1, c2, c3], by simp [scan_Step.f, scan_Step.j0, scan_Step.j1, scan_Step.j2, scan_Step.j3, scan_ends.f, scan_ends.j0, scan_pending.f, c0, c1, c2, c3], by omega⟩
theorem either (d q e s b : Int) (h : okD d q e) (hb : 0 ≤ b ∧ b ≤ 255) (hs : 0 ≤ s ∧ s ≤ 6) : Either d q e s b := by
  have : s = 0 ∨ s = 1 ∨ s = 2 ∨ s = 3 ∨ s = 4 ∨ s = 5 ∨ s = 6 := by omega
  rcases this with rfl | rfl | rfl | rfl | rfl | rfl | rfl
  · exact either0 d q e b h hb
  · exact either1 d q e b h hb
  · exact either2 d q e b h hb
  · exact either3 d q e b h hb
  · exact either4 d q e b h hb
  · exact either5 d q e b h hb
  · exact either6 d q e b h hb
theorem u8_bounds {x : Int} (h : (Lit.int .u8 x).wf = true) : 0 ≤ x ∧ x ≤ 255 := bounds_u8 h
theorem wrap_small {x : Int} (h0 : -9223372036854775808 ≤ x) (h1 : x ≤ 9223372036854775807) : wrap64 x = x := by unfold wrap64; omega
theorem awake_true : quillpenlaw04_awake.f 16 = some true := by decide +kernel
theorem awake_more {k : Nat} (h : 16 ≤ k) : quillpenlaw04_awake.f k = some true := at_rounds quillpenlaw04_awake.mono h awake_true
theorem bt_bounds (s : ByteArray) (i : Int) : 0 ≤ bt s i ∧ bt s i ≤ 255 := by
  unfold bt
  split
  · rename_i h
    have := s[i.toNat].toNat_lt
    omega
  · omega
theorem close_tells (s : Int) (hs : 0 ≤ s ∧ s ≤ 6) : ∃ (x1 x2 x3 x4 x5 : Bool) (B er : Int), scan_Close.f s = some (x1, x2, x3, x4, x5, B, er) := by
  unfold scan_Close.f
  repeat' split
  all_goals exact ⟨_, _, _, _, _, _, _, rfl⟩
theorem walks (d q e : Int) (hD : okD d q e) (s : ByteArray) (hn : s.size ≤ 300) : ∀ (rem i : Nat) (st : Int), i + rem = s.size → (0 ≤ st ∧ st ≤ 6) →
    ∃ (evs : List S30) (kind at_ : Int), evs.length ≤ rem + 1 ∧ (∀ out : List S30, out.length = i → ∀ k, rem + 20 ≤ k → scan_Run.l0 k s out st (s.size : Int) (i : Int) d q e = some (out ++ evs, kind, at_)) ∧
      (kind = 0 → ∀ out : List S30, out.length = i → ∀ k, rem + 20 ≤ k → scan_Run.l0 k s out st (s.size : Int) (i : Int) d q 3 = some (out ++ evs, 0, 0)) := by
  intro rem
  induction rem with
  | zero =>
    intro i st hi hs
    obtain ⟨x1, x2, x3, x4, x5, B, er, h1⟩ := close_tells st hs
    by_cases he : er = 0
    · subst he
      have go : ∀ e', ∀ out : List S30, out.length = i → ∀ k, 0 + 20 ≤ k → scan_Run.l0 k s out st (s.size : Int) (i : Int) d q e' = some (out ++ [⟨x1, x2, x3, x4, x5, B⟩], 0, 0) := by
        intro e' out ho k hk
        obtain ⟨k, rfl⟩ : ∃ m, k = m + 1 := ⟨k - 1, by omega⟩
        simp only [scan_Run.l0]
        rw [if_neg (by omega), h1]
        simp only [Option.bind_some, if_true]
        rw [if_pos (by omega)]
      exact ⟨[⟨x1, x2, x3, x4, x5, B⟩], 0, 0, by simp, go e, fun _ => go 3⟩
    · refine ⟨[], er, (s.size : Int), by simp, ?_, fun h => absurd h he⟩
      intro out ho k hk
      obtain ⟨k, rfl⟩ : ∃ m, k = m + 1 := ⟨k - 1, by omega⟩
      simp only [scan_Run.l0]
      rw [if_neg (by omega), h1]
      simp only [Option.bind_some]
      rw [if_neg he, List.append_nil]
  | succ rem ih =>
    intro i st hi hs
    obtain ⟨x1, x2, x3, x4, x5, B, nx, er, h1, h2, hnx⟩ := either d q e st (bt s i) hD (bt_bounds s i) hs
    by_cases he : er = 0
    · subst he
      obtain ⟨evs, kind, at_, hlen, hr, hl⟩ := ih (i + 1) nx (by omega) (hnx rfl)
      have go : ∀ e' K A, (∀ k, scan_Step.f (k + 6) d q e' st (bt s i) = some (x1, x2, x3, x4, x5, B, nx, 0)) → (∀ out : List S30, out.length = i + 1 → ∀ k, rem + 20 ≤ k → scan_Run.l0 k s out nx (s.size : Int) ((i + 1 : Nat) : Int) d q e' = some (out ++ evs, K, A)) →
          ∀ out : List S30, out.length = i → ∀ k, rem + 1 + 20 ≤ k → scan_Run.l0 k s out st (s.size : Int) (i : Int) d q e' = some (out ++ ⟨x1, x2, x3, x4, x5, B⟩ :: evs, K, A) := by
        intro e' K A hst hrun out ho k hk
        obtain ⟨k, rfl⟩ : ∃ m, k = m + 1 := ⟨k - 1, by omega⟩
        have hst := hst (k - 6)
        rw [Nat.sub_add_cancel (by omega)] at hst
        simp only [scan_Run.l0]
        rw [if_pos (by omega), if_pos (by omega), if_pos (by omega), hst]
        simp only [Option.bind_some, if_true]
        rw [if_pos (by omega), show wrap64 ((i : Int) + 1) = (i : Int) + 1 from by unfold wrap64; omega]
        have := hrun (out ++ [⟨x1, x2, x3, x4, x5, B⟩]) (by simp [ho]) k (by omega)
        rw [show ((i + 1 : Nat) : Int) = (i : Int) + 1 from by omega] at this
        rw [this]
        simp
      exact ⟨⟨x1, x2, x3, x4, x5, B⟩ :: evs, kind, at_, by simp; omega, go e kind at_ h1 hr, fun hk => go 3 0 0 (h2 rfl) (hl hk)⟩
    · refine ⟨[], er, (i : Int), by simp, ?_, fun h => absurd h he⟩
      intro out ho k hk
      obtain ⟨k, rfl⟩ : ∃ m, k = m + 1 := ⟨k - 1, by omega⟩
      have hst := h1 (k - 6)
      rw [Nat.sub_add_cancel (by omega)] at hst
      simp only [scan_Run.l0]
      rw [if_pos (by omega), if_pos (by omega), if_pos (by omega), hst]
      simp only [Option.bind_some]
      rw [if_neg he, List.append_nil]
theorem compares (l : List S30) (hl : l.length ≤ 301) : ∀ (rem i : Nat), i + rem = l.length → ∀ k, rem + 40 ≤ k → quillpenlaw04_ScanEither.l0 k l l (l.length : Int) (i : Int) = some true := by
  intro rem
  induction rem with
  | zero =>
    intro i hi k hk
    obtain ⟨k, rfl⟩ : ∃ m, k = m + 1 := ⟨k - 1, by omega⟩
    simp only [quillpenlaw04_ScanEither.l0]
    rw [if_neg (by omega), awake_more (by omega)]
    rfl
  | succ rem ih =>
    intro i hi k hk
    obtain ⟨k, rfl⟩ : ∃ m, k = m + 1 := ⟨k - 1, by omega⟩
    simp only [quillpenlaw04_ScanEither.l0]
    rw [if_pos (by omega), if_pos (by omega), if_pos (by omega), if_pos (by omega), if_neg (by simp), show wrap64 ((i : Int) + 1) = (i : Int) + 1 from by unfold wrap64; omega]
    have := ih (i + 1) (by omega) k (by omega)
    rw [show ((i + 1 : Nat) : Int) = (i : Int) + 1 from by omega] at this
    exact this
theorem ScanEither : quillpenlaw04_ScanEither.Pure := by
  intro d q e s hd hq he hsz
  have hd := u8_bounds hd
  have hq := u8_bounds hq
  by_cases hn : (s.size : Int) > 300
  · refine ⟨17, ?_⟩
    unfold quillpenlaw04_ScanEither.f
    rw [if_pos hn]
    simp [quillpenlaw04_ScanEither.j0, awake_true]
  · refine ⟨2 * s.size + 60, ?_⟩
    unfold quillpenlaw04_ScanEither.f
    rw [if_neg hn]
    simp only [quillpenlaw01_Ref.f, Option.bind_some, wrap_small (show -9223372036854775808 ≤ d by omega) (by omega), wrap_small (show -9223372036854775808 ≤ q by omega) (by omega)]
    obtain ⟨r, hr⟩ := right_tells d q e
    rw [hr]
    simp only [Option.bind_some]
    obtain ⟨k, hk⟩ : ∃ k, 2 * s.size + 60 = k + 2 := ⟨_, rfl⟩
    rw [hk]
    simp only [quillpenlaw04_ScanEither.j0]
    cases r with
    | false => rw [if_pos (by simp), awake_more (by omega)]; rfl
    | true =>
      have hD := right_okD hr
      obtain ⟨evs, kind, at_, hlen, hr, hl⟩ := walks d q e hD s (by omega) s.size 0 0 (by omega) (by omega)
      rw [if_neg (by simp)]
      have h1 := hr [] rfl (k + 1) (by omega)
      rw [List.nil_append, show ((0 : Nat) : Int) = 0 from rfl] at h1
      unfold scan_Run.f
      rw [h1]
      simp only [Option.bind_some]
      by_cases hk0 : kind = 0
      · rw [if_pos hk0]
        have h2 := hl hk0 [] rfl (k + 1) (by omega)
        rw [List.nil_append, show ((0 : Nat) : Int) = 0 from rfl] at h2
        rw [h2]
        simp only [Option.bind_some]
        rw [if_neg (by simp)]
        simp only [quillpenlaw04_ScanEither.j1]
        rw [if_neg (by simp)]
        have := compares evs (by omega) evs.length 0 (by omega) k (by omega)
        rwa [show ((0 : Nat) : Int) = 0 from rfl] at this
      · rw [if_neg hk0, awake_more (by omega)]
        rfl
end Go.Proofs.Ytpejppnkdaiilaa.Pure
