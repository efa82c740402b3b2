/- ScanSteps, the plain law: what any byte comes to in any state, with any dialect, is what the document's table says. -/
import Derived.Test.YtpejppnkdaiilaaXScanStepsx9
import Derived.OpenShut
namespace Go.Proofs.Ytpejppnkdaiilaa.Pure
open Go.RowKit Go.Proofs.Ytpejppnkdaiilaa Go.Proofs.Ytpejppnkdaiilaa.XScanSteps Go.Proofs.YtpejppnkdaiilaaW.PrintWords Go.Proofs.YtpejppnkdaiilaaW.PrintLast
set_option linter.unusedVariables false
set_option linter.unusedSimpArgs false
/-- A truth as a number. -/
def one (b : Bool) : Int := if b then 1 else 0
/-- A dialect that may be, byte by byte. -/
def okD (d q e : Int) : Prop := 0 ≤ d ∧ d ≤ 127 ∧ d ≠ 10 ∧ d ≠ 13 ∧ 0 ≤ q ∧ q ≤ 127 ∧ q ≠ 10 ∧ q ≠ 13 ∧ d ≠ q ∧ (e = 1 ∨ e = 2 ∨ e = 3)
theorem right_okD {d q e : Int} (h : quillpenref01_Right.f d q e = some true) : okD d q e := by
  have h' := Option.some.inj h
  simp [Ext.okB] at h'
  unfold okD
  omega
theorem right_tells (d q e : Int) : ∃ r, quillpenref01_Right.f d q e = some r := ⟨_, rfl⟩
/-- What the program and the table say of one byte. -/
def Agrees (d q e s b : Int) : Prop := ∃ (x1 x2 x3 x4 x5 : Bool) (B nx er : Int), (∀ k, scan_Step.f (k + 6) d q e s b = some (x1, x2, x3, x4, x5, B, nx, er)) ∧ quillpenref04_Step.f d q e s b = some (one x1, one x2, one x3, one x4, one x5, B, nx, er) ∧ (er = 0 → 0 ≤ nx ∧ nx ≤ 6) ∧ 0 ≤ B ∧ B ≤ 255
set_option maxHeartbeats 2000000 in
theorem agrees0 (d q e b : Int) (h : okD d q e) (hb : 0 ≤ b ∧ b ≤ 255) : Agrees d q e 0 b := by
  obtain ⟨d1, d2, d3, d4, q1, q2, q3, q4, hdq, he⟩ := h
  by_cases c0 : b = q
  · subst c0
    have f1 := Ne.symm hdq
    exact ⟨true, false, false, false, false, 0, 3, 0, fun k => by simp [scan_Step.f, scan_Step.j0, scan_Step.j1, scan_Step.j2, scan_Step.j3, scan_ends.f, scan_ends.j0, scan_pending.f, *], by simp [quillpenref04_Step.f, Ext.quillpenref04_Step.f, Ext.quillpenref04_column.f, Ext.quillpenref04_Step.tab, one, *], by omega, by omega, by omega⟩
  by_cases c1 : b = d
  · subst c1
    exact ⟨true, false, true, false, false, 0, 1, 0, fun k => by simp [scan_Step.f, scan_Step.j0, scan_Step.j1, scan_Step.j2, scan_Step.j3, scan_ends.f, scan_ends.j0, scan_pending.f, *], by simp [quillpenref04_Step.f, Ext.quillpenref04_Step.f, Ext.quillpenref04_column.f, Ext.quillpenref04_Step.tab, one, *], by omega, by omega, by omega⟩
  by_cases c2 : b = 13
  · subst c2
    have f1 : ¬ 13 = d := by omega
    have f2 : ¬ 13 = q := by omega
    by_cases e1 : e = 1
    · subst e1
      exact ⟨false, false, false, false, false, 0, 0, 6, fun k => by simp [scan_Step.f, scan_Step.j0, scan_Step.j1, scan_Step.j2, scan_Step.j3, scan_ends.f, scan_ends.j0, scan_pending.f, f1, f2], by simp [quillpenref04_Step.f, Ext.quillpenref04_Step.f, Ext.quillpenref04_column.f, Ext.quillpenref04_Step.tab, one, f1, f2], by omega, by omega, by omega⟩
    · exact ⟨false, false, false, false, false, 0, 6, 0, fun k => by simp [scan_Step.f, scan_Step.j0, scan_Step.j1, scan_Step.j2, scan_Step.j3, scan_ends.f, scan_ends.j0, scan_pending.f, f1, f2, e1], by simp [quillpenref04_Step.f, Ext.quillpenref04_Step.f, Ext.quillpenref04_column.f, Ext.quillpenref04_Step.tab, one, f1, f2, e1], by omega, by omega, by omega⟩
  by_cases c3 : b = 10
  · subst c3
    have f1 : ¬ 10 = d := by omega
    have f2 : ¬ 10 = q := by omega
    by_cases e1 : e = 2
    · subst e1
      exact ⟨false, false, false, false, false, 0, 0, 6, fun k => by simp [scan_Step.f, scan_Step.j0, scan_Step.j1, scan_Step.j2, scan_Step.j3, scan_ends.f, scan_ends.j0, scan_pending.f, f1, f2], by simp [quillpenref04_Step.f, Ext.quillpenref04_Step.f, Ext.quillpenref04_column.f, Ext.quillpenref04_Step.tab, one, f1, f2], by omega, by omega, by omega⟩
    · exact ⟨false, false, false, false, false, 0, 0, 0, fun k => by simp [scan_Step.f, scan_Step.j0, scan_Step.j1, scan_Step.j2, scan_Step.j3, scan_ends.f, scan_ends.j0, scan_pending.f, f1, f2, e1], by simp [quillpenref04_Step.f, Ext.quillpenref04_Step.f, Ext.quillpenref04_column.f, Ext.quillpenref04_Step.tab, one, f1, f2, e1], by omega, by omega, by omega⟩
  exact ⟨true, true, false, false, false, b, 2, 0, fun k => by simp [scan_Step.f, scan_Step.j0, scan_Step.j1, scan_Step.j2, scan_Step.j3, scan_ends.f, scan_ends.j0, scan_pending.f, c0, c1, c2, c3], by simp [quillpenref04_Step.f, Ext.quillpenref04_Step.f, Ext.quillpenref04_column.f, Ext.quillpenref04_Step.tab, one, c0, c1, c2, c3], by omega, by omega, by omega⟩
set_option maxHeartbeats 2000000 in
theorem agrees1 (d q e b : Int) (h : okD d q e) (hb : 0 ≤ b ∧ b ≤ 255) : Agrees d q e 1 b := by
  obtain ⟨d1, d2, d3, d4, q1, q2, q3, q4, hdq, he⟩ := h
  by_cases c0 : b = q
  · subst c0
    have f1 := Ne.symm hdq
    exact ⟨false, false, false, false, false, 0, 3, 0, fun k => by simp [scan_Step.f, scan_Step.j0, scan_Step.j1, scan_Step.j2, scan_Step.j3, scan_ends.f, scan_ends.j0, scan_pending.f, *], by simp [quillpenref04_Step.f, Ext.quillpenref04_Step.f, Ext.quillpenref04_column.f, Ext.quillpenref04_Step.tab, one, *], by omega, by omega, by omega⟩
  by_cases c1 : b = d
  · subst c1
    exact ⟨false, false, true, false, false, 0, 1, 0, fun k => by simp [scan_Step.f, scan_Step.j0, scan_Step.j1, scan_Step.j2, scan_Step.j3, scan_ends.f, scan_ends.j0, scan_pending.f, *], by simp [quillpenref04_Step.f, Ext.quillpenref04_Step.f, Ext.quillpenref04_column.f, Ext.quillpenref04_Step.tab, one, *], by omega, by omega, by omega⟩
  by_cases c2 : b = 13
  · subst c2
    have f1 : ¬ 13 = d := by omega
    have f2 : ¬ 13 = q := by omega
    by_cases e1 : e = 1
    · subst e1
      exact ⟨false, false, false, false, false, 0, 0, 6, fun k => by simp [scan_Step.f, scan_Step.j0, scan_Step.j1, scan_Step.j2, scan_Step.j3, scan_ends.f, scan_ends.j0, scan_pending.f, f1, f2], by simp [quillpenref04_Step.f, Ext.quillpenref04_Step.f, Ext.quillpenref04_column.f, Ext.quillpenref04_Step.tab, one, f1, f2], by omega, by omega, by omega⟩
    · exact ⟨false, false, false, true, false, 0, 5, 0, fun k => by simp [scan_Step.f, scan_Step.j0, scan_Step.j1, scan_Step.j2, scan_Step.j3, scan_ends.f, scan_ends.j0, scan_pending.f, f1, f2, e1], by simp [quillpenref04_Step.f, Ext.quillpenref04_Step.f, Ext.quillpenref04_column.f, Ext.quillpenref04_Step.tab, one, f1, f2, e1], by omega, by omega, by omega⟩
  by_cases c3 : b = 10
  · subst c3
    have f1 : ¬ 10 = d := by omega
    have f2 : ¬ 10 = q := by omega
    by_cases e1 : e = 2
    · subst e1
      exact ⟨false, false, false, false, false, 0, 0, 6, fun k => by simp [scan_Step.f, scan_Step.j0, scan_Step.j1, scan_Step.j2, scan_Step.j3, scan_ends.f, scan_ends.j0, scan_pending.f, f1, f2], by simp [quillpenref04_Step.f, Ext.quillpenref04_Step.f, Ext.quillpenref04_column.f, Ext.quillpenref04_Step.tab, one, f1, f2], by omega, by omega, by omega⟩
    · exact ⟨false, false, false, true, true, 0, 0, 0, fun k => by simp [scan_Step.f, scan_Step.j0, scan_Step.j1, scan_Step.j2, scan_Step.j3, scan_ends.f, scan_ends.j0, scan_pending.f, f1, f2, e1], by simp [quillpenref04_Step.f, Ext.quillpenref04_Step.f, Ext.quillpenref04_column.f, Ext.quillpenref04_Step.tab, one, f1, f2, e1], by omega, by omega, by omega⟩
  exact ⟨false, true, false, false, false, b, 2, 0, fun k => by simp [scan_Step.f, scan_Step.j0, scan_Step.j1, scan_Step.j2, scan_Step.j3, scan_ends.f, scan_ends.j0, scan_pending.f, c0, c1, c2, c3], by simp [quillpenref04_Step.f, Ext.quillpenref04_Step.f, Ext.quillpenref04_column.f, Ext.quillpenref04_Step.tab, one, c0, c1, c2, c3], by omega, by omega, by omega⟩
set_option maxHeartbeats 2000000 in
theorem agrees2 (d q e b : Int) (h : okD d q e) (hb : 0 ≤ b ∧ b ≤ 255) : Agrees d q e 2 b := by
  obtain ⟨d1, d2, d3, d4, q1, q2, q3, q4, hdq, he⟩ := h
  by_cases c0 : b = q
  · subst c0
    have f1 := Ne.symm hdq
    exact ⟨false, false, false, false, false, 0, 0, 4, fun k => by simp [scan_Step.f, scan_Step.j0, scan_Step.j1, scan_Step.j2, scan_Step.j3, scan_ends.f, scan_ends.j0, scan_pending.f, *], by simp [quillpenref04_Step.f, Ext.quillpenref04_Step.f, Ext.quillpenref04_column.f, Ext.quillpenref04_Step.tab, one, *], by omega, by omega, by omega⟩
  by_cases c1 : b = d
  · subst c1
    exact ⟨false, false, true, false, false, 0, 1, 0, fun k => by simp [scan_Step.f, scan_Step.j0, scan_Step.j1, scan_Step.j2, scan_Step.j3, scan_ends.f, scan_ends.j0, scan_pending.f, *], by simp [quillpenref04_Step.f, Ext.quillpenref04_Step.f, Ext.quillpenref04_column.f, Ext.quillpenref04_Step.tab, one, *], by omega, by omega, by omega⟩
  by_cases c2 : b = 13
  · subst c2
    have f1 : ¬ 13 = d := by omega
    have f2 : ¬ 13 = q := by omega
    by_cases e1 : e = 1
    · subst e1
      exact ⟨false, false, false, false, false, 0, 0, 6, fun k => by simp [scan_Step.f, scan_Step.j0, scan_Step.j1, scan_Step.j2, scan_Step.j3, scan_ends.f, scan_ends.j0, scan_pending.f, f1, f2], by simp [quillpenref04_Step.f, Ext.quillpenref04_Step.f, Ext.quillpenref04_column.f, Ext.quillpenref04_Step.tab, one, f1, f2], by omega, by omega, by omega⟩
    · exact ⟨false, false, false, true, false, 0, 5, 0, fun k => by simp [scan_Step.f, scan_Step.j0, scan_Step.j1, scan_Step.j2, scan_Step.j3, scan_ends.f, scan_ends.j0, scan_pending.f, f1, f2, e1], by simp [quillpenref04_Step.f, Ext.quillpenref04_Step.f, Ext.quillpenref04_column.f, Ext.quillpenref04_Step.tab, one, f1, f2, e1], by omega, by omega, by omega⟩
  by_cases c3 : b = 10
  · subst c3
    have f1 : ¬ 10 = d := by omega
    have f2 : ¬ 10 = q := by omega
    by_cases e1 : e = 2
    · subst e1
      exact ⟨false, false, false, false, false, 0, 0, 6, fun k => by simp [scan_Step.f, scan_Step.j0, scan_Step.j1, scan_Step.j2, scan_Step.j3, scan_ends.f, scan_ends.j0, scan_pending.f, f1, f2], by simp [quillpenref04_Step.f, Ext.quillpenref04_Step.f, Ext.quillpenref04_column.f, Ext.quillpenref04_Step.tab, one, f1, f2], by omega, by omega, by omega⟩
    · exact ⟨false, false, false, true, true, 0, 0, 0, fun k => by simp [scan_Step.f, scan_Step.j0, scan_Step.j1, scan_Step.j2, scan_Step.j3, scan_ends.f, scan_ends.j0, scan_pending.f, f1, f2, e1], by simp [quillpenref04_Step.f, Ext.quillpenref04_Step.f, Ext.quillpenref04_column.f, Ext.quillpenref04_Step.tab, one, f1, f2, e1], by omega, by omega, by omega⟩
  exact ⟨false, true, false, false, false, b, 2, 0, fun k => by simp [scan_Step.f, scan_Step.j0, scan_Step.j1, scan_Step.j2, scan_Step.j3, scan_ends.f, scan_ends.j0, scan_pending.f, c0, c1, c2, c3], by simp [quillpenref04_Step.f, Ext.quillpenref04_Step.f, Ext.quillpenref04_column.f, Ext.quillpenref04_Step.tab, one, c0, c1, c2, c3], by omega, by omega, by omega⟩
set_option maxHeartbeats 2000000 in
theorem agrees3 (d q e b : Int) (h : okD d q e) (hb : 0 ≤ b ∧ b ≤ 255) : Agrees d q e 3 b := by
  obtain ⟨d1, d2, d3, d4, q1, q2, q3, q4, hdq, he⟩ := h
  by_cases c0 : b = q
  · subst c0
    have f1 := Ne.symm hdq
    exact ⟨false, false, false, false, false, 0, 4, 0, fun k => by simp [scan_Step.f, scan_Step.j0, scan_Step.j1, scan_Step.j2, scan_Step.j3, scan_ends.f, scan_ends.j0, scan_pending.f, *], by simp [quillpenref04_Step.f, Ext.quillpenref04_Step.f, Ext.quillpenref04_column.f, Ext.quillpenref04_Step.tab, one, *], by omega, by omega, by omega⟩
  by_cases c1 : b = d
  · subst c1
    exact ⟨false, true, false, false, false, b, 3, 0, fun k => by simp [scan_Step.f, scan_Step.j0, scan_Step.j1, scan_Step.j2, scan_Step.j3, scan_ends.f, scan_ends.j0, scan_pending.f, *], by simp [quillpenref04_Step.f, Ext.quillpenref04_Step.f, Ext.quillpenref04_column.f, Ext.quillpenref04_Step.tab, one, *], by omega, by omega, by omega⟩
  by_cases c2 : b = 13
  · subst c2
    have f1 : ¬ 13 = d := by omega
    have f2 : ¬ 13 = q := by omega
    exact ⟨false, true, false, false, false, 13, 3, 0, fun k => by simp [scan_Step.f, scan_Step.j0, scan_Step.j1, scan_Step.j2, scan_Step.j3, scan_ends.f, scan_ends.j0, scan_pending.f, f1, f2], by simp [quillpenref04_Step.f, Ext.quillpenref04_Step.f, Ext.quillpenref04_column.f, Ext.quillpenref04_Step.tab, one, f1, f2], by omega, by omega, by omega⟩
  by_cases c3 : b = 10
  · subst c3
    have f1 : ¬ 10 = d := by omega
    have f2 : ¬ 10 = q := by omega
    exact ⟨false, true, false, false, false, 10, 3, 0, fun k => by simp [scan_Step.f, scan_Step.j0, scan_Step.j1, scan_Step.j2, scan_Step.j3, scan_ends.f, scan_ends.j0, scan_pending.f, f1, f2], by simp [quillpenref04_Step.f, Ext.quillpenref04_Step.f, Ext.quillpenref04_column.f, Ext.quillpenref04_Step.tab, one, f1, f2], by omega, by omega, by omega⟩
  exact ⟨false, true, false, false, false, b, 3, 0, fun k => by simp [scan_Step.f, scan_Step.j0, scan_Step.j1, scan_Step.j2, scan_Step.j3, scan_ends.f, scan_ends.j0, scan_pending.f, c0, c1, c2, c3], by simp [quillpenref04_Step.f, Ext.quillpenref04_Step.f, Ext.quillpenref04_column.f, Ext.quillpenref04_Step.tab, one, c0, c1, c2, c3], by omega, by omega, by omega⟩
set_option maxHeartbeats 2000000 in
theorem agrees4 (d q e b : Int) (h : okD d q e) (hb : 0 ≤ b ∧ b ≤ 255) : Agrees d q e 4 b := by
  obtain ⟨d1, d2, d3, d4, q1, q2, q3, q4, hdq, he⟩ := h
  by_cases c0 : b = q
  · subst c0
    have f1 := Ne.symm hdq
    exact ⟨false, true, false, false, false, b, 3, 0, fun k => by simp [scan_Step.f, scan_Step.j0, scan_Step.j1, scan_Step.j2, scan_Step.j3, scan_ends.f, scan_ends.j0, scan_pending.f, *], by simp [quillpenref04_Step.f, Ext.quillpenref04_Step.f, Ext.quillpenref04_column.f, Ext.quillpenref04_Step.tab, one, *], by omega, by omega, by omega⟩
  by_cases c1 : b = d
  · subst c1
    exact ⟨false, false, true, false, false, 0, 1, 0, fun k => by simp [scan_Step.f, scan_Step.j0, scan_Step.j1, scan_Step.j2, scan_Step.j3, scan_ends.f, scan_ends.j0, scan_pending.f, *], by simp [quillpenref04_Step.f, Ext.quillpenref04_Step.f, Ext.quillpenref04_column.f, Ext.quillpenref04_Step.tab, one, *], by omega, by omega, by omega⟩
  by_cases c2 : b = 13
  · subst c2
    have f1 : ¬ 13 = d := by omega
    have f2 : ¬ 13 = q := by omega
    by_cases e1 : e = 1
    · subst e1
      exact ⟨false, false, false, false, false, 0, 0, 6, fun k => by simp [scan_Step.f, scan_Step.j0, scan_Step.j1, scan_Step.j2, scan_Step.j3, scan_ends.f, scan_ends.j0, scan_pending.f, f1, f2], by simp [quillpenref04_Step.f, Ext.quillpenref04_Step.f, Ext.quillpenref04_column.f, Ext.quillpenref04_Step.tab, one, f1, f2], by omega, by omega, by omega⟩
    · exact ⟨false, false, false, true, false, 0, 5, 0, fun k => by simp [scan_Step.f, scan_Step.j0, scan_Step.j1, scan_Step.j2, scan_Step.j3, scan_ends.f, scan_ends.j0, scan_pending.f, f1, f2, e1], by simp [quillpenref04_Step.f, Ext.quillpenref04_Step.f, Ext.quillpenref04_column.f, Ext.quillpenref04_Step.tab, one, f1, f2, e1], by omega, by omega, by omega⟩
  by_cases c3 : b = 10
  · subst c3
    have f1 : ¬ 10 = d := by omega
    have f2 : ¬ 10 = q := by omega
    by_cases e1 : e = 2
    · subst e1
      exact ⟨false, false, false, false, false, 0, 0, 6, fun k => by simp [scan_Step.f, scan_Step.j0, scan_Step.j1, scan_Step.j2, scan_Step.j3, scan_ends.f, scan_ends.j0, scan_pending.f, f1, f2], by simp [quillpenref04_Step.f, Ext.quillpenref04_Step.f, Ext.quillpenref04_column.f, Ext.quillpenref04_Step.tab, one, f1, f2], by omega, by omega, by omega⟩
    · exact ⟨false, false, false, true, true, 0, 0, 0, fun k => by simp [scan_Step.f, scan_Step.j0, scan_Step.j1, scan_Step.j2, scan_Step.j3, scan_ends.f, scan_ends.j0, scan_pending.f, f1, f2, e1], by simp [quillpenref04_Step.f, Ext.quillpenref04_Step.f, Ext.quillpenref04_column.f, Ext.quillpenref04_Step.tab, one, f1, f2, e1], by omega, by omega, by omega⟩
  exact ⟨false, false, false, false, false, 0, 0, 5, fun k => by simp [scan_Step.f, scan_Step.j0, scan_Step.j1, scan_Step.j2, scan_Step.j3, scan_ends.f, scan_ends.j0, scan_pending.f, c0, c1, c2, c3], by simp [quillpenref04_Step.f, Ext.quillpenref04_Step.f, Ext.quillpenref04_column.f, Ext.quillpenref04_Step.tab, one, c0, c1, c2, c3], by omega, by omega, by omega⟩
set_option maxHeartbeats 2000000 in
theorem agrees5 (d q e b : Int) (h : okD d q e) (hb : 0 ≤ b ∧ b ≤ 255) : Agrees d q e 5 b := by
  obtain ⟨d1, d2, d3, d4, q1, q2, q3, q4, hdq, he⟩ := h
  by_cases c0 : b = q
  · subst c0
    have f1 := Ne.symm hdq
    exact ⟨false, false, false, false, false, 0, 0, 6, fun k => by simp [scan_Step.f, scan_Step.j0, scan_Step.j1, scan_Step.j2, scan_Step.j3, scan_ends.f, scan_ends.j0, scan_pending.f, *], by simp [quillpenref04_Step.f, Ext.quillpenref04_Step.f, Ext.quillpenref04_column.f, Ext.quillpenref04_Step.tab, one, *], by omega, by omega, by omega⟩
  by_cases c1 : b = d
  · subst c1
    exact ⟨false, false, false, false, false, 0, 0, 6, fun k => by simp [scan_Step.f, scan_Step.j0, scan_Step.j1, scan_Step.j2, scan_Step.j3, scan_ends.f, scan_ends.j0, scan_pending.f, *], by simp [quillpenref04_Step.f, Ext.quillpenref04_Step.f, Ext.quillpenref04_column.f, Ext.quillpenref04_Step.tab, one, *], by omega, by omega, by omega⟩
  by_cases c2 : b = 13
  · subst c2
    have f1 : ¬ 13 = d := by omega
    have f2 : ¬ 13 = q := by omega
    exact ⟨false, false, false, false, false, 0, 0, 6, fun k => by simp [scan_Step.f, scan_Step.j0, scan_Step.j1, scan_Step.j2, scan_Step.j3, scan_ends.f, scan_ends.j0, scan_pending.f, f1, f2], by simp [quillpenref04_Step.f, Ext.quillpenref04_Step.f, Ext.quillpenref04_column.f, Ext.quillpenref04_Step.tab, one, f1, f2], by omega, by omega, by omega⟩
  by_cases c3 : b = 10
  · subst c3
    have f1 : ¬ 10 = d := by omega
    have f2 : ¬ 10 = q := by omega
    exact ⟨false, false, false, false, true, 0, 0, 0, fun k => by simp [scan_Step.f, scan_Step.j0, scan_Step.j1, scan_Step.j2, scan_Step.j3, scan_ends.f, scan_ends.j0, scan_pending.f, f1, f2], by simp [quillpenref04_Step.f, Ext.quillpenref04_Step.f, Ext.quillpenref04_column.f, Ext.quillpenref04_Step.tab, one, f1, f2], by omega, by omega, by omega⟩
  exact ⟨false, false, false, false, false, 0, 0, 6, fun k => by simp [scan_Step.f, scan_Step.j0, scan_Step.j1, scan_Step.j2, scan_Step.j3, scan_ends.f, scan_ends.j0, scan_pending.f, c0, c1, c2, c3], by simp [quillpenref04_Step.f, Ext.quillpenref04_Step.f, Ext.quillpenref04_column.f, Ext.quillpenref04_Step.tab, one, c0, c1, c2, c3], by omega, by omega, by omega⟩
set_option maxHeartbeats 2000000 in
theorem agrees6 (d q e b : Int) (h : okD d q e) (hb : 0 ≤ b ∧ b ≤ 255) : Agrees d q e 6 b := by
  obtain ⟨d1, d2, d3, d4, q1, q2, q3, q4, hdq, he⟩ := h
  by_cases c0 : b = q
  · subst c0
    have f1 := Ne.symm hdq
    exact ⟨false, false, false, false, false, 0, 0, 6, fun k => by simp [scan_Step.f, scan_Step.j0, scan_Step.j1, scan_Step.j2, scan_Step.j3, scan_ends.f, scan_ends.j0, scan_pending.f, *], by simp [quillpenref04_Step.f, Ext.quillpenref04_Step.f, Ext.quillpenref04_column.f, Ext.quillpenref04_Step.tab, one, *], by omega, by omega, by omega⟩
  by_cases c1 : b = d
  · subst c1
    exact ⟨false, false, false, false, false, 0, 0, 6, fun k => by simp [scan_Step.f, scan_Step.j0, scan_Step.j1, scan_Step.j2, scan_Step.j3, scan_ends.f, scan_ends.j0, scan_pending.f, *], by simp [quillpenref04_Step.f, Ext.quillpenref04_Step.f, Ext.quillpenref04_column.f, Ext.quillpenref04_Step.tab, one, *], by omega, by omega, by omega⟩
  by_cases c2 : b = 13
  · subst c2
    have f1 : ¬ 13 = d := by omega
    have f2 : ¬ 13 = q := by omega
    exact ⟨false, false, false, false, false, 0, 0, 6, fun k => by simp [scan_Step.f, scan_Step.j0, scan_Step.j1, scan_Step.j2, scan_Step.j3, scan_ends.f, scan_ends.j0, scan_pending.f, f1, f2], by simp [quillpenref04_Step.f, Ext.quillpenref04_Step.f, Ext.quillpenref04_column.f, Ext.quillpenref04_Step.tab, one, f1, f2], by omega, by omega, by omega⟩
  by_cases c3 : b = 10
  · subst c3
    have f1 : ¬ 10 = d := by omega
    have f2 : ¬ 10 = q := by omega
    exact ⟨false, false, false, false, false, 0, 0, 0, fun k => by simp [scan_Step.f, scan_Step.j0, scan_Step.j1, scan_Step.j2, scan_Step.j3, scan_ends.f, scan_ends.j0, scan_pending.f, f1, f2], by simp [quillpenref04_Step.f, Ext.quillpenref04_Step.f, Ext.quillpenref04_column.f, Ext.quillpenref04_Step.tab, one, f1, f2], by omega, by omega, by omega⟩
  exact ⟨false, false, false, false, false, 0, 0, 6, fun k => by simp [scan_Step.f, scan_Step.j0, scan_Step.j1, scan_Step.j2, scan_Step.j3, scan_ends.f, scan_ends.j0, scan_pending.f, c0, c1, c2, c3], by simp [quillpenref04_Step.f, Ext.quillpenref04_Step.f, Ext.quillpenref04_column.f, Ext.quillpenref04_Step.tab, one, c0, c1, c2, c3], by omega, by omega, by omega⟩
theorem agrees (d q e s b : Int) (h : okD d q e) (hb : 0 ≤ b ∧ b ≤ 255) (hs : 0 ≤ s ∧ s ≤ 6) : Agrees d q e s b := by
  have : s = 0 ∨ s = 1 ∨ s = 2 ∨ s = 3 ∨ s = 4 ∨ s = 5 ∨ s = 6 := by omega
  rcases this with rfl | rfl | rfl | rfl | rfl | rfl | rfl
  · exact agrees0 d q e b h hb
  · exact agrees1 d q e b h hb
  · exact agrees2 d q e b h hb
  · exact agrees3 d q e b h hb
  · exact agrees4 d q e b h hb
  · exact agrees5 d q e b h hb
  · exact agrees6 d q e b h hb
theorem u8_bounds {x : Int} (h : (Lit.int .u8 x).wf = true) : 0 ≤ x ∧ x ≤ 255 := bounds_u8 h
theorem wrap_small {x : Int} (h0 : -9223372036854775808 ≤ x) (h1 : x ≤ 9223372036854775807) : wrap64 x = x := by unfold wrap64; omega
theorem awake_true : quillpenlaw04_awake.f 16 = some true := by decide +kernel
theorem awake_more {k : Nat} (h : 16 ≤ k) : quillpenlaw04_awake.f k = some true := at_rounds quillpenlaw04_awake.mono h awake_true
theorem ScanSteps : quillpenlaw04_ScanSteps.Pure := by
  intro d q e s b hd hq he hs hb
  have hd := u8_bounds hd
  have hq := u8_bounds hq
  have hs := u8_bounds hs
  have hb := u8_bounds hb
  refine ⟨16, ?_⟩
  unfold quillpenlaw04_ScanSteps.f
  simp only [quillpenlaw01_Ref.f, Option.bind_some, wrap_small (show -9223372036854775808 ≤ d by omega) (by omega), wrap_small (show -9223372036854775808 ≤ q by omega) (by omega), wrap_small (show -9223372036854775808 ≤ s by omega) (by omega), wrap_small (show -9223372036854775808 ≤ b by omega) (by omega)]
  obtain ⟨r, hr⟩ := right_tells d q e
  rw [hr]
  simp only [Option.bind_some]
  cases r with
  | false => simp [awake_true]
  | true =>
    have hD := right_okD hr
    have hs' : 0 ≤ Int.tmod s 7 ∧ Int.tmod s 7 ≤ 6 := by rw [Int.tmod_eq_emod_of_nonneg hs.1]; omega
    generalize Int.tmod s 7 = t at hs' ⊢
    obtain ⟨x1, x2, x3, x4, x5, B, nx, er, h1, h2, _, hB0, hB1⟩ := agrees d q e t b hD hb hs'
    rw [show scan_Step.f 16 d q e t b = _ from h1 10, h2]
    have hW := wrap_small (show -9223372036854775808 ≤ B by omega) (by omega)
    cases x1 <;> cases x2 <;> cases x3 <;> cases x4 <;> cases x5 <;> simp [quillpenlaw04_Ref.f, quillpenlaw04_one.f, one, awake_true, hW]
end Go.Proofs.Ytpejppnkdaiilaa.Pure
