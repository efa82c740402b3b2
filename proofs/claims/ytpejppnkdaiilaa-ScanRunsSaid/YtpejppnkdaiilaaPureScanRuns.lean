/- ScanRuns, the plain law: what all bytes of any text come to, one by one, and where an error is, is what the document says; up to 300 bytes. -/
import Derived.Test.YtpejppnkdaiilaaXScanRunsx9
import Derived.OpenShut
namespace Go.Proofs.Ytpejppnkdaiilaa.Pure
open Go.RowKit Go.Proofs.Ytpejppnkdaiilaa Go.Proofs.Ytpejppnkdaiilaa.XScanRuns Go.Proofs.YtpejppnkdaiilaaW.PrintWords Go.Proofs.YtpejppnkdaiilaaW.PrintLast
set_option linter.unusedVariables false
set_option linter.unusedSimpArgs false
/-- A truth as a number. -/
def one (b : Bool) : Int := if b then 1 else 0
/-- A dialect that may be, byte by byte. -/
def okD (d q e : Int) : Prop := 0 ≤ d ∧ d ≤ 127 ∧ d ≠ 10 ∧ d ≠ 13 ∧ 0 ≤ q ∧ q ≤ 127 ∧ q ≠ 10 ∧ q ≠ 13 ∧ d ≠ q ∧ (e = 1 ∨ e = 2 ∨ e = 3)
theorem right_okD {d q e : Int} (h : quillpenref01_Right.f d q e = some true) : okD d q e := by
  have h' := Option.some.inj h
  simp [Ext.okB] at h'
  unfold okD
  omega
theorem right_tells (d q e : Int) : ∃ r, quillpenref01_Right.f d q e = some r := ⟨_, rfl⟩
/-- What the program and the table say of one byte. -/
def Agrees (d q e s b : Int) : Prop := ∃ (x1 x2 x3 x4 x5 : Bool) (B nx er : Int), (∀ k, scan_Step.f (k + 6) d q e s b = some (x1, x2, x3, x4, x5, B, nx, er)) ∧ quillpenref04_Step.f d q e s b = some (one x1, one x2, one x3, one x4, one x5, B, nx, er) ∧ (er = 0 → 0 ≤ nx ∧ nx ≤ 6) ∧ 0 ≤ B ∧ B ≤ 255
set_option maxHeartbeats 2000000 in
theorem agrees0 (d q e b : Int) (h : okD d q e) (hb : 0 ≤ b ∧ b ≤ 255) : Agrees d q e 0 b := by
  obtain ⟨d1, d2, d3, d4, q1, q2, q3, q4, hdq, he⟩ := h
  by_cases c0 : b = q
  · subst c0
    have f1 := Ne.symm hdq
    exact ⟨true, false, false, false, false, 0, 3, 0, fun k => by simp [scan_Step.f, scan_Step.j0, scan_Step.j1, scan_Step.j2, scan_Step.j3, scan_ends.f, scan_ends.j0, scan_pending.f, *], by simp [quillpenref04_Step.f, Ext.quillpenref04_Step.f, Ext.quillpenref04_column.f, Ext.quillpenref04_Step.tab, one, *], by omega, by omega, by omega⟩
  by_cases c1 : b = d
  · subst c1
    exact ⟨true, false, true, false, false, 0, 1, 0, fun k => by simp [scan_Step.f, scan_Step.j0, scan_Step.j1, scan_Step.j2, scan_Step.j3, scan_ends.f, scan_ends.j0, scan_pending.f, *], by simp [quillpenref04_Step.f, Ext.quillpenref04_Step.f, Ext.quillpenref04_column.f, Ext.quillpenref04_Step.tab, one, *], by omega, by omega, by omega⟩
  by_cases c2 : b = 13
  · subst c2
    have f1 : ¬ 13 = d := by omega
    have f2 : ¬ 13 = q := by omega
    by_cases e1 : e = 1
    · subst e1
      exact ⟨false, false, false, false, false, 0, 0, 6, fun k => by simp [scan_Step.f, scan_Step.j0, scan_Step.j1, scan_Step.j2, scan_Step.j3, scan_ends.f, scan_ends.j0, scan_pending.f, f1, f2], by simp [quillpenref04_Step.f, Ext.quillpenref04_Step.f, Ext.quillpenref04_column.f, Ext.quillpenref04_Step.tab, one, f1, f2], by omega, by omega, by omega⟩
    · exact ⟨false, false, false, false, false, 0, 6, 0, fun k => by simp [scan_Step.f, scan_Step.j0, scan_Step.j1, scan_Step.j2, scan_Step.j3, scan_ends.f, scan_ends.j0, scan_pending.f, f1, f2, e1], by simp [quillpenref04_Step.f, Ext.quillpenref04_Step.f, Ext.quillpenref04_column.f, Ext.quillpenref04_Step.tab, one, f1, f2, e1], by omega, by omega, by omega⟩
  by_cases c3 : b = 10
  · subst c3
    have f1 : ¬ 10 = d := by omega
    have f2 : ¬ 10 = q := by omega
    by_cases e1 : e = 2
    · subst e1
      exact ⟨false, false, false, false, false, 0, 0, 6, fun k => by simp [scan_Step.f, scan_Step.j0, scan_Step.j1, scan_Step.j2, scan_Step.j3, scan_ends.f, scan_ends.j0, scan_pending.f, f1, f2], by simp [quillpenref04_Step.f, Ext.quillpenref04_Step.f, Ext.quillpenref04_column.f, Ext.quillpenref04_Step.tab, one, f1, f2], by omega, by omega, by omega⟩
    · exact ⟨false, false, false, false, false, 0, 0, 0, fun k => by simp [scan_Step.f, scan_Step.j0, scan_Step.j1, scan_Step.j2, scan_Step.j3, scan_ends.f, scan_ends.j0, scan_pending.f, f1, f2, e1], by simp [quillpenref04_Step.f, Ext.quillpenref04_Step.f, Ext.quillpenref04_column.f, Ext.quillpenref04_Step.tab, one, f1, f2, e1], by omega, by omega, by omega⟩
  exact ⟨true, true, false, false, false, b, 2, 0, fun k => by simp [scan_Step.f, scan_Step.j0, scan_Step.j1, scan_Step.j2, scan_Step.j3, scan_ends.f, scan_ends.j0, scan_pending.f, c0, c1, c2, c3], by simp [quillpenref04_Step.f, Ext.quillpenref04_Step.f, Ext.quillpenref04_column.f, Ext.quillpenref04_Step.tab, one, c0, c1, c2, c3], by omega, by omega, by omega⟩
set_option maxHeartbeats 2000000 in
theorem agrees1 (d q e b : Int) (h : okD d q e) (hb : 0 ≤ b ∧ b ≤ 255) : Agrees d q e 1 b := by
  obtain ⟨d1, d2, d3, d4, q1, q2, q3, q4, hdq, he⟩ := h
  by_cases c0 : b = q
  · subst c0
    have f1 := Ne.symm hdq
    exact ⟨false, false, false, false, false, 0, 3, 0, fun k => by simp [scan_Step.f, scan_Step.j0, scan_Step.j1, scan_Step.j2, scan_Step.j3, scan_ends.f, scan_ends.j0, scan_pending.f, *], by simp [quillpenref04_Step.f, Ext.quillpenref04_Step.f, Ext.quillpenref04_column.f, Ext.quillpenref04_Step.tab, one, *], by omega, by omega, by omega⟩
  by_cases c1 : b = d
  · subst c1
    exact ⟨false, false, true, false, false, 0, 1, 0, fun k => by simp [scan_Step.f, scan_Step.j0, scan_Step.j1, scan_Step.j2, scan_Step.j3, scan_ends.f, scan_ends.j0, scan_pending.f, *], by simp [quillpenref04_Step.f, Ext.quillpenref04_Step.f, Ext.quillpenref04_column.f, Ext.quillpenref04_Step.tab, one, *], by omega, by omega, by omega⟩
  by_cases c2 : b = 13
  · subst c2
    have f1 : ¬ 13 = d := by omega
    have f2 : ¬ 13 = q := by omega
    by_cases e1 : e = 1
    · subst e1
      exact ⟨false, false, false, false, false, 0, 0, 6, fun k => by simp [scan_Step.f, scan_Step.j0, scan_Step.j1, scan_Step.j2, scan_Step.j3, scan_ends.f, scan_ends.j0, scan_pending.f, f1, f2], by simp [quillpenref04_Step.f, Ext.quillpenref04_Step.f, Ext.quillpenref04_column.f, Ext.quillpenref04_Step.tab, one, f1, f2], by omega, by omega, by omega⟩
    · exact ⟨false, false, false, true, false, 0, 5, 0, fun k => by simp [scan_Step.f, scan_Step.j0, scan_Step.j1, scan_Step.j2, scan_Step.j3, scan_ends.f, scan_ends.j0, scan_pending.f, f1, f2, e1], by simp [quillpenref04_Step.f, Ext.quillpenref04_Step.f, Ext.quillpenref04_column.f, Ext.quillpenref04_Step.tab, one, f1, f2, e1], by omega, by omega, by omega⟩
  by_cases c3 : b = 10
  · subst c3
    have f1 : ¬ 10 = d := by omega
    have f2 : ¬ 10 = q := by omega
    by_cases e1 : e = 2
    · subst e1
      exact ⟨false, false, false, false, false, 0, 0, 6, fun k => by simp [scan_Step.f, scan_Step.j0, scan_Step.j1, scan_Step.j2, scan_Step.j3, scan_ends.f, scan_ends.j0, scan_pending.f, f1, f2], by simp [quillpenref04_Step.f, Ext.quillpenref04_Step.f, Ext.quillpenref04_column.f, Ext.quillpenref04_Step.tab, one, f1, f2], by omega, by omega, by omega⟩
    · exact ⟨false, false, false, true, true, 0, 0, 0, fun k => by simp [scan_Step.f, scan_Step.j0, scan_Step.j1, scan_Step.j2, scan_Step.j3, scan_ends.f, scan_ends.j0, scan_pending.f, f1, f2, e1], by simp [quillpenref04_Step.f, Ext.quillpenref04_Step.f, Ext.quillpenref04_column.f, Ext.quillpenref04_Step.tab, one, f1, f2, e1], by omega, by omega, by omega⟩
  exact ⟨false, true, false, false, false, b, 2, 0, fun k => by simp [scan_Step.f, scan_Step.j0, scan_Step.j1, scan_Step.j2, scan_Step.j3, scan_ends.f, scan_ends.j0, scan_pending.f, c0, c1, c2, c3], by simp [quillpenref04_Step.f, Ext.quillpenref04_Step.f, Ext.quillpenref04_column.f, Ext.quillpenref04_Step.tab, one, c0, c1, c2, c3], by omega, by omega, by omega⟩
set_option maxHeartbeats 2000000 in
theorem agrees2 (d q e b : Int) (h : okD d q e) (hb : 0 ≤ b ∧ b ≤ 255) : Agrees d q e 2 b := by
  obtain ⟨d1, d2, d3, d4, q1, q2, q3, q4, hdq, he⟩ := h
  by_cases c0 : b = q
  · subst c0
    have f1 := Ne.symm hdq
    exact ⟨false, false, false, false, false, 0, 0, 4, fun k => by simp [scan_Step.f, scan_Step.j0, scan_Step.j1, scan_Step.j2, scan_Step.j3, scan_ends.f, scan_ends.j0, scan_pending.f, *], by simp [quillpenref04_Step.f, Ext.quillpenref04_Step.f, Ext.quillpenref04_column.f, Ext.quillpenref04_Step.tab, one, *], by omega, by omega, by omega⟩
  by_cases c1 : b = d
  · subst c1
    exact ⟨false, false, true, false, false, 0, 1, 0, fun k => by simp [scan_Step.f, scan_Step.j0, scan_Step.j1, scan_Step.j2, scan_Step.j3, scan_ends.f, scan_ends.j0, scan_pending.f, *], by simp [quillpenref04_Step.f, Ext.quillpenref04_Step.f, Ext.quillpenref04_column.f, Ext.quillpenref04_Step.tab, one, *], by omega, by omega, by omega⟩
  by_cases c2 : b = 13
  · subst c2
    have f1 : ¬ 13 = d := by omega
    have f2 : ¬ 13 = q := by omega
    by_cases e1 : e = 1
    · subst e1
      exact ⟨false, false, false, false, false, 0, 0, 6, fun k => by simp [scan_Step.f, scan_Step.j0, scan_Step.j1, scan_Step.j2, scan_Step.j3, scan_ends.f, scan_ends.j0, scan_pending.f, f1, f2], by simp [quillpenref04_Step.f, Ext.quillpenref04_Step.f, Ext.quillpenref04_column.f, Ext.quillpenref04_Step.tab, one, f1, f2], by omega, by omega, by omega⟩
    · exact ⟨false, false, false, true, false, 0, 5, 0, fun k => by simp [scan_Step.f, scan_Step.j0, scan_Step.j1, scan_Step.j2, scan_Step.j3, scan_ends.f, scan_ends.j0, scan_pending.f, f1, f2, e1], by simp [quillpenref04_Step.f, Ext.quillpenref04_Step.f, Ext.quillpenref04_column.f, Ext.quillpenref04_Step.tab, one, f1, f2, e1], by omega, by omega, by omega⟩
  by_cases c3 : b = 10
  · subst c3
    have f1 : ¬ 10 = d := by omega
    have f2 : ¬ 10 = q := by omega
    by_cases e1 : e = 2
    · subst e1
      exact ⟨false, false, false, false, false, 0, 0, 6, fun k => by simp [scan_Step.f, scan_Step.j0, scan_Step.j1, scan_Step.j2, scan_Step.j3, scan_ends.f, scan_ends.j0, scan_pending.f, f1, f2], by simp [quillpenref04_Step.f, Ext.quillpenref04_Step.f, Ext.quillpenref04_column.f, Ext.quillpenref04_Step.tab, one, f1, f2], by omega, by omega, by omega⟩
    · exact ⟨false, false, false, true, true, 0, 0, 0, fun k => by simp [scan_Step.f, scan_Step.j0, scan_Step.j1, scan_Step.j2, scan_Step.j3, scan_ends.f, scan_ends.j0, scan_pending.f, f1, f2, e1], by simp [quillpenref04_Step.f, Ext.quillpenref04_Step.f, Ext.quillpenref04_column.f, Ext.quillpenref04_Step.tab, one, f1, f2, e1], by omega, by omega, by omega⟩
  exact ⟨false, true, false, false, false, b, 2, 0, fun k => by simp [scan_Step.f, scan_Step.j0, scan_Step.j1, scan_Step.j2, scan_Step.j3, scan_ends.f, scan_ends.j0, scan_pending.f, c0, c1, c2, c3], by simp [quillpenref04_Step.f, Ext.quillpenref04_Step.f, Ext.quillpenref04_column.f, Ext.quillpenref04_Step.tab, one, c0, c1, c2, c3], by omega, by omega, by omega⟩
set_option maxHeartbeats 2000000 in
theorem agrees3 (d q e b : Int) (h : okD d q e) (hb : 0 ≤ b ∧ b ≤ 255) : Agrees d q e 3 b := by
  obtain ⟨d1, d2, d3, d4, q1, q2, q3, q4, hdq, he⟩ := h
  by_cases c0 : b = q
  · subst c0
    have f1 := Ne.symm hdq
    exact ⟨false, false, false, false, false, 0, 4, 0, fun k => by simp [scan_Step.f, scan_Step.j0, scan_Step.j1, scan_Step.j2, scan_Step.j3, scan_ends.f, scan_ends.j0, scan_pending.f, *], by simp [quillpenref04_Step.f, Ext.quillpenref04_Step.f, Ext.quillpenref04_column.f, Ext.quillpenref04_Step.tab, one, *], by omega, by omega, by omega⟩
  by_cases c1 : b = d
  · subst c1
    exact ⟨false, true, false, false, false, b, 3, 0, fun k => by simp [scan_Step.f, scan_Step.j0, scan_Step.j1, scan_Step.j2, scan_Step.j3, scan_ends.f, scan_ends.j0, scan_pending.f, *], by simp [quillpenref04_Step.f, Ext.quillpenref04_Step.f, Ext.quillpenref04_column.f, Ext.quillpenref04_Step.tab, one, *], by omega, by omega, by omega⟩
  by_cases c2 : b = 13
  · subst c2
    have f1 : ¬ 13 = d := by omega
    have f2 : ¬ 13 = q := by omega
    exact ⟨false, true, false, false, false, 13, 3, 0, fun k => by simp [scan_Step.f, scan_Step.j0, scan_Step.j1, scan_Step.j2, scan_Step.j3, scan_ends.f, scan_ends.j0, scan_pending.f, f1, f2], by simp [quillpenref04_Step.f, Ext.quillpenref04_Step.f, Ext.quillpenref04_column.f, Ext.quillpenref04_Step.tab, one, f1, f2], by omega, by omega, by omega⟩
  by_cases c3 : b = 10
  · subst c3
    have f1 : ¬ 10 = d := by omega
    have f2 : ¬ 10 = q := by omega
    exact ⟨false, true, false, false, false, 10, 3, 0, fun k => by simp [scan_Step.f, scan_Step.j0, scan_Step.j1, scan_Step.j2, scan_Step.j3, scan_ends.f, scan_ends.j0, scan_pending.f, f1, f2], by simp [quillpenref04_Step.f, Ext.quillpenref04_Step.f, Ext.quillpenref04_column.f, Ext.quillpenref04_Step.tab, one, f1, f2], by omega, by omega, by omega⟩
  exact ⟨false, true, false, false, false, b, 3, 0, fun k => by simp [scan_Step.f, scan_Step.j0, scan_Step.j1, scan_Step.j2, scan_Step.j3, scan_ends.f, scan_ends.j0, scan_pending.f, c0, c1, c2, c3], by simp [quillpenref04_Step.f, Ext.quillpenref04_Step.f, Ext.quillpenref04_column.f, Ext.quillpenref04_Step.tab, one, c0, c1, c2, c3], by omega, by omega, by omega⟩
set_option maxHeartbeats 2000000 in
theorem agrees4 (d q e b : Int) (h : okD d q e) (hb : 0 ≤ b ∧ b ≤ 255) : Agrees d q e 4 b := by
  obtain ⟨d1, d2, d3, d4, q1, q2, q3, q4, hdq, he⟩ := h
  by_cases c0 : b = q
  · subst c0
    have f1 := Ne.symm hdq
    exact ⟨false, true, false, false, false, b, 3, 0, fun k => by simp [scan_Step.f, scan_Step.j0, scan_Step.j1, scan_Step.j2, scan_Step.j3, scan_ends.f, scan_ends.j0, scan_pending.f, *], by simp [quillpenref04_Step.f, Ext.quillpenref04_Step.f, Ext.quillpenref04_column.f, Ext.quillpenref04_Step.tab, one, *], by omega, by omega, by omega⟩
  by_cases c1 : b = d
  · subst c1
    exact ⟨false, false, true, false, false, 0, 1, 0, fun k => by simp [scan_Step.f, scan_Step.j0, scan_Step.j1, scan_Step.j2, scan_Step.j3, scan_ends.f, scan_ends.j0, scan_pending.f, *], by simp [quillpenref04_Step.f, Ext.quillpenref04_Step.f, Ext.quillpenref04_column.f, Ext.quillpenref04_Step.tab, one, *], by omega, by omega, by omega⟩
  by_cases c2 : b = 13
  · subst c2
    have f1 : ¬ 13 = d := by omega
    have f2 : ¬ 13 = q := by omega
    by_cases e1 : e = 1
    · subst e1
      exact ⟨false, false, false, false, false, 0, 0, 6, fun k => by simp [scan_Step.f, scan_Step.j0, scan_Step.j1, scan_Step.j2, scan_Step.j3, scan_ends.f, scan_ends.j0, scan_pending.f, f1, f2], by simp [quillpenref04_Step.f, Ext.quillpenref04_Step.f, Ext.quillpenref04_column.f, Ext.quillpenref04_Step.tab, one, f1, f2], by omega, by omega, by omega⟩
    · exact ⟨false, false, false, true, false, 0, 5, 0, fun k => by simp [scan_Step.f, scan_Step.j0, scan_Step.j1, scan_Step.j2, scan_Step.j3, scan_ends.f, scan_ends.j0, scan_pending.f, f1, f2, e1], by simp [quillpenref04_Step.f, Ext.quillpenref04_Step.f, Ext.quillpenref04_column.f, Ext.quillpenref04_Step.tab, one, f1, f2, e1], by omega, by omega, by omega⟩
  by_cases c3 : b = 10
  · subst c3
    have f1 : ¬ 10 = d := by omega
    have f2 : ¬ 10 = q := by omega
    by_cases e1 : e = 2
    · subst e1
      exact ⟨false, false, false, false, false, 0, 0, 6, fun k => by simp [scan_Step.f, scan_Step.j0, scan_Step.j1, scan_Step.j2, scan_Step.j3, scan_ends.f, scan_ends.j0, scan_pending.f, f1, f2], by simp [quillpenref04_Step.f, Ext.quillpenref04_Step.f, Ext.quillpenref04_column.f, Ext.quillpenref04_Step.tab, one, f1, f2], by omega, by omega, by omega⟩
    · exact ⟨false, false, false, true, true, 0, 0, 0, fun k => by simp [scan_Step.f, scan_Step.j0, scan_Step.j1, scan_Step.j2, scan_Step.j3, scan_ends.f, scan_ends.j0, scan_pending.f, f1, f2, e1], by simp [quillpenref04_Step.f, Ext.quillpenref04_Step.f, Ext.quillpenref04_column.f, Ext.quillpenref04_Step.tab, one, f1, f2, e1], by omega, by omega, by omega⟩
  exact ⟨false, false, false, false, false, 0, 0, 5, fun k => by simp [scan_Step.f, scan_Step.j0, scan_Step.j1, scan_Step.j2, scan_Step.j3, scan_ends.f, scan_ends.j0, scan_pending.f, c0, c1, c2, c3], by simp [quillpenref04_Step.f, Ext.quillpenref04_Step.f, Ext.quillpenref04_column.f, Ext.quillpenref04_Step.tab, one, c0, c1, c2, c3], by omega, by omega, by omega⟩
set_option maxHeartbeats 2000000 in
theorem agrees5 (d q e b : Int) (h : okD d q e) (hb : 0 ≤ b ∧ b ≤ 255) : Agrees d q e 5 b := by
  obtain ⟨d1, d2, d3, d4, q1, q2, q3, q4, hdq, he⟩ := h
  by_cases c0 : b = q
  · subst c0
    have f1 := Ne.symm hdq
    exact ⟨false, false, false, false, false, 0, 0, 6, fun k => by simp [scan_Step.f, scan_Step.j0, scan_Step.j1, scan_Step.j2, scan_Step.j3, scan_ends.f, scan_ends.j0, scan_pending.f, *], by simp [quillpenref04_Step.f, Ext.quillpenref04_Step.f, Ext.quillpenref04_column.f, Ext.quillpenref04_Step.tab, one, *], by omega, by omega, by omega⟩
  by_cases c1 : b = d
  · subst c1
    exact ⟨false, false, false, false, false, 0, 0, 6, fun k => by simp [scan_Step.f, scan_Step.j0, scan_Step.j1, scan_Step.j2, scan_Step.j3, scan_ends.f, scan_ends.j0, scan_pending.f, *], by simp [quillpenref04_Step.f, Ext.quillpenref04_Step.f, Ext.quillpenref04_column.f, Ext.quillpenref04_Step.tab, one, *], by omega, by omega, by omega⟩
  by_cases c2 : b = 13
  · subst c2
    have f1 : ¬ 13 = d := by omega
    have f2 : ¬ 13 = q := by omega
    exact ⟨false, false, false, false, false, 0, 0, 6, fun k => by simp [scan_Step.f, scan_Step.j0, scan_Step.j1, scan_Step.j2, scan_Step.j3, scan_ends.f, scan_ends.j0, scan_pending.f, f1, f2], by simp [quillpenref04_Step.f, Ext.quillpenref04_Step.f, Ext.quillpenref04_column.f, Ext.quillpenref04_Step.tab, one, f1, f2], by omega, by omega, by omega⟩
  by_cases c3 : b = 10
  · subst c3
    have f1 : ¬ 10 = d := by omega
    have f2 : ¬ 10 = q := by omega
    exact ⟨false, false, false, false, true, 0, 0, 0, fun k => by simp [scan_Step.f, scan_Step.j0, scan_Step.j1, scan_Step.j2, scan_Step.j3, scan_ends.f, scan_ends.j0, scan_pending.f, f1, f2], by simp [quillpenref04_Step.f, Ext.quillpenref04_Step.f, Ext.quillpenref04_column.f, Ext.quillpenref04_Step.tab, one, f1, f2], by omega, by omega, by omega⟩
  exact ⟨false, false, false, false, false, 0, 0, 6, fun k => by simp [scan_Step.f, scan_Step.j0, scan_Step.j1, scan_Step.j2, scan_Step.j3, scan_ends.f, scan_ends.j0, scan_pending.f, c0, c1, c2, c3], by simp [quillpenref04_Step.f, Ext.quillpenref04_Step.f, Ext.quillpenref04_column.f, Ext.quillpenref04_Step.tab, one, c0, c1, c2, c3], by omega, by omega, by omega⟩
set_option maxHeartbeats 2000000 in
theorem agrees6 (d q e b : Int) (h : okD d q e) (hb : 0 ≤ b ∧ b ≤ 255) : Agrees d q e 6 b := by
  obtain ⟨d1, d2, d3, d4, q1, q2, q3, q4, hdq, he⟩ := h
  by_cases c0 : b = q
  · subst c0
    have f1 := Ne.symm hdq
    exact ⟨false, false, false, false, false, 0, 0, 6, fun k => by simp [scan_Step.f, scan_Step.j0, scan_Step.j1, scan_Step.j2, scan_Step.j3, scan_ends.f, scan_ends.j0, scan_pending.f, *], by simp [quillpenref04_Step.f, Ext.quillpenref04_Step.f, Ext.quillpenref04_column.f, Ext.quillpenref04_Step.tab, one, *], by omega, by omega, by omega⟩
  by_cases c1 : b = d
  · subst c1
    exact ⟨false, false, false, false, false, 0, 0, 6, fun k => by simp [scan_Step.f, scan_Step.j0, scan_Step.j1, scan_Step.j2, scan_Step.j3, scan_ends.f, scan_ends.j0, scan_pending.f, *], by simp [quillpenref04_Step.f, Ext.quillpenref04_Step.f, Ext.quillpenref04_column.f, Ext.quillpenref04_Step.tab, one, *], by omega, by omega, by omega⟩
  by_cases c2 : b = 13
  · subst c2
    have f1 : ¬ 13 = d := by omega
    have f2 : ¬ 13 = q := by omega
    exact ⟨false, false, false, false, false, 0, 0, 6, fun k => by simp [scan_Step.f, scan_Step.j0, scan_Step.j1, scan_Step.j2, scan_Step.j3, scan_ends.f, scan_ends.j0, scan_pending.f, f1, f2], by simp [quillpenref04_Step.f, Ext.quillpenref04_Step.f, Ext.quillpenref04_column.f, Ext.quillpenref04_Step.tab, one, f1, f2], by omega, by omega, by omega⟩
  by_cases c3 : b = 10
  · subst c3
    have f1 : ¬ 10 = d := by omega
    have f2 : ¬ 10 = q := by omega
    exact ⟨false, false, false, false, false, 0, 0, 0, fun k => by simp [scan_Step.f, scan_Step.j0, scan_Step.j1, scan_Step.j2, scan_Step.j3, scan_ends.f, scan_ends.j0, scan_pending.f, f1, f2], by simp [quillpenref04_Step.f, Ext.quillpenref04_Step.f, Ext.quillpenref04_column.f, Ext.quillpenref04_Step.tab, one, f1, f2], by omega, by omega, by omega⟩
  exact ⟨false, false, false, false, false, 0, 0, 6, fun k => by simp [scan_Step.f, scan_Step.j0, scan_Step.j1, scan_Step.j2, scan_Step.j3, scan_ends.f, scan_ends.j0, scan_pending.f, c0, c1, c2, c3], by simp [quillpenref04_Step.f, Ext.quillpenref04_Step.f, Ext.quillpenref04_column.f, Ext.quillpenref04_Step.tab, one, c0, c1, c2, c3], by omega, by omega, by omega⟩
theorem agrees (d q e s b : Int) (h : okD d q e) (hb : 0 ≤ b ∧ b ≤ 255) (hs : 0 ≤ s ∧ s ≤ 6) : Agrees d q e s b := by
  have : s = 0 ∨ s = 1 ∨ s = 2 ∨ s = 3 ∨ s = 4 ∨ s = 5 ∨ s = 6 := by omega
  rcases this with rfl | rfl | rfl | rfl | rfl | rfl | rfl
  · exact agrees0 d q e b h hb
  · exact agrees1 d q e b h hb
  · exact agrees2 d q e b h hb
  · exact agrees3 d q e b h hb
  · exact agrees4 d q e b h hb
  · exact agrees5 d q e b h hb
  · exact agrees6 d q e b h hb
theorem u8_bounds {x : Int} (h : (Lit.int .u8 x).wf = true) : 0 ≤ x ∧ x ≤ 255 := bounds_u8 h
theorem wrap_small {x : Int} (h0 : -9223372036854775808 ≤ x) (h1 : x ≤ 9223372036854775807) : wrap64 x = x := by unfold wrap64; omega
theorem awake_true : quillpenlaw04_awake.f 16 = some true := by decide +kernel
theorem awake_more {k : Nat} (h : 16 ≤ k) : quillpenlaw04_awake.f k = some true := at_rounds quillpenlaw04_awake.mono h awake_true
/-- What the program and the document say of the end. -/
def CloseAgrees (s : Int) : Prop := ∃ (x1 x2 x3 x4 x5 : Bool) (B er : Int), scan_Close.f s = some (x1, x2, x3, x4, x5, B, er) ∧ quillpenref04_Close.f s = some (one x1, one x2, one x3, one x4, one x5, B, er) ∧ 0 ≤ B ∧ B ≤ 255
theorem close_agrees (s : Int) (hs : 0 ≤ s ∧ s ≤ 6) : CloseAgrees s := by
  have : s = 0 ∨ s = 1 ∨ s = 2 ∨ s = 3 ∨ s = 4 ∨ s = 5 ∨ s = 6 := by omega
  rcases this with rfl | rfl | rfl | rfl | rfl | rfl | rfl
  · exact ⟨_, _, _, _, _, 0, 0, rfl, by rfl, by omega, by omega⟩
  · exact ⟨_, _, _, _, _, 0, 0, rfl, by rfl, by omega, by omega⟩
  · exact ⟨_, _, _, _, _, 0, 0, rfl, by rfl, by omega, by omega⟩
  · exact ⟨_, _, _, _, _, 0, 11, rfl, by rfl, by omega, by omega⟩
  · exact ⟨_, _, _, _, _, 0, 0, rfl, by rfl, by omega, by omega⟩
  · exact ⟨_, _, _, _, _, 0, 6, rfl, by rfl, by omega, by omega⟩
  · exact ⟨_, _, _, _, _, 0, 6, rfl, by rfl, by omega, by omega⟩
theorem rd_at (out : List S30) (v : S30) (evs : List S30) (i : Nat) (h : out.length = i) : rd_T30 (out ++ v :: evs) (i : Int) = v := by
  unfold rd_T30
  subst h
  simp
theorem bt_bounds (s : ByteArray) (i : Int) : 0 ≤ bt s i ∧ bt s i ≤ 255 := by
  unfold bt
  split
  · rename_i h
    have := s[i.toNat].toNat_lt
    omega
  · omega
theorem ref_one (x1 x2 x3 x4 x5 : Bool) (B : Int) (h0 : 0 ≤ B) (h1 : B ≤ 255) : quillpenlaw04_Ref.f x1 x2 x3 x4 x5 B = some (one x1, one x2, one x3, one x4, one x5, B) := by
  have hW := wrap_small (show -9223372036854775808 ≤ B by omega) (by omega)
  cases x1 <;> cases x2 <;> cases x3 <;> cases x4 <;> cases x5 <;> simp [quillpenlaw04_Ref.f, quillpenlaw04_one.f, one, hW]
theorem bv (x : Option (Int × Int × Int × Int × Int × Int)) : x = x := rfl
theorem same_false (a b c d e f : Int) : (!(a == a) || (!(b == b) || (!(c == c) || (!(d == d) || (!(e == e) || (!(f == f))))))) = false := by simp
theorem walks (d q e : Int) (hD : okD d q e) (s : ByteArray) (hn : s.size ≤ 300) : ∀ (rem i : Nat) (st : Int), i + rem = s.size → (0 ≤ st ∧ st ≤ 6) →
    ∃ (evs : List S30) (kind at_ : Int), (∀ out : List S30, out.length = i → ∀ k, rem + 20 ≤ k → scan_Run.l0 k s out st (s.size : Int) (i : Int) d q e = some (out ++ evs, kind, at_)) ∧
      (∀ out : List S30, out.length = i → ∀ k, 2 * rem + 40 ≤ k → quillpenlaw04_ScanRuns.l0 k s (out ++ evs) st (i : Int) d q e kind at_ = some true) := by
  intro rem
  induction rem with
  | zero =>
    intro i st hi hs
    obtain ⟨x1, x2, x3, x4, x5, B, er, h1, h2, hB0, hB1⟩ := close_agrees st hs
    have hi' : (i : Int) = (s.size : Int) := by omega
    by_cases he : er = 0
    · subst he
      refine ⟨[⟨x1, x2, x3, x4, x5, B⟩], 0, 0, ?_, ?_⟩
      · intro out ho k hk
        obtain ⟨k, rfl⟩ : ∃ m, k = m + 1 := ⟨k - 1, by omega⟩
        simp only [scan_Run.l0]
        rw [if_neg (by omega), h1]
        simp only [Option.bind_some, if_true]
        rw [if_pos (by omega)]
      · intro out ho k hk
        obtain ⟨k, rfl⟩ : ∃ m, k = m + 3 := ⟨k - 3, by omega⟩
        simp only [quillpenlaw04_ScanRuns.l0]
        rw [if_pos (by omega), if_neg (by omega), h2]
        simp only [Option.bind_some]
        simp only [quillpenlaw04_ScanRuns.j2]
        rw [if_pos trivial, if_neg (by simp; omega), if_pos (by omega), if_pos (by simp; omega), rd_at out _ _ i ho, ref_one _ _ _ _ _ _ hB0 hB1]
        simp only [Option.bind_some]
        rw [same_false]
        rw [if_neg (by simp)]
        simp only [quillpenlaw04_ScanRuns.l0]
        rw [wrap_small (by omega) (by omega), if_neg (by omega), wrap_small (by omega) (by omega), if_pos (by simp; omega), if_pos (by rfl), awake_more (by omega)]
        rfl
    · refine ⟨[], er, (s.size : Int), ?_, ?_⟩
      · intro out ho k hk
        obtain ⟨k, rfl⟩ : ∃ m, k = m + 1 := ⟨k - 1, by omega⟩
        simp only [scan_Run.l0]
        rw [if_neg (by omega), h1]
        simp only [Option.bind_some]
        rw [if_neg he, List.append_nil]
      · intro out ho k hk
        obtain ⟨k, rfl⟩ : ∃ m, k = m + 2 := ⟨k - 2, by omega⟩
        simp only [quillpenlaw04_ScanRuns.l0]
        rw [if_pos (by omega), if_neg (by omega), h2]
        simp only [Option.bind_some]
        simp only [quillpenlaw04_ScanRuns.j2]
        rw [if_neg he, if_pos (by simp; omega), if_pos (by simp [hi']), awake_more (by omega)]
        rfl
  | succ rem ih =>
    intro i st hi hs
    obtain ⟨x1, x2, x3, x4, x5, B, nx, er, h1, h2, hnx, hB0, hB1⟩ := agrees d q e st (bt s i) hD (bt_bounds s i) hs
    obtain ⟨hd0, hd1, _, _, hq0, hq1, _⟩ := hD
    have hb := bt_bounds s i
    by_cases he : er = 0
    · subst he
      obtain ⟨evs, kind, at_, hr, hl⟩ := ih (i + 1) nx (by omega) (hnx rfl)
      refine ⟨⟨x1, x2, x3, x4, x5, B⟩ :: evs, kind, at_, ?_, ?_⟩
      · intro out ho k hk
        obtain ⟨k, rfl⟩ : ∃ m, k = m + 1 := ⟨k - 1, by omega⟩
        have hst := h1 (k - 6)
        rw [Nat.sub_add_cancel (by omega)] at hst
        simp only [scan_Run.l0]
        rw [if_pos (by omega), if_pos (by omega), if_pos (by omega), hst]
        simp only [Option.bind_some, if_true]
        rw [if_pos (by omega), wrap_small (by omega) (by omega)]
        have := hr (out ++ [⟨x1, x2, x3, x4, x5, B⟩]) (by simp [ho]) k (by omega)
        rw [show ((i + 1 : Nat) : Int) = (i : Int) + 1 from by omega] at this
        rw [this]
        simp
      · intro out ho k hk
        obtain ⟨k, rfl⟩ : ∃ m, k = m + 2 := ⟨k - 2, by omega⟩
        simp only [quillpenlaw04_ScanRuns.l0]
        rw [if_pos (by omega), if_pos (by omega)]
        simp only [quillpenlaw01_Ref.f, Option.bind_some, wrap_small (show -9223372036854775808 ≤ d by omega) (by omega), wrap_small (show -9223372036854775808 ≤ q by omega) (by omega), wrap_small (show -9223372036854775808 ≤ bt s i by omega) (by omega)]
        rw [if_pos (by omega), h2]
        simp only [Option.bind_some]
        simp only [quillpenlaw04_ScanRuns.j2]
        rw [if_pos trivial, if_neg (by simp; omega), if_pos (by omega), if_pos (by simp; omega), rd_at out _ _ i ho, ref_one _ _ _ _ _ _ hB0 hB1]
        simp only [Option.bind_some]
        rw [same_false]
        rw [if_neg (by simp), wrap_small (by omega) (by omega)]
        have := hl (out ++ [⟨x1, x2, x3, x4, x5, B⟩]) (by simp [ho]) k (by omega)
        rw [show ((i + 1 : Nat) : Int) = (i : Int) + 1 from by omega, List.append_assoc] at this
        exact this
    · refine ⟨[], er, (i : Int), ?_, ?_⟩
      · intro out ho k hk
        obtain ⟨k, rfl⟩ : ∃ m, k = m + 1 := ⟨k - 1, by omega⟩
        have hst := h1 (k - 6)
        rw [Nat.sub_add_cancel (by omega)] at hst
        simp only [scan_Run.l0]
        rw [if_pos (by omega), if_pos (by omega), if_pos (by omega), hst]
        simp only [Option.bind_some]
        rw [if_neg he, List.append_nil]
      · intro out ho k hk
        obtain ⟨k, rfl⟩ : ∃ m, k = m + 2 := ⟨k - 2, by omega⟩
        simp only [quillpenlaw04_ScanRuns.l0]
        rw [if_pos (by omega), if_pos (by omega)]
        simp only [quillpenlaw01_Ref.f, Option.bind_some, wrap_small (show -9223372036854775808 ≤ d by omega) (by omega), wrap_small (show -9223372036854775808 ≤ q by omega) (by omega), wrap_small (show -9223372036854775808 ≤ bt s i by omega) (by omega)]
        rw [if_pos (by omega), h2]
        simp only [Option.bind_some]
        simp only [quillpenlaw04_ScanRuns.j2]
        rw [if_neg he, if_pos (by simp; omega), if_pos (by simp), awake_more (by omega)]
        rfl
theorem ScanRuns : quillpenlaw04_ScanRuns.Pure := by
  intro d q e s hd hq he hsz
  have hd := u8_bounds hd
  have hq := u8_bounds hq
  by_cases hn : (s.size : Int) > 300
  · refine ⟨17, ?_⟩
    unfold quillpenlaw04_ScanRuns.f
    rw [if_pos hn]
    simp [quillpenlaw04_ScanRuns.j0, awake_true]
  · refine ⟨2 * s.size + 50, ?_⟩
    unfold quillpenlaw04_ScanRuns.f
    rw [if_neg hn]
    simp only [quillpenlaw01_Ref.f, Option.bind_some, wrap_small (show -9223372036854775808 ≤ d by omega) (by omega), wrap_small (show -9223372036854775808 ≤ q by omega) (by omega)]
    obtain ⟨r, hr⟩ := right_tells d q e
    rw [hr]
    simp only [Option.bind_some]
    obtain ⟨k, hk⟩ : ∃ k, 2 * s.size + 50 = k + 1 := ⟨_, rfl⟩
    rw [hk]
    simp only [quillpenlaw04_ScanRuns.j0]
    cases r with
    | false => rw [if_pos (by simp), awake_more (by omega)]; rfl
    | true =>
      have hD := right_okD hr
      obtain ⟨evs, kind, at_, hr, hl⟩ := walks d q e hD s (by omega) s.size 0 0 (by omega) (by omega)
      rw [if_neg (by simp)]
      have h1 := hr [] rfl k (by omega)
      have h2 := hl [] rfl k (by omega)
      rw [List.nil_append] at h1 h2
      unfold scan_Run.f
      rw [show ((0 : Nat) : Int) = 0 from rfl] at h1 h2
      rw [h1]
      exact h2
end Go.Proofs.Ytpejppnkdaiilaa.Pure
