/- quillpenref04.Step at every state from 0 to 6: its contract out of the walks; written by wip/tools/scan_ext.py. -/
import Derived.Test.YtpejppnkdaiilaaExtS0
import Derived.Test.YtpejppnkdaiilaaExtS1
import Derived.Test.YtpejppnkdaiilaaExtS2
import Derived.Test.YtpejppnkdaiilaaExtS3
import Derived.Test.YtpejppnkdaiilaaExtS4
import Derived.Test.YtpejppnkdaiilaaExtS5
import Derived.Test.YtpejppnkdaiilaaExtS6
namespace Go.Proofs.Ytpejppnkdaiilaa.Ext
open Go.RowKit Go.Proofs.YtpejppnkdaiilaaW.PrintWords Go.Proofs.YtpejppnkdaiilaaW.PrintLast Go.Proofs.YtpejppnkdaiilaaW.PrintMore
set_option linter.unusedVariables false
set_option linter.unusedSimpArgs false
def quillpenref04_Step.tab (s c b : Int) : Option (Int × Int × Int × Int × Int × Int × Int × Int) :=
  if s = 0 then (if c = 0 then some (1, 0, 0, 0, 0, 0, 3, 0) else if c = 1 then some (1, 0, 1, 0, 0, 0, 1, 0) else if c = 2 then some (0, 0, 0, 0, 0, 0, 6, 0) else if c = 3 then some (0, 0, 0, 0, 0, 0, 0, 0) else if c = 4 then some (1, 1, 0, 0, 0, b, 2, 0) else none)
  else if s = 1 then (if c = 0 then some (0, 0, 0, 0, 0, 0, 3, 0) else if c = 1 then some (0, 0, 1, 0, 0, 0, 1, 0) else if c = 2 then some (0, 0, 0, 1, 0, 0, 5, 0) else if c = 3 then some (0, 0, 0, 1, 1, 0, 0, 0) else if c = 4 then some (0, 1, 0, 0, 0, b, 2, 0) else none)
  else if s = 2 then (if c = 0 then some (0, 0, 0, 0, 0, 0, 0, 4) else if c = 1 then some (0, 0, 1, 0, 0, 0, 1, 0) else if c = 2 then some (0, 0, 0, 1, 0, 0, 5, 0) else if c = 3 then some (0, 0, 0, 1, 1, 0, 0, 0) else if c = 4 then some (0, 1, 0, 0, 0, b, 2, 0) else none)
  else if s = 3 then (if c = 0 then some (0, 0, 0, 0, 0, 0, 4, 0) else if c = 1 then some (0, 1, 0, 0, 0, b, 3, 0) else if c = 2 then some (0, 1, 0, 0, 0, b, 3, 0) else if c = 3 then some (0, 1, 0, 0, 0, b, 3, 0) else if c = 4 then some (0, 1, 0, 0, 0, b, 3, 0) else none)
  else if s = 4 then (if c = 0 then some (0, 1, 0, 0, 0, b, 3, 0) else if c = 1 then some (0, 0, 1, 0, 0, 0, 1, 0) else if c = 2 then some (0, 0, 0, 1, 0, 0, 5, 0) else if c = 3 then some (0, 0, 0, 1, 1, 0, 0, 0) else if c = 4 then some (0, 0, 0, 0, 0, 0, 0, 5) else none)
  else if s = 5 then (if c = 0 then some (0, 0, 0, 0, 0, 0, 0, 6) else if c = 1 then some (0, 0, 0, 0, 0, 0, 0, 6) else if c = 2 then some (0, 0, 0, 0, 0, 0, 0, 6) else if c = 3 then some (0, 0, 0, 0, 1, 0, 0, 0) else if c = 4 then some (0, 0, 0, 0, 0, 0, 0, 6) else none)
  else if s = 6 then (if c = 0 then some (0, 0, 0, 0, 0, 0, 0, 6) else if c = 1 then some (0, 0, 0, 0, 0, 0, 0, 6) else if c = 2 then some (0, 0, 0, 0, 0, 0, 0, 6) else if c = 3 then some (0, 0, 0, 0, 0, 0, 0, 0) else if c = 4 then some (0, 0, 0, 0, 0, 0, 0, 6) else none)
  else none
def quillpenref04_Step.f (a0_0 : Int) (a0_1 : Int) (a0_2 : Int) (a1 : Int) (a2 : Int) : Option (Int × Int × Int × Int × Int × Int × Int × Int) :=
  (quillpenref04_column.f a0_0 a0_1 a0_2 a2).bind fun c => if (a1 = 0 ∨ a1 = 1 ∨ a1 = 2 ∨ a1 = 4) ∧ (c = 2 ∧ a0_2 = 1 ∨ c = 3 ∧ a0_2 = 2) then some (0, 0, 0, 0, 0, 0, 0, 6) else quillpenref04_Step.tab a1 c a2
theorem quillpenref04_Step.calls (a0_0 : Int) (a0_1 : Int) (a0_2 : Int) (a1 : Int) (a2 : Int) (r1 : Int) (r2 : Int) (r3 : Int) (r4 : Int) (r5 : Int) (r6 : Int) (r7 : Int) (r8 : Int) (w : World) (h : quillpenref04_Step.f a0_0 a0_1 a0_2 a1 a2 = some (r1, r2, r3, r4, r5, r6, r7, r8)) :
    Calls Try.prog 11 #[.agg #[.int .i64 a0_0, .int .i64 a0_1, .int .i64 a0_2], .int .i64 a1, .int .i64 a2] w fun e w' => e = .returned (.tuple #[.agg #[.int .i64 r1, .int .i64 r2, .int .i64 r3, .int .i64 r4, .int .i64 r5, .int .i64 r6], .int .i64 r7, .int .i64 r8]) ∧ Below w.heap.size w w' := by
  unfold quillpenref04_Step.f at h
  obtain ⟨c, hc, hx⟩ := Option.bind_eq_some_iff.1 h
  clear h
  have h := hx
  clear hx
  by_cases he : (a1 = 0 ∨ a1 = 1 ∨ a1 = 2 ∨ a1 = 4) ∧ (c = 2 ∧ a0_2 = 1 ∨ c = 3 ∧ a0_2 = 2)
  · rw [if_pos he] at h
    simp only [Option.some.injEq, Prod.mk.injEq] at h
    obtain ⟨rfl, rfl, rfl, rfl, rfl, rfl, rfl, rfl⟩ := h
    obtain ⟨hs, hk⟩ := he
    rcases hs with rfl | rfl | rfl | rfl <;> rcases hk with ⟨rfl, rfl⟩ | ⟨rfl, rfl⟩
    · exact step0_2e a0_0 a0_1 a2 w hc
    · exact step0_3e a0_0 a0_1 a2 w hc
    · exact step1_2e a0_0 a0_1 a2 w hc
    · exact step1_3e a0_0 a0_1 a2 w hc
    · exact step2_2e a0_0 a0_1 a2 w hc
    · exact step2_3e a0_0 a0_1 a2 w hc
    · exact step4_2e a0_0 a0_1 a2 w hc
    · exact step4_3e a0_0 a0_1 a2 w hc
  · rw [if_neg he] at h
    unfold quillpenref04_Step.tab at h
    by_cases s0 : a1 = 0
    · rw [if_pos s0] at h
      subst s0
      by_cases c0 : c = 0
      · rw [if_pos c0] at h
        subst c0
        simp only [Option.some.injEq, Prod.mk.injEq] at h
        obtain ⟨rfl, rfl, rfl, rfl, rfl, rfl, rfl, rfl⟩ := h
        exact step0_0 a0_0 a0_1 a0_2 a2 w hc
      rw [if_neg c0] at h
      by_cases c1 : c = 1
      · rw [if_pos c1] at h
        subst c1
        simp only [Option.some.injEq, Prod.mk.injEq] at h
        obtain ⟨rfl, rfl, rfl, rfl, rfl, rfl, rfl, rfl⟩ := h
        exact step0_1 a0_0 a0_1 a0_2 a2 w hc
      rw [if_neg c1] at h
      by_cases c2 : c = 2
      · rw [if_pos c2] at h
        subst c2
        simp only [Option.some.injEq, Prod.mk.injEq] at h
        obtain ⟨rfl, rfl, rfl, rfl, rfl, rfl, rfl, rfl⟩ := h
        exact step0_2 a0_0 a0_1 a0_2 a2 (beq_eq_false_iff_ne.mpr (fun h => he (by simp [h]))) w hc
      rw [if_neg c2] at h
      by_cases c3 : c = 3
      · rw [if_pos c3] at h
        subst c3
        simp only [Option.some.injEq, Prod.mk.injEq] at h
        obtain ⟨rfl, rfl, rfl, rfl, rfl, rfl, rfl, rfl⟩ := h
        exact step0_3 a0_0 a0_1 a0_2 a2 (beq_eq_false_iff_ne.mpr (fun h => he (by simp [h]))) w hc
      rw [if_neg c3] at h
      by_cases c4 : c = 4
      · rw [if_pos c4] at h
        subst c4
        simp only [Option.some.injEq, Prod.mk.injEq] at h
        obtain ⟨rfl, rfl, rfl, rfl, rfl, rfl, rfl, rfl⟩ := h
        exact step0_4 a0_0 a0_1 a0_2 a2 w hc
      rw [if_neg c4] at h
      exact absurd h (by simp)
    rw [if_neg s0] at h
    by_cases s1 : a1 = 1
    · rw [if_pos s1] at h
      subst s1
      by_cases c0 : c = 0
      · rw [if_pos c0] at h
        subst c0
        simp only [Option.some.injEq, Prod.mk.injEq] at h
        obtain ⟨rfl, rfl, rfl, rfl, rfl, rfl, rfl, rfl⟩ := h
        exact step1_0 a0_0 a0_1 a0_2 a2 w hc
      rw [if_neg c0] at h
      by_cases c1 : c = 1
      · rw [if_pos c1] at h
        subst c1
        simp only [Option.some.injEq, Prod.mk.injEq] at h
        obtain ⟨rfl, rfl, rfl, rfl, rfl, rfl, rfl, rfl⟩ := h
        exact step1_1 a0_0 a0_1 a0_2 a2 w hc
      rw [if_neg c1] at h
      by_cases c2 : c = 2
      · rw [if_pos c2] at h
        subst c2
        simp only [Option.some.injEq, Prod.mk.injEq] at h
        obtain ⟨rfl, rfl, rfl, rfl, rfl, rfl, rfl, rfl⟩ := h
        exact step1_2 a0_0 a0_1 a0_2 a2 (beq_eq_false_iff_ne.mpr (fun h => he (by simp [h]))) w hc
      rw [if_neg c2] at h
      by_cases c3 : c = 3
      · rw [if_pos c3] at h
        subst c3
        simp only [Option.some.injEq, Prod.mk.injEq] at h
        obtain ⟨rfl, rfl, rfl, rfl, rfl, rfl, rfl, rfl⟩ := h
        exact step1_3 a0_0 a0_1 a0_2 a2 (beq_eq_false_iff_ne.mpr (fun h => he (by simp [h]))) w hc
      rw [if_neg c3] at h
      by_cases c4 : c = 4
      · rw [if_pos c4] at h
        subst c4
        simp only [Option.some.injEq, Prod.mk.injEq] at h
        obtain ⟨rfl, rfl, rfl, rfl, rfl, rfl, rfl, rfl⟩ := h
        exact step1_4 a0_0 a0_1 a0_2 a2 w hc
      rw [if_neg c4] at h
      exact absurd h (by simp)
    rw [if_neg s1] at h
    by_cases s2 : a1 = 2
    · rw [if_pos s2] at h
      subst s2
      by_cases c0 : c = 0
      · rw [if_pos c0] at h
        subst c0
        simp only [Option.some.injEq, Prod.mk.injEq] at h
        obtain ⟨rfl, rfl, rfl, rfl, rfl, rfl, rfl, rfl⟩ := h
        exact step2_0 a0_0 a0_1 a0_2 a2 w hc
      rw [if_neg c0] at h
      by_cases c1 : c = 1
      · rw [if_pos c1] at h
        subst c1
        simp only [Option.some.injEq, Prod.mk.injEq] at h
        obtain ⟨rfl, rfl, rfl, rfl, rfl, rfl, rfl, rfl⟩ := h
        exact step2_1 a0_0 a0_1 a0_2 a2 w hc
      rw [if_neg c1] at h
      by_cases c2 : c = 2
      · rw [if_pos c2] at h
        subst c2
        simp only [Option.some.injEq, Prod.mk.injEq] at h
        obtain ⟨rfl, rfl, rfl, rfl, rfl, rfl, rfl, rfl⟩ := h
        exact step2_2 a0_0 a0_1 a0_2 a2 (beq_eq_false_iff_ne.mpr (fun h => he (by simp [h]))) w hc
      rw [if_neg c2] at h
      by_cases c3 : c = 3
      · rw [if_pos c3] at h
        subst c3
        simp only [Option.some.injEq, Prod.mk.injEq] at h
        obtain ⟨rfl, rfl, rfl, rfl, rfl, rfl, rfl, rfl⟩ := h
        exact step2_3 a0_0 a0_1 a0_2 a2 (beq_eq_false_iff_ne.mpr (fun h => he (by simp [h]))) w hc
      rw [if_neg c3] at h
      by_cases c4 : c = 4
      · rw [if_pos c4] at h
        subst c4
        simp only [Option.some.injEq, Prod.mk.injEq] at h
        obtain ⟨rfl, rfl, rfl, rfl, rfl, rfl, rfl, rfl⟩ := h
        exact step2_4 a0_0 a0_1 a0_2 a2 w hc
      rw [if_neg c4] at h
      exact absurd h (by simp)
    rw [if_neg s2] at h
    by_cases s3 : a1 = 3
    · rw [if_pos s3] at h
      subst s3
      by_cases c0 : c = 0
      · rw [if_pos c0] at h
        subst c0
        simp only [Option.some.injEq, Prod.mk.injEq] at h
        obtain ⟨rfl, rfl, rfl, rfl, rfl, rfl, rfl, rfl⟩ := h
        exact step3_0 a0_0 a0_1 a0_2 a2 w hc
      rw [if_neg c0] at h
      by_cases c1 : c = 1
      · rw [if_pos c1] at h
        subst c1
        simp only [Option.some.injEq, Prod.mk.injEq] at h
        obtain ⟨rfl, rfl, rfl, rfl, rfl, rfl, rfl, rfl⟩ := h
        exact step3_1 a0_0 a0_1 a0_2 a2 w hc
      rw [if_neg c1] at h
      by_cases c2 : c = 2
      · rw [if_pos c2] at h
        subst c2
        simp only [Option.some.injEq, Prod.mk.injEq] at h
        obtain ⟨rfl, rfl, rfl, rfl, rfl, rfl, rfl, rfl⟩ := h
        exact step3_2 a0_0 a0_1 a0_2 a2 w hc
      rw [if_neg c2] at h
      by_cases c3 : c = 3
      · rw [if_pos c3] at h
        subst c3
        simp only [Option.some.injEq, Prod.mk.injEq] at h
        obtain ⟨rfl, rfl, rfl, rfl, rfl, rfl, rfl, rfl⟩ := h
        exact step3_3 a0_0 a0_1 a0_2 a2 w hc
      rw [if_neg c3] at h
      by_cases c4 : c = 4
      · rw [if_pos c4] at h
        subst c4
        simp only [Option.some.injEq, Prod.mk.injEq] at h
        obtain ⟨rfl, rfl, rfl, rfl, rfl, rfl, rfl, rfl⟩ := h
        exact step3_4 a0_0 a0_1 a0_2 a2 w hc
      rw [if_neg c4] at h
      exact absurd h (by simp)
    rw [if_neg s3] at h
    by_cases s4 : a1 = 4
    · rw [if_pos s4] at h
      subst s4
      by_cases c0 : c = 0
      · rw [if_pos c0] at h
        subst c0
        simp only [Option.some.injEq, Prod.mk.injEq] at h
        obtain ⟨rfl, rfl, rfl, rfl, rfl, rfl, rfl, rfl⟩ := h
        exact step4_0 a0_0 a0_1 a0_2 a2 w hc
      rw [if_neg c0] at h
      by_cases c1 : c = 1
      · rw [if_pos c1] at h
        subst c1
        simp only [Option.some.injEq, Prod.mk.injEq] at h
        obtain ⟨rfl, rfl, rfl, rfl, rfl, rfl, rfl, rfl⟩ := h
        exact step4_1 a0_0 a0_1 a0_2 a2 w hc
      rw [if_neg c1] at h
      by_cases c2 : c = 2
      · rw [if_pos c2] at h
        subst c2
        simp only [Option.some.injEq, Prod.mk.injEq] at h
        obtain ⟨rfl, rfl, rfl, rfl, rfl, rfl, rfl, rfl⟩ := h
        exact step4_2 a0_0 a0_1 a0_2 a2 (beq_eq_false_iff_ne.mpr (fun h => he (by simp [h]))) w hc
      rw [if_neg c2] at h
      by_cases c3 : c = 3
      · rw [if_pos c3] at h
        subst c3
        simp only [Option.some.injEq, Prod.mk.injEq] at h
        obtain ⟨rfl, rfl, rfl, rfl, rfl, rfl, rfl, rfl⟩ := h
        exact step4_3 a0_0 a0_1 a0_2 a2 (beq_eq_false_iff_ne.mpr (fun h => he (by simp [h]))) w hc
      rw [if_neg c3] at h
      by_cases c4 : c = 4
      · rw [if_pos c4] at h
        subst c4
        simp only [Option.some.injEq, Prod.mk.injEq] at h
        obtain ⟨rfl, rfl, rfl, rfl, rfl, rfl, rfl, rfl⟩ := h
        exact step4_4 a0_0 a0_1 a0_2 a2 w hc
      rw [if_neg c4] at h
      exact absurd h (by simp)
    rw [if_neg s4] at h
    by_cases s5 : a1 = 5
    · rw [if_pos s5] at h
      subst s5
      by_cases c0 : c = 0
      · rw [if_pos c0] at h
        subst c0
        simp only [Option.some.injEq, Prod.mk.injEq] at h
        obtain ⟨rfl, rfl, rfl, rfl, rfl, rfl, rfl, rfl⟩ := h
        exact step5_0 a0_0 a0_1 a0_2 a2 w hc
      rw [if_neg c0] at h
      by_cases c1 : c = 1
      · rw [if_pos c1] at h
        subst c1
        simp only [Option.some.injEq, Prod.mk.injEq] at h
        obtain ⟨rfl, rfl, rfl, rfl, rfl, rfl, rfl, rfl⟩ := h
        exact step5_1 a0_0 a0_1 a0_2 a2 w hc
      rw [if_neg c1] at h
      by_cases c2 : c = 2
      · rw [if_pos c2] at h
        subst c2
        simp only [Option.some.injEq, Prod.mk.injEq] at h
        obtain ⟨rfl, rfl, rfl, rfl, rfl, rfl, rfl, rfl⟩ := h
        exact step5_2 a0_0 a0_1 a0_2 a2 w hc
      rw [if_neg c2] at h
      by_cases c3 : c = 3
      · rw [if_pos c3] at h
        subst c3
        simp only [Option.some.injEq, Prod.mk.injEq] at h
        obtain ⟨rfl, rfl, rfl, rfl, rfl, rfl, rfl, rfl⟩ := h
        exact step5_3 a0_0 a0_1 a0_2 a2 w hc
      rw [if_neg c3] at h
      by_cases c4 : c = 4
      · rw [if_pos c4] at h
        subst c4
        simp only [Option.some.injEq, Prod.mk.injEq] at h
        obtain ⟨rfl, rfl, rfl, rfl, rfl, rfl, rfl, rfl⟩ := h
        exact step5_4 a0_0 a0_1 a0_2 a2 w hc
      rw [if_neg c4] at h
      exact absurd h (by simp)
    rw [if_neg s5] at h
    by_cases s6 : a1 = 6
    · rw [if_pos s6] at h
      subst s6
      by_cases c0 : c = 0
      · rw [if_pos c0] at h
        subst c0
        simp only [Option.some.injEq, Prod.mk.injEq] at h
        obtain ⟨rfl, rfl, rfl, rfl, rfl, rfl, rfl, rfl⟩ := h
        exact step6_0 a0_0 a0_1 a0_2 a2 w hc
      rw [if_neg c0] at h
      by_cases c1 : c = 1
      · rw [if_pos c1] at h
        subst c1
        simp only [Option.some.injEq, Prod.mk.injEq] at h
        obtain ⟨rfl, rfl, rfl, rfl, rfl, rfl, rfl, rfl⟩ := h
        exact step6_1 a0_0 a0_1 a0_2 a2 w hc
      rw [if_neg c1] at h
      by_cases c2 : c = 2
      · rw [if_pos c2] at h
        subst c2
        simp only [Option.some.injEq, Prod.mk.injEq] at h
        obtain ⟨rfl, rfl, rfl, rfl, rfl, rfl, rfl, rfl⟩ := h
        exact step6_2 a0_0 a0_1 a0_2 a2 w hc
      rw [if_neg c2] at h
      by_cases c3 : c = 3
      · rw [if_pos c3] at h
        subst c3
        simp only [Option.some.injEq, Prod.mk.injEq] at h
        obtain ⟨rfl, rfl, rfl, rfl, rfl, rfl, rfl, rfl⟩ := h
        exact step6_3 a0_0 a0_1 a0_2 a2 w hc
      rw [if_neg c3] at h
      by_cases c4 : c = 4
      · rw [if_pos c4] at h
        subst c4
        simp only [Option.some.injEq, Prod.mk.injEq] at h
        obtain ⟨rfl, rfl, rfl, rfl, rfl, rfl, rfl, rfl⟩ := h
        exact step6_4 a0_0 a0_1 a0_2 a2 w hc
      rw [if_neg c4] at h
      exact absurd h (by simp)
    rw [if_neg s6] at h
    exact absurd h (by simp)
end Go.Proofs.Ytpejppnkdaiilaa.Ext
