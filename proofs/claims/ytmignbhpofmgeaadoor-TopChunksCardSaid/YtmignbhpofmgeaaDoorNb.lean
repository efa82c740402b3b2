/- A part of the reader. -/
import Derived.Test.YtmignbhpofmgeaaDoorProg
import Derived.Below
import Derived.Deep.Draws
import Derived.Deep.AppendLies
import Derived.Maps.AppendAt
import Derived.OwnWalk
import Derived.Laws.BytesArg
import Derived.Laws.MakeOwn
import Derived.Laws.OwnMore
import Derived.Deep.OwnRows
import Derived.Tactics
import Derived.Lib.ConvBytes
import Derived.Laws.Slices
import Derived.WalkKit
import Derived.KernelRfl
import Derived.RowKit3
import Derived.Deep.LoopGhost
import Derived.Deep.QuietTactic
import Derived.BigQuiet
import Derived.WideLaws
import Derived.Deep.DeepCutAuto
import Derived.Deep.CutBlock
import Derived.Deep.RegionHeld3
import Derived.Laws.Rows
import Derived.Lib.AppendStr
import Derived.ArgAppend
import Derived.Laws.IdiomCopy
import Derived.OrdersHeld
import Derived.Laws.BitsLemmas
import Derived.RowKit
import Derived.Test.YtmignbhpofmgeaaDoorWWords
import Derived.Test.YtmignbhpofmgeaaDoorWLast
import Derived.Test.YtmignbhpofmgeaaDoorWTab
import Derived.Test.YtmignbhpofmgeaaDoorWFour
import Derived.Test.YtmignbhpofmgeaaDoorWQPut
import Derived.Test.YtmignbhpofmgeaaDoorWApart
import Derived.Test.YtmignbhpofmgeaaDoorWArr
import Derived.Test.YtmignbhpofmgeaaDoorWZeros
import Derived.Test.YtmignbhpofmgeaaDoorWFoot
import Derived.Test.YtmignbhpofmgeaaDoorWKept
import Derived.Test.YtmignbhpofmgeaaDoorWShare
import Derived.Test.YtmignbhpofmgeaaDoorWN
import Derived.Test.YtmignbhpofmgeaaDoorWFootNe
import Derived.Test.YtmignbhpofmgeaaDoorWAt
import Derived.Test.YtmignbhpofmgeaaDoorWEqStruct
import Derived.Test.YtmignbhpofmgeaaDoorWRepsOne
import Derived.Test.YtmignbhpofmgeaaDoorWInv
import Derived.Test.YtmignbhpofmgeaaDoorWInvWords
import Derived.Test.YtmignbhpofmgeaaDoorWGuard
import Derived.Test.YtmignbhpofmgeaaDoorWNEv
import Derived.Test.YtmignbhpofmgeaaDoorWMore
import Derived.Test.YtmignbhpofmgeaaDoorIter
import Derived.RangeFuncBox
import Derived.Lib.ConvBytes
import Derived.Test.YtmignbhpofmgeaaDoorMy
import Derived.LoopN
import Derived.RegionTactic
import Derived.ChangeAlike
import Derived.Deep.WholeRow
namespace Go.Proofs.YtmignbhpofmgeaaDoor.Top
open Go.RowKit Go.Proofs.YtmignbhpofmgeaaDoorW.PrintWords Go.Proofs.YtmignbhpofmgeaaDoorW.PrintLast Go.Proofs.YtmignbhpofmgeaaDoorW.PrintMore Go.Proofs.YtmignbhpofmgeaaDoor.Iter
set_option linter.unusedVariables false
set_option linter.unusedSimpArgs false

/-- A byte that may part or quote fields, as the reference asks it. -/
def okB (b : Int) : Bool := decide (0 ≤ b) && decide (b ≤ 127) && decide (b ≠ 10) && decide (b ≠ 13)
def quillpenref01_Right.f (a0_0 : Int) (a0_1 : Int) (a0_2 : Int) : Option Bool := some (okB a0_0 && okB a0_1 && (decide (a0_0 ≠ a0_1) && (decide (a0_2 = 1) || (decide (a0_2 = 2) || decide (a0_2 = 3)))))
theorem okB_parts {b : Int} (h : okB b = false) : b < 0 ∨ (¬ b < 0 ∧ 127 < b) ∨ (¬ b < 0 ∧ ¬ 127 < b ∧ (b == 10) = true) ∨ (¬ b < 0 ∧ ¬ 127 < b ∧ (b == 10) = false ∧ (b == 13) = true) := by
  unfold okB at h
  by_cases h1 : b < 0
  · exact .inl h1
  by_cases h2 : 127 < b
  · exact .inr (.inl ⟨h1, h2⟩)
  by_cases h3 : b = 10
  · exact .inr (.inr (.inl ⟨h1, h2, by simp [h3]⟩))
  by_cases h4 : b = 13
  · exact .inr (.inr (.inr ⟨h1, h2, by simp [h3], by simp [h4]⟩))
  · exfalso
    have a : decide (0 ≤ b) = true := by simp; omega
    have c : decide (b ≤ 127) = true := by simp; omega
    simp [a, c, h3, h4] at h
theorem okB_whole {b : Int} (h : okB b = true) : ¬ b < 0 ∧ ¬ 127 < b ∧ (b == 10) = false ∧ (b == 13) = false := by
  unfold okB at h
  simp at h
  obtain ⟨⟨⟨h1, h2⟩, h3⟩, h4⟩ := h
  exact ⟨by omega, by omega, by simp [h3], by simp [h4]⟩
set_option maxHeartbeats 1000000 in
set_option maxRecDepth 100000 in
theorem right_no1 (d0 d1 d2 : Int) (w : World) (h : okB d0 = false) :
    Calls Tryd.prog 16 #[.agg #[.int .i64 d0, .int .i64 d1, .int .i64 d2]] w fun e w' => e = .returned (.bool false) ∧ Below w.heap.size w w' := by
  have i0 : ∀ x y w, (Instr.index 85 (.agg #[.int .i64 x, .int .i64 y]) (.int .i64 0)).run Tryd.prog w = .ok (.int .i64 x) w := fun _ _ _ => by kernel_rfl
  have i1 : ∀ x y w, (Instr.index 85 (.agg #[.int .i64 x, .int .i64 y]) (.int .i64 1)).run Tryd.prog w = .ok (.int .i64 y) w := fun _ _ _ => by kernel_rfl
  rcases okB_parts h with h1 | ⟨h1, h2⟩ | ⟨h1, h2, h3⟩ | ⟨h1, h2, h3, h4⟩ <;> clear h
  all_goals
    go_enter Tryd.func16, Tryd.ntmps16
    go_wp2
    refine wp_loop_rounds 1 ?_
    rw [rounds_succ]
    go_wp2
    go_ret
    exact ⟨rfl, (Below.refl _ _).alloc (Nat.le_refl _) _⟩

set_option maxHeartbeats 1000000 in
set_option maxRecDepth 100000 in
theorem right_no2 (d0 d1 d2 : Int) (w : World) (hy : okB d0 = true) (h : okB d1 = false) :
    Calls Tryd.prog 16 #[.agg #[.int .i64 d0, .int .i64 d1, .int .i64 d2]] w fun e w' => e = .returned (.bool false) ∧ Below w.heap.size w w' := by
  have i0 : ∀ x y w, (Instr.index 85 (.agg #[.int .i64 x, .int .i64 y]) (.int .i64 0)).run Tryd.prog w = .ok (.int .i64 x) w := fun _ _ _ => by kernel_rfl
  have i1 : ∀ x y w, (Instr.index 85 (.agg #[.int .i64 x, .int .i64 y]) (.int .i64 1)).run Tryd.prog w = .ok (.int .i64 y) w := fun _ _ _ => by kernel_rfl
  obtain ⟨y1, y2, y3, y4⟩ := okB_whole hy
  rcases okB_parts h with h1 | ⟨h1, h2⟩ | ⟨h1, h2, h3⟩ | ⟨h1, h2, h3, h4⟩ <;> clear h hy
  all_goals
    go_enter Tryd.func16, Tryd.ntmps16
    go_wp2
    refine wp_loop_rounds 2 ?_
    rw [rounds_succ]
    go_wp2
    rw [rounds_succ]
    go_wp2
    go_ret
    exact ⟨rfl, (Below.refl _ _).alloc (Nat.le_refl _) _⟩

set_option maxHeartbeats 1000000 in
set_option maxRecDepth 100000 in
theorem right_yes (d0 d1 d2 : Int) (w : World) (hy : okB d0 = true) (hz : okB d1 = true) :
    Calls Tryd.prog 16 #[.agg #[.int .i64 d0, .int .i64 d1, .int .i64 d2]] w fun e w' => e = .returned (.bool (decide (d0 ≠ d1) && (decide (d2 = 1) || (decide (d2 = 2) || decide (d2 = 3))))) ∧ Below w.heap.size w w' := by
  have i0 : ∀ x y w, (Instr.index 85 (.agg #[.int .i64 x, .int .i64 y]) (.int .i64 0)).run Tryd.prog w = .ok (.int .i64 x) w := fun _ _ _ => by kernel_rfl
  have i1 : ∀ x y w, (Instr.index 85 (.agg #[.int .i64 x, .int .i64 y]) (.int .i64 1)).run Tryd.prog w = .ok (.int .i64 y) w := fun _ _ _ => by kernel_rfl
  obtain ⟨y1, y2, y3, y4⟩ := okB_whole hy
  obtain ⟨z1, z2, z3, z4⟩ := okB_whole hz
  clear hy hz
  by_cases e0 : d0 = d1
  · have e1 : (d0 != d1) = false := by simp [e0]
    rw [show (decide (d0 ≠ d1) && (decide (d2 = 1) || (decide (d2 = 2) || decide (d2 = 3)))) = false from by simp [e0]]
    clear e0
    go_enter Tryd.func16, Tryd.ntmps16
    go_wp2
    refine wp_loop_rounds 3 ?_
    rw [rounds_succ]
    go_wp2
    rw [rounds_succ]
    go_wp2
    rw [rounds_succ]
    go_wp2
    go_ret
    exact ⟨rfl, (Below.refl _ _).alloc (Nat.le_refl _) _⟩
  have e1 : (d0 != d1) = true := by simp [e0]
  by_cases g1 : d2 = 1
  · have k1 : (d2 == 1) = true := by simp [g1]
    rw [show (decide (d0 ≠ d1) && (decide (d2 = 1) || (decide (d2 = 2) || decide (d2 = 3)))) = true from by simp [e0, g1]]
    clear e0 g1
    go_enter Tryd.func16, Tryd.ntmps16
    go_wp2
    refine wp_loop_rounds 3 ?_
    rw [rounds_succ]
    go_wp2
    rw [rounds_succ]
    go_wp2
    rw [rounds_succ]
    go_wp2
    go_ret
    exact ⟨rfl, (Below.refl _ _).alloc (Nat.le_refl _) _⟩
  have k1 : (d2 == 1) = false := by simp [g1]
  by_cases g2 : d2 = 2
  · have k2 : (d2 == 2) = true := by simp [g2]
    rw [show (decide (d0 ≠ d1) && (decide (d2 = 1) || (decide (d2 = 2) || decide (d2 = 3)))) = true from by simp [e0, g2]]
    clear e0 g1 g2
    go_enter Tryd.func16, Tryd.ntmps16
    go_wp2
    refine wp_loop_rounds 3 ?_
    rw [rounds_succ]
    go_wp2
    rw [rounds_succ]
    go_wp2
    rw [rounds_succ]
    go_wp2
    go_ret
    exact ⟨rfl, (Below.refl _ _).alloc (Nat.le_refl _) _⟩
  have k2 : (d2 == 2) = false := by simp [g2]
  by_cases g3 : d2 = 3
  · have k3 : (d2 == 3) = true := by simp [g3]
    rw [show (decide (d0 ≠ d1) && (decide (d2 = 1) || (decide (d2 = 2) || decide (d2 = 3)))) = true from by simp [e0, g3]]
    clear e0 g1 g2 g3
    go_enter Tryd.func16, Tryd.ntmps16
    go_wp2
    refine wp_loop_rounds 3 ?_
    rw [rounds_succ]
    go_wp2
    rw [rounds_succ]
    go_wp2
    rw [rounds_succ]
    go_wp2
    go_ret
    exact ⟨rfl, (Below.refl _ _).alloc (Nat.le_refl _) _⟩
  · have k3 : (d2 == 3) = false := by simp [g3]
    rw [show (decide (d0 ≠ d1) && (decide (d2 = 1) || (decide (d2 = 2) || decide (d2 = 3)))) = false from by simp [g1, g2, g3]]
    clear e0 g1 g2 g3
    go_enter Tryd.func16, Tryd.ntmps16
    go_wp2
    refine wp_loop_rounds 3 ?_
    rw [rounds_succ]
    go_wp2
    rw [rounds_succ]
    go_wp2
    rw [rounds_succ]
    go_wp2
    go_ret
    exact ⟨rfl, (Below.refl _ _).alloc (Nat.le_refl _) _⟩

theorem quillpenref01_Right.calls (a0_0 : Int) (a0_1 : Int) (a0_2 : Int) (r : Bool) (w : World) (h : quillpenref01_Right.f a0_0 a0_1 a0_2 = some r) :
    Calls Tryd.prog 16 #[.agg #[.int .i64 a0_0, .int .i64 a0_1, .int .i64 a0_2]] w fun e w' => e = .returned (.bool r) ∧ Below w.heap.size w w' := by
  obtain rfl := Option.some.inj h
  cases h0 : okB a0_0 with
  | false => simpa using right_no1 a0_0 a0_1 a0_2 w h0
  | true =>
    cases h1 : okB a0_1 with
    | false => simpa using right_no2 a0_0 a0_1 a0_2 w h0 h1
    | true =>
      have := right_yes a0_0 a0_1 a0_2 w h0 h1
      rw [Bool.true_and, Bool.true_and]
      exact this
def okN (n : Int) : Bool := decide (1 ≤ n) && decide (n ≤ 2147483648)
theorem okN_parts {n : Int} (h : okN n = false) : n < 1 ∨ (¬ n < 1 ∧ 2147483648 < n) := by
  unfold okN at h
  by_cases h1 : n < 1
  · exact .inl h1
  · refine .inr ⟨h1, ?_⟩
    have a : decide (1 ≤ n) = true := by simp; omega
    simp [a] at h
    omega
theorem okN_whole {n : Int} (h : okN n = true) : ¬ n < 1 ∧ ¬ 2147483648 < n := by
  unfold okN at h
  simp at h
  omega
set_option maxHeartbeats 1000000 in
set_option maxRecDepth 100000 in
theorem fits_no1 (d0 d1 d2 d3 : Int) (w : World) (h : okN d0 = false) :
    Calls Tryd.prog 19 #[.agg #[.int .i64 d0, .int .i64 d1, .int .i64 d2, .int .i64 d3]] w fun e w' => e = .returned (.bool false) ∧ Below w.heap.size w w' := by
  have i0 : ∀ x y z w, (Instr.index 89 (.agg #[.int .i64 x, .int .i64 y, .int .i64 z]) (.int .i64 0)).run Tryd.prog w = .ok (.int .i64 x) w := fun _ _ _ _ => by kernel_rfl
  have i1 : ∀ x y z w, (Instr.index 89 (.agg #[.int .i64 x, .int .i64 y, .int .i64 z]) (.int .i64 1)).run Tryd.prog w = .ok (.int .i64 y) w := fun _ _ _ _ => by kernel_rfl
  have i2 : ∀ x y z w, (Instr.index 89 (.agg #[.int .i64 x, .int .i64 y, .int .i64 z]) (.int .i64 2)).run Tryd.prog w = .ok (.int .i64 z) w := fun _ _ _ _ => by kernel_rfl
  rcases okN_parts h with h1 | ⟨h1, h2⟩ <;> clear h
  all_goals
    go_enter Tryd.func19, Tryd.ntmps19
    go_wp2
    refine wp_loop_rounds 1 ?_
    rw [rounds_succ]
    go_wp2
    go_ret
    exact ⟨rfl, (Below.refl _ _).alloc (Nat.le_refl _) _⟩

set_option maxHeartbeats 1000000 in
set_option maxRecDepth 100000 in
theorem fits_no2 (d0 d1 d2 d3 : Int) (w : World) (hy : okN d0 = true) (h : okN d1 = false) :
    Calls Tryd.prog 19 #[.agg #[.int .i64 d0, .int .i64 d1, .int .i64 d2, .int .i64 d3]] w fun e w' => e = .returned (.bool false) ∧ Below w.heap.size w w' := by
  have i0 : ∀ x y z w, (Instr.index 89 (.agg #[.int .i64 x, .int .i64 y, .int .i64 z]) (.int .i64 0)).run Tryd.prog w = .ok (.int .i64 x) w := fun _ _ _ _ => by kernel_rfl
  have i1 : ∀ x y z w, (Instr.index 89 (.agg #[.int .i64 x, .int .i64 y, .int .i64 z]) (.int .i64 1)).run Tryd.prog w = .ok (.int .i64 y) w := fun _ _ _ _ => by kernel_rfl
  have i2 : ∀ x y z w, (Instr.index 89 (.agg #[.int .i64 x, .int .i64 y, .int .i64 z]) (.int .i64 2)).run Tryd.prog w = .ok (.int .i64 z) w := fun _ _ _ _ => by kernel_rfl
  obtain ⟨y1, y2⟩ := okN_whole hy
  rcases okN_parts h with h1 | ⟨h1, h2⟩ <;> clear h hy
  all_goals
    go_enter Tryd.func19, Tryd.ntmps19
    go_wp2
    refine wp_loop_rounds 2 ?_
    rw [rounds_succ]
    go_wp2
    rw [rounds_succ]
    go_wp2
    go_ret
    exact ⟨rfl, (Below.refl _ _).alloc (Nat.le_refl _) _⟩

set_option maxHeartbeats 1000000 in
set_option maxRecDepth 100000 in
theorem fits_no3 (d0 d1 d2 d3 : Int) (w : World) (hy : okN d0 = true) (hz : okN d1 = true) (h : okN d2 = false) :
    Calls Tryd.prog 19 #[.agg #[.int .i64 d0, .int .i64 d1, .int .i64 d2, .int .i64 d3]] w fun e w' => e = .returned (.bool false) ∧ Below w.heap.size w w' := by
  have i0 : ∀ x y z w, (Instr.index 89 (.agg #[.int .i64 x, .int .i64 y, .int .i64 z]) (.int .i64 0)).run Tryd.prog w = .ok (.int .i64 x) w := fun _ _ _ _ => by kernel_rfl
  have i1 : ∀ x y z w, (Instr.index 89 (.agg #[.int .i64 x, .int .i64 y, .int .i64 z]) (.int .i64 1)).run Tryd.prog w = .ok (.int .i64 y) w := fun _ _ _ _ => by kernel_rfl
  have i2 : ∀ x y z w, (Instr.index 89 (.agg #[.int .i64 x, .int .i64 y, .int .i64 z]) (.int .i64 2)).run Tryd.prog w = .ok (.int .i64 z) w := fun _ _ _ _ => by kernel_rfl
  obtain ⟨y1, y2⟩ := okN_whole hy
  obtain ⟨z1, z2⟩ := okN_whole hz
  rcases okN_parts h with h1 | ⟨h1, h2⟩ <;> clear h hy hz
  all_goals
    go_enter Tryd.func19, Tryd.ntmps19
    go_wp2
    refine wp_loop_rounds 3 ?_
    rw [rounds_succ]
    go_wp2
    rw [rounds_succ]
    go_wp2
    rw [rounds_succ]
    go_wp2
    go_ret
    exact ⟨rfl, (Below.refl _ _).alloc (Nat.le_refl _) _⟩

set_option maxHeartbeats 1000000 in
set_option maxRecDepth 100000 in
theorem fits_yes (d0 d1 d2 d3 : Int) (w : World) (hy : okN d0 = true) (hz : okN d1 = true) (h : okN d2 = true) :
    Calls Tryd.prog 19 #[.agg #[.int .i64 d0, .int .i64 d1, .int .i64 d2, .int .i64 d3]] w fun e w' => e = .returned (.bool true) ∧ Below w.heap.size w w' := by
  have i0 : ∀ x y z w, (Instr.index 89 (.agg #[.int .i64 x, .int .i64 y, .int .i64 z]) (.int .i64 0)).run Tryd.prog w = .ok (.int .i64 x) w := fun _ _ _ _ => by kernel_rfl
  have i1 : ∀ x y z w, (Instr.index 89 (.agg #[.int .i64 x, .int .i64 y, .int .i64 z]) (.int .i64 1)).run Tryd.prog w = .ok (.int .i64 y) w := fun _ _ _ _ => by kernel_rfl
  have i2 : ∀ x y z w, (Instr.index 89 (.agg #[.int .i64 x, .int .i64 y, .int .i64 z]) (.int .i64 2)).run Tryd.prog w = .ok (.int .i64 z) w := fun _ _ _ _ => by kernel_rfl
  obtain ⟨y1, y2⟩ := okN_whole hy
  obtain ⟨z1, z2⟩ := okN_whole hz
  obtain ⟨x1, x2⟩ := okN_whole h
  clear h hy hz
  all_goals
    go_enter Tryd.func19, Tryd.ntmps19
    go_wp2
    refine wp_loop_rounds 4 ?_
    rw [rounds_succ]
    go_wp2
    rw [rounds_succ]
    go_wp2
    rw [rounds_succ]
    go_wp2
    rw [rounds_succ]
    go_wp2
    go_ret
    exact ⟨rfl, (Below.refl _ _).alloc (Nat.le_refl _) _⟩

theorem fits_calls (d0 d1 d2 d3 : Int) (w : World) : Calls Tryd.prog 19 #[.agg #[.int .i64 d0, .int .i64 d1, .int .i64 d2, .int .i64 d3]] w fun e w' => e = .returned (.bool (okN d0 && okN d1 && okN d2)) ∧ Below w.heap.size w w' := by
  cases h0 : okN d0 with
  | false => exact fits_no1 d0 d1 d2 d3 w h0
  | true =>
    cases h1 : okN d1 with
    | false => exact fits_no2 d0 d1 d2 d3 w h0 h1
    | true =>
      cases h2 : okN d2 with
      | false => exact fits_no3 d0 d1 d2 d3 w h0 h1 h2
      | true => exact fits_yes d0 d1 d2 d3 w h0 h1 h2
set_option maxHeartbeats 4000000 in
set_option maxRecDepth 100000 in
theorem rlim_calls (F Fs R : Int) (U : Bool) (W : World) : Calls Tryd.prog 20 #[.agg #[.int .i64 F, .int .i64 Fs, .int .i64 R, .bool U]] W (fun e w' => e = .returned (.agg #[.int .i64 F, .int .i64 Fs, .int .i64 R, .int .i64 (if U = true then 1 else 0)]) ∧ Acts (fun _ => False) W w') := by
  cases U with
  | false =>
    go_enter Tryd.func20, Tryd.ntmps20
    go_wp2
    refine bodyPost_ret (results_cell_row rfl _ _ (W.heap.size + 1) 57 #[.int .i64 F, .int .i64 Fs, .int .i64 R, .int .i64 0] (0, 0) _ rfl (blk_alloc (by simpa using heap_alloc_new (W.alloc (.cells #[.int .i64 F, .int .i64 Fs, .int .i64 R, .bool false] 25)) (.cells #[.int .i64 F, .int .i64 Fs, .int .i64 R, .int .i64 0] 57)) _) Tryd.underlying57 rfl (by kernel_rfl)) rfl ?_
    exact ⟨rfl, ((Acts.alloc (fun _ => False) _ _).trans (Acts.alloc (fun _ => False) _ _) (fun _ h => .inl h)).trans (Acts.alloc (fun _ => False) _ _) (fun _ h => .inl h)⟩
  | true =>
    go_enter Tryd.func20, Tryd.ntmps20
    go_wp2
    refine bodyPost_ret (results_cell_row rfl _ _ (W.heap.size + 1) 57 #[.int .i64 F, .int .i64 Fs, .int .i64 R, .int .i64 1] (0, 0) _ rfl (blk_alloc (by simpa using heap_alloc_new (W.alloc (.cells #[.int .i64 F, .int .i64 Fs, .int .i64 R, .bool true] 25)) (.cells #[.int .i64 F, .int .i64 Fs, .int .i64 R, .int .i64 1] 57)) _) Tryd.underlying57 rfl (by kernel_rfl)) rfl ?_
    exact ⟨rfl, ((Acts.alloc (fun _ => False) _ _).trans (Acts.alloc (fun _ => False) _ _) (fun _ h => .inl h)).trans (Acts.alloc (fun _ => False) _ _) (fun _ h => .inl h)⟩
def rightB (de qu en F Fs R : Int) : Bool := (okB (wrap64 de) && okB (wrap64 qu) && (decide (wrap64 de ≠ wrap64 qu) && (decide (en = 1) || (decide (en = 2) || decide (en = 3))))) && (okN F && okN Fs && okN R)
set_option maxHeartbeats 4000000 in
set_option maxRecDepth 100000 in
theorem right_calls (de qu en F Fs R : Int) (U : Bool) (W : World) : Calls Tryd.prog 6 #[.agg #[.int .u8 de, .int .u8 qu, .int .i64 en, .int .i64 F, .int .i64 Fs, .int .i64 R, .bool U]] W (fun e w' => e = .returned (.bool (rightB de qu en F Fs R)) ∧ Acts (fun _ => False) W w') := by
  obtain ⟨W1, hW1⟩ : ∃ W1, W.alloc (.cells #[.int .u8 de, .int .u8 qu, .int .i64 en, .int .i64 F, .int .i64 Fs, .int .i64 R, .bool U] 27) = W1 := ⟨_, rfl⟩
  have hx : W1.heap[W.heap.size]? = some (.cells #[.int .u8 de, .int .u8 qu, .int .i64 en, .int .i64 F, .int .i64 Fs, .int .i64 R, .bool U] 27 (0, 0)) := by rw [← hW1]; simpa using heap_alloc_new W (.cells #[.int .u8 de, .int .u8 qu, .int .i64 en, .int .i64 F, .int .i64 Fs, .int .i64 R, .bool U] 27)
  have hA1 : Acts (fun _ => False) W W1 := by rw [← hW1]; exact Acts.alloc _ _ _
  have x0 := (blk_cell hx 0).trans rfl
  have x1 := (blk_cell hx 1).trans rfl
  have x2 := (blk_cell hx 2).trans rfl
  obtain ⟨b, hb⟩ : ∃ b, (okB (wrap64 de) && okB (wrap64 qu) && (decide (wrap64 de ≠ wrap64 qu) && (decide (en = 1) || (decide (en = 2) || decide (en = 3))))) = b := ⟨_, rfl⟩
  obtain ⟨c, hc⟩ : ∃ c, (okN F && okN Fs && okN R) = c := ⟨_, rfl⟩
  have e : rightB de qu en F Fs R = (b && c) := by unfold rightB; rw [hb, hc]
  rw [e]
  have hr1 := PTopSticky.quillpenlaw01_Ref.calls de qu en (wrap64 de) (wrap64 qu) en W1 rfl
  have hr2 := fun w => quillpenref01_Right.calls (wrap64 de) (wrap64 qu) en b w (by unfold quillpenref01_Right.f; rw [hb])
  have hr3 := fun w => rlim_calls F Fs R U w
  have hr4 := fun w => fits_calls F Fs R (if U = true then 1 else 0) w
  rw [hc] at hr4
  obtain ⟨u, hu⟩ : ∃ u : Int, (if U = true then 1 else 0) = u := ⟨_, rfl⟩
  rw [hu] at hr4
  simp only [hu] at hr3
  clear e hb hc hu
  cases b with
  | false =>
    go_enter Tryd.func6, Tryd.ntmps6
    go_wp2_with (first
      | (go_at_call 17; ((with_reducible refine hr1.mono ?_); rintro e w2 ⟨rfl, hb⟩; have hA2 : Acts (fun _ => False) W1 w2 := Acts.of_below hb; clear hb))
      | (go_at_call 16; ((with_reducible refine (hr2 _).mono ?_); rintro e w3 ⟨rfl, hb⟩; have hA3 : Acts (fun _ => False) w2 w3 := Acts.of_below hb; clear hb)))
    go_ret
    exact ⟨rfl, (hA1.trans hA2 (fun _ h => .inl h)).trans hA3 (fun _ h => .inl h)⟩
  | true =>
    go_enter Tryd.func6, Tryd.ntmps6
    go_wp2_with (first
      | (go_at_call 17; ((with_reducible refine hr1.mono ?_); rintro e w2 ⟨rfl, hb⟩; have hA2 : Acts (fun _ => False) W1 w2 := Acts.of_below hb; clear hb))
      | (go_at_call 16; ((with_reducible refine (hr2 _).mono ?_); rintro e w3 ⟨rfl, hb⟩; have hA3 : Acts (fun _ => False) w2 w3 := Acts.of_below hb; clear hb; have hy := ((hA2.trans hA3 (fun _ h => .inl h)).same _ (blk_lt hx) (fun h => h)).trans hx; have y3 := (blk_cell hy 3).trans rfl; have y4 := (blk_cell hy 4).trans rfl; have y5 := (blk_cell hy 5).trans rfl; have y6 := (blk_cell hy 6).trans rfl))
      | (go_at_call 20; ((with_reducible refine (hr3 _).mono ?_); rintro e w4 ⟨rfl, hA4⟩))
      | (go_at_call 19; ((with_reducible refine (hr4 _).mono ?_); rintro e w5 ⟨rfl, hb⟩; have hA5 : Acts (fun _ => False) w4 w5 := Acts.of_below hb; clear hb)))
    go_ret
    exact ⟨by cases c <;> rfl, (((hA1.trans hA2 (fun _ h => .inl h)).trans hA3 (fun _ h => .inl h)).trans hA4 (fun _ h => .inl h)).trans hA5 (fun _ h => .inl h)⟩
end Go.Proofs.YtmignbhpofmgeaaDoor.Top
