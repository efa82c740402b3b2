/- Contracts of the reference's functions over arrays (Right, column, Close) and small lemmas; written by wip/tools/scan_ext.py. -/
import Derived.Test.YtpejppnkdaiilaaProg
import Derived.Below
import Derived.Deep.Draws
import Derived.Deep.AppendLies
import Derived.Maps.AppendAt
import Derived.OwnWalk
import Derived.Laws.BytesArg
import Derived.Laws.MakeOwn
import Derived.Laws.OwnMore
import Derived.Deep.OwnRows
import Derived.Tactics
import Derived.Lib.ConvBytes
import Derived.Laws.Slices
import Derived.WalkKit
import Derived.KernelRfl
import Derived.RowKit3
import Derived.Deep.LoopGhost
import Derived.Deep.QuietTactic
import Derived.BigQuiet
import Derived.WideLaws
import Derived.Deep.DeepCutAuto
import Derived.Deep.CutBlock
import Derived.Deep.RegionHeld3
import Derived.Laws.Rows
import Derived.Lib.AppendStr
import Derived.ArgAppend
import Derived.Laws.IdiomCopy
import Derived.OrdersHeld
import Derived.Laws.BitsLemmas
import Derived.RowKit
import Derived.Test.YtpejppnkdaiilaaWWords
import Derived.Test.YtpejppnkdaiilaaWLast
import Derived.Test.YtpejppnkdaiilaaWTab
import Derived.Test.YtpejppnkdaiilaaWFour
import Derived.Test.YtpejppnkdaiilaaWQPut
import Derived.Test.YtpejppnkdaiilaaWApart
import Derived.Test.YtpejppnkdaiilaaWArr
import Derived.Test.YtpejppnkdaiilaaWZeros
import Derived.Test.YtpejppnkdaiilaaWFoot
import Derived.Test.YtpejppnkdaiilaaWKept
import Derived.Test.YtpejppnkdaiilaaWShare
import Derived.Test.YtpejppnkdaiilaaWN
import Derived.Test.YtpejppnkdaiilaaWFootNe
import Derived.Test.YtpejppnkdaiilaaWAt
import Derived.Test.YtpejppnkdaiilaaWEqStruct
import Derived.Test.YtpejppnkdaiilaaWRepsOne
import Derived.Test.YtpejppnkdaiilaaWInv
import Derived.Test.YtpejppnkdaiilaaWInvWords
import Derived.Test.YtpejppnkdaiilaaWGuard
import Derived.Test.YtpejppnkdaiilaaWNEv
import Derived.Test.YtpejppnkdaiilaaWMore
import Derived.RegionTactic
import Derived.ChangeAlike
import Derived.LoopN
import Derived.Deep.WholeRow
namespace Go.Proofs.Ytpejppnkdaiilaa.Ext
open Go.RowKit Go.Proofs.YtpejppnkdaiilaaW.PrintWords Go.Proofs.YtpejppnkdaiilaaW.PrintLast Go.Proofs.YtpejppnkdaiilaaW.PrintMore
set_option linter.unusedVariables false
set_option linter.unusedSimpArgs false
attribute [local go_sem] max2_int min2_int max_two min_two max_three min_three max_four min_four
def quillpenref04_column.f (a0_0 : Int) (a0_1 : Int) (a0_2 : Int) (a1 : Int) : Option (Int) := if a1 = a0_1 then (some 0) else (if a1 = a0_0 then (some 1) else (if a1 = 13 then (some 2) else (if a1 = 10 then (some 3) else (some 4))))
set_option maxHeartbeats 1000000 in
set_option maxRecDepth 100000 in
theorem quillpenref04_column.calls (a0_0 : Int) (a0_1 : Int) (a0_2 : Int) (a1 : Int) (r : Int) (w : World) (h : quillpenref04_column.f a0_0 a0_1 a0_2 a1 = some r) :
    Calls Try.prog 18 #[.agg #[.int .i64 a0_0, .int .i64 a0_1, .int .i64 a0_2], .int .i64 a1] w fun e w' => e = .returned (.int .i64 r) ∧ Below w.heap.size w w' := by
  unfold quillpenref04_column.f at h
  by_cases c0 : a1 = a0_1
  · rw [if_pos c0] at h
    obtain rfl := Option.some.inj h
    have b0 : (a1 == a0_1) = true := beq_iff_eq.mpr c0
    clear c0 h
    go_enter Try.func18, Try.ntmps18
    go_wp2
    go_ret
    exact ⟨rfl, (Below.refl _ _).alloc (Nat.le_refl _) _⟩
  rw [if_neg c0] at h
  have b0 : (a1 == a0_1) = false := beq_eq_false_iff_ne.mpr c0
  by_cases c1 : a1 = a0_0
  · rw [if_pos c1] at h
    obtain rfl := Option.some.inj h
    have b1 : (a1 == a0_0) = true := beq_iff_eq.mpr c1
    clear c0 c1 h
    go_enter Try.func18, Try.ntmps18
    go_wp2
    go_ret
    exact ⟨rfl, (Below.refl _ _).alloc (Nat.le_refl _) _⟩
  rw [if_neg c1] at h
  have b1 : (a1 == a0_0) = false := beq_eq_false_iff_ne.mpr c1
  by_cases c2 : a1 = 13
  · rw [if_pos c2] at h
    obtain rfl := Option.some.inj h
    have b2 : (a1 == 13) = true := beq_iff_eq.mpr c2
    clear c0 c1 c2 h
    go_enter Try.func18, Try.ntmps18
    go_wp2
    go_ret
    exact ⟨rfl, (Below.refl _ _).alloc (Nat.le_refl _) _⟩
  rw [if_neg c2] at h
  have b2 : (a1 == 13) = false := beq_eq_false_iff_ne.mpr c2
  by_cases c3 : a1 = 10
  · rw [if_pos c3] at h
    obtain rfl := Option.some.inj h
    have b3 : (a1 == 10) = true := beq_iff_eq.mpr c3
    clear c0 c1 c2 c3 h
    go_enter Try.func18, Try.ntmps18
    go_wp2
    go_ret
    exact ⟨rfl, (Below.refl _ _).alloc (Nat.le_refl _) _⟩
  · rw [if_neg c3] at h
    obtain rfl := Option.some.inj h
    have b3 : (a1 == 10) = false := beq_eq_false_iff_ne.mpr c3
    clear c0 c1 c2 c3 h
    go_enter Try.func18, Try.ntmps18
    go_wp2
    go_ret
    exact ⟨rfl, (Below.refl _ _).alloc (Nat.le_refl _) _⟩
/-- A byte that may part or quote fields, as the reference asks it. -/
def okB (b : Int) : Bool := decide (0 ≤ b) && decide (b ≤ 127) && decide (b ≠ 10) && decide (b ≠ 13)
def quillpenref01_Right.f (a0_0 : Int) (a0_1 : Int) (a0_2 : Int) : Option Bool := some (okB a0_0 && okB a0_1 && (decide (a0_0 ≠ a0_1) && (decide (a0_2 = 1) || (decide (a0_2 = 2) || decide (a0_2 = 3)))))
theorem okB_parts {b : Int} (h : okB b = false) : b < 0 ∨ (¬ b < 0 ∧ 127 < b) ∨ (¬ b < 0 ∧ ¬ 127 < b ∧ (b == 10) = true) ∨ (¬ b < 0 ∧ ¬ 127 < b ∧ (b == 10) = false ∧ (b == 13) = true) := by
  unfold okB at h
  by_cases h1 : b < 0
  · exact .inl h1
  by_cases h2 : 127 < b
  · exact .inr (.inl ⟨h1, h2⟩)
  by_cases h3 : b = 10
  · exact .inr (.inr (.inl ⟨h1, h2, by simp [h3]⟩))
  by_cases h4 : b = 13
  · exact .inr (.inr (.inr ⟨h1, h2, by simp [h3], by simp [h4]⟩))
  · exfalso
    have a : decide (0 ≤ b) = true := by simp; omega
    have c : decide (b ≤ 127) = true := by simp; omega
    simp [a, c, h3, h4] at h
theorem okB_whole {b : Int} (h : okB b = true) : ¬ b < 0 ∧ ¬ 127 < b ∧ (b == 10) = false ∧ (b == 13) = false := by
  unfold okB at h
  simp at h
  obtain ⟨⟨⟨h1, h2⟩, h3⟩, h4⟩ := h
  exact ⟨by omega, by omega, by simp [h3], by simp [h4]⟩
set_option maxHeartbeats 1000000 in
set_option maxRecDepth 100000 in
theorem right_no1 (d0 d1 d2 : Int) (w : World) (h : okB d0 = false) :
    Calls Try.prog 7 #[.agg #[.int .i64 d0, .int .i64 d1, .int .i64 d2]] w fun e w' => e = .returned (.bool false) ∧ Below w.heap.size w w' := by
  have i0 : ∀ x y w, (Instr.index 51 (.agg #[.int .i64 x, .int .i64 y]) (.int .i64 0)).run Try.prog w = .ok (.int .i64 x) w := fun _ _ _ => by kernel_rfl
  have i1 : ∀ x y w, (Instr.index 51 (.agg #[.int .i64 x, .int .i64 y]) (.int .i64 1)).run Try.prog w = .ok (.int .i64 y) w := fun _ _ _ => by kernel_rfl
  rcases okB_parts h with h1 | ⟨h1, h2⟩ | ⟨h1, h2, h3⟩ | ⟨h1, h2, h3, h4⟩ <;> clear h
  all_goals
    go_enter Try.func7, Try.ntmps7
    go_wp2
    refine wp_loop_rounds 1 ?_
    rw [rounds_succ]
    go_wp2
    go_ret
    exact ⟨rfl, (Below.refl _ _).alloc (Nat.le_refl _) _⟩

set_option maxHeartbeats 1000000 in
set_option maxRecDepth 100000 in
theorem right_no2 (d0 d1 d2 : Int) (w : World) (hy : okB d0 = true) (h : okB d1 = false) :
    Calls Try.prog 7 #[.agg #[.int .i64 d0, .int .i64 d1, .int .i64 d2]] w fun e w' => e = .returned (.bool false) ∧ Below w.heap.size w w' := by
  have i0 : ∀ x y w, (Instr.index 51 (.agg #[.int .i64 x, .int .i64 y]) (.int .i64 0)).run Try.prog w = .ok (.int .i64 x) w := fun _ _ _ => by kernel_rfl
  have i1 : ∀ x y w, (Instr.index 51 (.agg #[.int .i64 x, .int .i64 y]) (.int .i64 1)).run Try.prog w = .ok (.int .i64 y) w := fun _ _ _ => by kernel_rfl
  obtain ⟨y1, y2, y3, y4⟩ := okB_whole hy
  rcases okB_parts h with h1 | ⟨h1, h2⟩ | ⟨h1, h2, h3⟩ | ⟨h1, h2, h3, h4⟩ <;> clear h hy
  all_goals
    go_enter Try.func7, Try.ntmps7
    go_wp2
    refine wp_loop_rounds 2 ?_
    rw [rounds_succ]
    go_wp2
    rw [rounds_succ]
    go_wp2
    go_ret
    exact ⟨rfl, (Below.refl _ _).alloc (Nat.le_refl _) _⟩

set_option maxHeartbeats 1000000 in
set_option maxRecDepth 100000 in
theorem right_yes (d0 d1 d2 : Int) (w : World) (hy : okB d0 = true) (hz : okB d1 = true) :
    Calls Try.prog 7 #[.agg #[.int .i64 d0, .int .i64 d1, .int .i64 d2]] w fun e w' => e = .returned (.bool (decide (d0 ≠ d1) && (decide (d2 = 1) || (decide (d2 = 2) || decide (d2 = 3))))) ∧ Below w.heap.size w w' := by
  have i0 : ∀ x y w, (Instr.index 51 (.agg #[.int .i64 x, .int .i64 y]) (.int .i64 0)).run Try.prog w = .ok (.int .i64 x) w := fun _ _ _ => by kernel_rfl
  have i1 : ∀ x y w, (Instr.index 51 (.agg #[.int .i64 x, .int .i64 y]) (.int .i64 1)).run Try.prog w = .ok (.int .i64 y) w := fun _ _ _ => by kernel_rfl
  obtain ⟨y1, y2, y3, y4⟩ := okB_whole hy
  obtain ⟨z1, z2, z3, z4⟩ := okB_whole hz
  clear hy hz
  by_cases e0 : d0 = d1
  · have e1 : (d0 != d1) = false := by simp [e0]
    rw [show (decide (d0 ≠ d1) && (decide (d2 = 1) || (decide (d2 = 2) || decide (d2 = 3)))) = false from by simp [e0]]
    clear e0
    go_enter Try.func7, Try.ntmps7
    go_wp2
    refine wp_loop_rounds 3 ?_
    rw [rounds_succ]
    go_wp2
    rw [rounds_succ]
    go_wp2
    rw [rounds_succ]
    go_wp2
    go_ret
    exact ⟨rfl, (Below.refl _ _).alloc (Nat.le_refl _) _⟩
  have e1 : (d0 != d1) = true := by simp [e0]
  by_cases g1 : d2 = 1
  · have k1 : (d2 == 1) = true := by simp [g1]
    rw [show (decide (d0 ≠ d1) && (decide (d2 = 1) || (decide (d2 = 2) || decide (d2 = 3)))) = true from by simp [e0, g1]]
    clear e0 g1
    go_enter Try.func7, Try.ntmps7
    go_wp2
    refine wp_loop_rounds 3 ?_
    rw [rounds_succ]
    go_wp2
    rw [rounds_succ]
    go_wp2
    rw [rounds_succ]
    go_wp2
    go_ret
    exact ⟨rfl, (Below.refl _ _).alloc (Nat.le_refl _) _⟩
  have k1 : (d2 == 1) = false := by simp [g1]
  by_cases g2 : d2 = 2
  · have k2 : (d2 == 2) = true := by simp [g2]
    rw [show (decide (d0 ≠ d1) && (decide (d2 = 1) || (decide (d2 = 2) || decide (d2 = 3)))) = true from by simp [e0, g2]]
    clear e0 g1 g2
    go_enter Try.func7, Try.ntmps7
    go_wp2
    refine wp_loop_rounds 3 ?_
    rw [rounds_succ]
    go_wp2
    rw [rounds_succ]
    go_wp2
    rw [rounds_succ]
    go_wp2
    go_ret
    exact ⟨rfl, (Below.refl _ _).alloc (Nat.le_refl _) _⟩
  have k2 : (d2 == 2) = false := by simp [g2]
  by_cases g3 : d2 = 3
  · have k3 : (d2 == 3) = true := by simp [g3]
    rw [show (decide (d0 ≠ d1) && (decide (d2 = 1) || (decide (d2 = 2) || decide (d2 = 3)))) = true from by simp [e0, g3]]
    clear e0 g1 g2 g3
    go_enter Try.func7, Try.ntmps7
    go_wp2
    refine wp_loop_rounds 3 ?_
    rw [rounds_succ]
    go_wp2
    rw [rounds_succ]
    go_wp2
    rw [rounds_succ]
    go_wp2
    go_ret
    exact ⟨rfl, (Below.refl _ _).alloc (Nat.le_refl _) _⟩
  · have k3 : (d2 == 3) = false := by simp [g3]
    rw [show (decide (d0 ≠ d1) && (decide (d2 = 1) || (decide (d2 = 2) || decide (d2 = 3)))) = false from by simp [g1, g2, g3]]
    clear e0 g1 g2 g3
    go_enter Try.func7, Try.ntmps7
    go_wp2
    refine wp_loop_rounds 3 ?_
    rw [rounds_succ]
    go_wp2
    rw [rounds_succ]
    go_wp2
    rw [rounds_succ]
    go_wp2
    go_ret
    exact ⟨rfl, (Below.refl _ _).alloc (Nat.le_refl _) _⟩

theorem quillpenref01_Right.calls (a0_0 : Int) (a0_1 : Int) (a0_2 : Int) (r : Bool) (w : World) (h : quillpenref01_Right.f a0_0 a0_1 a0_2 = some r) :
    Calls Try.prog 7 #[.agg #[.int .i64 a0_0, .int .i64 a0_1, .int .i64 a0_2]] w fun e w' => e = .returned (.bool r) ∧ Below w.heap.size w w' := by
  obtain rfl := Option.some.inj h
  cases h0 : okB a0_0 with
  | false => simpa using right_no1 a0_0 a0_1 a0_2 w h0
  | true =>
    cases h1 : okB a0_1 with
    | false => simpa using right_no2 a0_0 a0_1 a0_2 w h0 h1
    | true =>
      have := right_yes a0_0 a0_1 a0_2 w h0 h1
      rw [Bool.true_and, Bool.true_and]
      exact this
def quillpenref04_Close.f (a0 : Int) : Option (Int × Int × Int × Int × Int × Int × Int) :=
  if a0 = 0 then some (0, 0, 0, 0, 0, 0, 0) else if a0 = 1 then some (0, 0, 0, 1, 1, 0, 0) else if a0 = 2 then some (0, 0, 0, 1, 1, 0, 0) else if a0 = 3 then some (0, 0, 0, 0, 0, 0, 11)
  else if a0 = 4 then some (0, 0, 0, 1, 1, 0, 0) else if a0 = 5 then some (0, 0, 0, 0, 0, 0, 6) else if a0 = 6 then some (0, 0, 0, 0, 0, 0, 6) else none
set_option maxHeartbeats 1000000 in
set_option maxRecDepth 100000 in
theorem quillpenref04_Close.calls (a0 : Int) (r1 : Int) (r2 : Int) (r3 : Int) (r4 : Int) (r5 : Int) (r6 : Int) (r7 : Int) (w : World) (h : quillpenref04_Close.f a0 = some (r1, r2, r3, r4, r5, r6, r7)) :
    Calls Try.prog 14 #[.int .i64 a0] w fun e w' => e = .returned (.tuple #[.agg #[.int .i64 r1, .int .i64 r2, .int .i64 r3, .int .i64 r4, .int .i64 r5, .int .i64 r6], .int .i64 r7]) ∧ Below w.heap.size w w' := by
  have i0 : ∀ w, (Instr.index 54 (.agg #[.int .i64 0, .int .i64 0, .int .i64 0, .int .i64 11, .int .i64 0, .int .i64 6, .int .i64 6]) (.int .i64 0)).run Try.prog w = .ok (.int .i64 0) w := fun _ => by kernel_rfl
  have i1 : ∀ w, (Instr.index 54 (.agg #[.int .i64 0, .int .i64 0, .int .i64 0, .int .i64 11, .int .i64 0, .int .i64 6, .int .i64 6]) (.int .i64 1)).run Try.prog w = .ok (.int .i64 0) w := fun _ => by kernel_rfl
  have i2 : ∀ w, (Instr.index 54 (.agg #[.int .i64 0, .int .i64 0, .int .i64 0, .int .i64 11, .int .i64 0, .int .i64 6, .int .i64 6]) (.int .i64 2)).run Try.prog w = .ok (.int .i64 0) w := fun _ => by kernel_rfl
  have i3 : ∀ w, (Instr.index 54 (.agg #[.int .i64 0, .int .i64 0, .int .i64 0, .int .i64 11, .int .i64 0, .int .i64 6, .int .i64 6]) (.int .i64 3)).run Try.prog w = .ok (.int .i64 11) w := fun _ => by kernel_rfl
  have i4 : ∀ w, (Instr.index 54 (.agg #[.int .i64 0, .int .i64 0, .int .i64 0, .int .i64 11, .int .i64 0, .int .i64 6, .int .i64 6]) (.int .i64 4)).run Try.prog w = .ok (.int .i64 0) w := fun _ => by kernel_rfl
  have i5 : ∀ w, (Instr.index 54 (.agg #[.int .i64 0, .int .i64 0, .int .i64 0, .int .i64 11, .int .i64 0, .int .i64 6, .int .i64 6]) (.int .i64 5)).run Try.prog w = .ok (.int .i64 6) w := fun _ => by kernel_rfl
  have i6 : ∀ w, (Instr.index 54 (.agg #[.int .i64 0, .int .i64 0, .int .i64 0, .int .i64 11, .int .i64 0, .int .i64 6, .int .i64 6]) (.int .i64 6)).run Try.prog w = .ok (.int .i64 6) w := fun _ => by kernel_rfl
  unfold quillpenref04_Close.f at h
  repeat' split at h
  all_goals first
    | (simp at h; done)
    | (subst_vars
       simp only [Option.some.injEq, Prod.mk.injEq] at h
       obtain ⟨rfl, rfl, rfl, rfl, rfl, rfl, rfl⟩ := h
       go_enter Try.func14, Try.ntmps14
       go_wp2
       go_region
       all_goals go_wp2
       all_goals refine bodyPost_ret (v := .tuple #[.agg #[_, _, _, _, _, _], _]) (by simp [results, Try.results14, go_sem]) rfl ⟨rfl, ?_⟩
       all_goals repeat (first | exact Below.refl _ _ | (with_reducible first | refine Below.drew ?_ | refine Below.setCell ?_ (by simp) _ | refine Below.alloc ?_ (by simp) _)))

/-- What stands behind the call of column: the two boxes that were laid ahead of it. -/
theorem behind (w w1 : World) (d0 d1 d2 : Int) (hb : Below ((w.alloc (.cells #[.int .i64 d0, .int .i64 d1, .int .i64 d2] 26)).alloc (.cells #[.int .i64 0, .int .i64 0, .int .i64 0, .int .i64 0, .int .i64 0, .int .i64 0] 35)).heap.size ((w.alloc (.cells #[.int .i64 d0, .int .i64 d1, .int .i64 d2] 26)).alloc (.cells #[.int .i64 0, .int .i64 0, .int .i64 0, .int .i64 0, .int .i64 0, .int .i64 0] 35)) w1) :
    w1.heap[w.heap.size]? = some (.cells #[.int .i64 d0, .int .i64 d1, .int .i64 d2] 26 (0, 0)) ∧ w1.heap[w.heap.size + 1]? = some (.cells #[.int .i64 0, .int .i64 0, .int .i64 0, .int .i64 0, .int .i64 0, .int .i64 0] 35 (0, 0)) ∧ w.heap.size + 2 ≤ w1.heap.size ∧ Below w.heap.size w w1 := by
  have hs := hb.size
  simp at hs
  refine ⟨blk_below (blk_alloc (blk_new w _) _) hb, blk_below ?_ hb, by omega, ((((Below.refl _ w).alloc (Nat.le_refl _) _).alloc (by simp) _).trans (hb.mono (by simp; omega)))⟩
  have := blk_new (w.alloc (.cells #[.int .i64 d0, .int .i64 d1, .int .i64 d2] 26)) (.cells #[.int .i64 0, .int .i64 0, .int .i64 0, .int .i64 0, .int .i64 0, .int .i64 0] 35)
  rwa [World.size_alloc] at this
theorem gen_world {P : Program} {c : Code} {Q : Exit → Act → World → Prop} {a : Act} (w : World) (R : World → Prop) (hR : R w) (h : ∀ W, R W → Code.wp P c Q a W) : Code.wp P c Q a w := h w hR
theorem alloc_store {P : Program} {ops : Array Oper} {Q : Exit → Act → World → Prop} {rest : List Oper} {o1 o2 : Oper} {a : Act} {w : World} (T : TypeId) (N : Tmp) (zs cells : Array Value) (y : Operand)
    (hg1 : o1.guard = none) (hg2 : o2.guard = none) (ho1 : o1.op = .alloc T) (hd1 : o1.dst = some N) (ho2 : o2.op = .store T (.tmp N) y) (hd2 : o2.dst = none)
    (hz : ∀ w, (zeroValue T).run P w = .ok (.agg zs) w) (hi : (P.info? T).map (·.size) = some cells.size) (ho : zs.size = cells.size) (h1 : cells.all (·.oneCell') = true)
    (hx : (a.put (some N) (.pointer (some ⟨w.heap.size, 0, none⟩))).eval (.tmp N) = .pointer (some ⟨w.heap.size, 0, none⟩)) (hy : (a.put (some N) (.pointer (some ⟨w.heap.size, 0, none⟩))).eval y = .agg cells)
    (h : wpList P ops Q rest (a.put (some N) (.pointer (some ⟨w.heap.size, 0, none⟩))) (w.alloc (.cells cells T))) : wpList P ops Q (o1 :: o2 :: rest) a w := by
  refine Kd.event_run (v := .pointer (some ⟨w.heap.size, 0, none⟩)) (w1 := w.alloc (.cells zs T)) hg1 (by simp [execOp, ho1, Instr.alloc, newVar, hz, go_sem]) ?_
  rw [hd1]
  refine wpList_store_row hg2 T (.tmp N) y ho2 w.heap.size cells hx hy T zs (blk_new w _) hi ho h1 ?_
  rw [hd2, World.setRow_alloc_new]
  exact h
theorem below_setRow {w W : World} (h : Below w.heap.size w W) {g : Nat} (hg : w.heap.size ≤ g) (cs : Array Value) : Below w.heap.size w (W.setRow g cs) :=
  ⟨by simpa using h.os, by simpa using h.tape, by simpa using h.output, by simpa using h.size, fun k hk => (setRow_other W g k cs (by omega)).trans (h.block k hk)⟩
theorem blk_new_at (w : World) (o : Obj) (n : Nat) (hn : n = w.heap.size) : (w.alloc o).heap[n]? = some o := by subst hn; exact blk_new w o
def zero6 : Array Value := #[.int .i64 0, .int .i64 0, .int .i64 0, .int .i64 0, .int .i64 0, .int .i64 0]
def z35 : Array Value := #[.int .i64 0, .int .i64 0, .int .i64 0, .int .i64 0, .int .i64 0, .int .i64 0, .int .i64 0, .int .i64 0, .int .i64 0, .int .i64 0, .int .i64 0, .int .i64 0, .int .i64 0, .int .i64 0, .int .i64 0, .int .i64 0, .int .i64 0, .int .i64 0, .int .i64 0, .int .i64 0, .int .i64 0, .int .i64 0, .int .i64 0, .int .i64 0, .int .i64 0, .int .i64 0, .int .i64 0, .int .i64 0, .int .i64 0, .int .i64 0, .int .i64 0, .int .i64 0, .int .i64 0, .int .i64 0, .int .i64 0]
theorem cells3 {W : World} {g : Nat} {t : TypeId} {v0 v1 v2 : Value} (h : W.heap[g]? = some (.cells #[v0, v1, v2] t (0, 0))) : W.cell? ⟨g, 0, none⟩ = some v0 ∧ W.cell? ⟨g, 1, none⟩ = some v1 ∧ W.cell? ⟨g, 2, none⟩ = some v2 :=
  ⟨(blk_cell h 0).trans rfl, (blk_cell h 1).trans rfl, (blk_cell h 2).trans rfl⟩
theorem cells6 {W : World} {g : Nat} {t : TypeId} {v0 v1 v2 v3 v4 v5 : Value} (h : W.heap[g]? = some (.cells #[v0, v1, v2, v3, v4, v5] t (0, 0))) : W.cell? ⟨g, 0, none⟩ = some v0 ∧ W.cell? ⟨g, 1, none⟩ = some v1 ∧ W.cell? ⟨g, 2, none⟩ = some v2 ∧ W.cell? ⟨g, 3, none⟩ = some v3 ∧ W.cell? ⟨g, 4, none⟩ = some v4 ∧ W.cell? ⟨g, 5, none⟩ = some v5 ∧ W.frozen? ⟨g, 0, none⟩ = false ∧ W.frozen? ⟨g, 1, none⟩ = false ∧ W.frozen? ⟨g, 2, none⟩ = false ∧ W.frozen? ⟨g, 3, none⟩ = false ∧ W.frozen? ⟨g, 4, none⟩ = false ∧ W.frozen? ⟨g, 5, none⟩ = false :=
  ⟨(blk_cell h 0).trans rfl, (blk_cell h 1).trans rfl, (blk_cell h 2).trans rfl, (blk_cell h 3).trans rfl, (blk_cell h 4).trans rfl, (blk_cell h 5).trans rfl, blk_frozen h 0, blk_frozen h 1, blk_frozen h 2, blk_frozen h 3, blk_frozen h 4, blk_frozen h 5⟩
theorem cells7 {W : World} {g : Nat} {t : TypeId} {v0 v1 v2 v3 v4 v5 v6 : Value} (h : W.heap[g]? = some (.cells #[v0, v1, v2, v3, v4, v5, v6] t (0, 0))) : W.cell? ⟨g, 0, none⟩ = some v0 ∧ W.cell? ⟨g, 1, none⟩ = some v1 ∧ W.cell? ⟨g, 2, none⟩ = some v2 ∧ W.cell? ⟨g, 3, none⟩ = some v3 ∧ W.cell? ⟨g, 4, none⟩ = some v4 ∧ W.cell? ⟨g, 5, none⟩ = some v5 ∧ W.cell? ⟨g, 6, none⟩ = some v6 :=
  ⟨(blk_cell h 0).trans rfl, (blk_cell h 1).trans rfl, (blk_cell h 2).trans rfl, (blk_cell h 3).trans rfl, (blk_cell h 4).trans rfl, (blk_cell h 5).trans rfl, (blk_cell h 6).trans rfl⟩
theorem six {W : World} {g : Nat} {t : TypeId} {o0 o1 o2 o3 o4 o5 v0 v1 v2 v3 v4 v5 : Value} (h : W.heap[g]? = some (.cells #[o0, o1, o2, o3, o4, o5] t (0, 0))) :
    ((((((W.setCell ⟨g, 0, none⟩ v0).setCell ⟨g, 1, none⟩ v1).setCell ⟨g, 2, none⟩ v2).setCell ⟨g, 3, none⟩ v3).setCell ⟨g, 4, none⟩ v4).setCell ⟨g, 5, none⟩ v5).heap[g]? = some (.cells #[v0, v1, v2, v3, v4, v5] t (0, 0)) := by
  refine blk_put (cs := #[v0, v1, v2, v3, v4, o5]) ?_ 5 _ rfl
  refine blk_put (cs := #[v0, v1, v2, v3, o4, o5]) ?_ 4 _ rfl
  refine blk_put (cs := #[v0, v1, v2, o3, o4, o5]) ?_ 3 _ rfl
  refine blk_put (cs := #[v0, v1, o2, o3, o4, o5]) ?_ 2 _ rfl
  refine blk_put (cs := #[v0, o1, o2, o3, o4, o5]) ?_ 1 _ rfl
  refine blk_put (cs := #[o0, o1, o2, o3, o4, o5]) ?_ 0 _ rfl
  exact h
theorem build_zero (w : World) : (Instr.build 55 #[(0, .agg #[.int .i64 0, .int .i64 0, .int .i64 0, .int .i64 0, .int .i64 0, .int .i64 0, .int .i64 0]), (1, .agg #[.int .i64 0, .int .i64 0, .int .i64 0, .int .i64 0, .int .i64 0, .int .i64 0, .int .i64 0]), (2, .agg #[.int .i64 0, .int .i64 0, .int .i64 0, .int .i64 0, .int .i64 0, .int .i64 0, .int .i64 0]), (3, .agg #[.int .i64 0, .int .i64 0, .int .i64 0, .int .i64 0, .int .i64 0, .int .i64 0, .int .i64 0]), (4, .agg #[.int .i64 0, .int .i64 0, .int .i64 0, .int .i64 0, .int .i64 0, .int .i64 0, .int .i64 0])]).run Try.prog w = .ok (.agg z35) w := run_build w _ _ _ (by kernel_rfl)
def tab0 : Array Value := #[.int .i64 1, .int .i64 0, .int .i64 0, .int .i64 0, .int .i64 0, .int .i64 3, .int .i64 0, .int .i64 1, .int .i64 0, .int .i64 1, .int .i64 0, .int .i64 0, .int .i64 1, .int .i64 0, .int .i64 0, .int .i64 0, .int .i64 0, .int .i64 0, .int .i64 0, .int .i64 6, .int .i64 0, .int .i64 0, .int .i64 0, .int .i64 0, .int .i64 0, .int .i64 0, .int .i64 0, .int .i64 0, .int .i64 1, .int .i64 1, .int .i64 0, .int .i64 0, .int .i64 0, .int .i64 2, .int .i64 0]
theorem build_tab0 (w : World) : (Instr.build 55 #[(0, .agg #[.int .i64 1, .int .i64 0, .int .i64 0, .int .i64 0, .int .i64 0, .int .i64 3, .int .i64 0]), (1, .agg #[.int .i64 1, .int .i64 0, .int .i64 1, .int .i64 0, .int .i64 0, .int .i64 1, .int .i64 0]), (2, .agg #[.int .i64 0, .int .i64 0, .int .i64 0, .int .i64 0, .int .i64 0, .int .i64 6, .int .i64 0]), (3, .agg #[.int .i64 0, .int .i64 0, .int .i64 0, .int .i64 0, .int .i64 0, .int .i64 0, .int .i64 0]), (4, .agg #[.int .i64 1, .int .i64 1, .int .i64 0, .int .i64 0, .int .i64 0, .int .i64 2, .int .i64 0])]).run Try.prog w = .ok (.agg tab0) w := run_build w _ _ _ (by kernel_rfl)
def tab1 : Array Value := #[.int .i64 0, .int .i64 0, .int .i64 0, .int .i64 0, .int .i64 0, .int .i64 3, .int .i64 0, .int .i64 0, .int .i64 0, .int .i64 1, .int .i64 0, .int .i64 0, .int .i64 1, .int .i64 0, .int .i64 0, .int .i64 0, .int .i64 0, .int .i64 1, .int .i64 0, .int .i64 5, .int .i64 0, .int .i64 0, .int .i64 0, .int .i64 0, .int .i64 1, .int .i64 1, .int .i64 0, .int .i64 0, .int .i64 0, .int .i64 1, .int .i64 0, .int .i64 0, .int .i64 0, .int .i64 2, .int .i64 0]
theorem build_tab1 (w : World) : (Instr.build 55 #[(0, .agg #[.int .i64 0, .int .i64 0, .int .i64 0, .int .i64 0, .int .i64 0, .int .i64 3, .int .i64 0]), (1, .agg #[.int .i64 0, .int .i64 0, .int .i64 1, .int .i64 0, .int .i64 0, .int .i64 1, .int .i64 0]), (2, .agg #[.int .i64 0, .int .i64 0, .int .i64 0, .int .i64 1, .int .i64 0, .int .i64 5, .int .i64 0]), (3, .agg #[.int .i64 0, .int .i64 0, .int .i64 0, .int .i64 1, .int .i64 1, .int .i64 0, .int .i64 0]), (4, .agg #[.int .i64 0, .int .i64 1, .int .i64 0, .int .i64 0, .int .i64 0, .int .i64 2, .int .i64 0])]).run Try.prog w = .ok (.agg tab1) w := run_build w _ _ _ (by kernel_rfl)
def tab2 : Array Value := #[.int .i64 0, .int .i64 0, .int .i64 0, .int .i64 0, .int .i64 0, .int .i64 0, .int .i64 4, .int .i64 0, .int .i64 0, .int .i64 1, .int .i64 0, .int .i64 0, .int .i64 1, .int .i64 0, .int .i64 0, .int .i64 0, .int .i64 0, .int .i64 1, .int .i64 0, .int .i64 5, .int .i64 0, .int .i64 0, .int .i64 0, .int .i64 0, .int .i64 1, .int .i64 1, .int .i64 0, .int .i64 0, .int .i64 0, .int .i64 1, .int .i64 0, .int .i64 0, .int .i64 0, .int .i64 2, .int .i64 0]
theorem build_tab2 (w : World) : (Instr.build 55 #[(0, .agg #[.int .i64 0, .int .i64 0, .int .i64 0, .int .i64 0, .int .i64 0, .int .i64 0, .int .i64 4]), (1, .agg #[.int .i64 0, .int .i64 0, .int .i64 1, .int .i64 0, .int .i64 0, .int .i64 1, .int .i64 0]), (2, .agg #[.int .i64 0, .int .i64 0, .int .i64 0, .int .i64 1, .int .i64 0, .int .i64 5, .int .i64 0]), (3, .agg #[.int .i64 0, .int .i64 0, .int .i64 0, .int .i64 1, .int .i64 1, .int .i64 0, .int .i64 0]), (4, .agg #[.int .i64 0, .int .i64 1, .int .i64 0, .int .i64 0, .int .i64 0, .int .i64 2, .int .i64 0])]).run Try.prog w = .ok (.agg tab2) w := run_build w _ _ _ (by kernel_rfl)
def tab3 : Array Value := #[.int .i64 0, .int .i64 0, .int .i64 0, .int .i64 0, .int .i64 0, .int .i64 4, .int .i64 0, .int .i64 0, .int .i64 1, .int .i64 0, .int .i64 0, .int .i64 0, .int .i64 3, .int .i64 0, .int .i64 0, .int .i64 1, .int .i64 0, .int .i64 0, .int .i64 0, .int .i64 3, .int .i64 0, .int .i64 0, .int .i64 1, .int .i64 0, .int .i64 0, .int .i64 0, .int .i64 3, .int .i64 0, .int .i64 0, .int .i64 1, .int .i64 0, .int .i64 0, .int .i64 0, .int .i64 3, .int .i64 0]
theorem build_tab3 (w : World) : (Instr.build 55 #[(0, .agg #[.int .i64 0, .int .i64 0, .int .i64 0, .int .i64 0, .int .i64 0, .int .i64 4, .int .i64 0]), (1, .agg #[.int .i64 0, .int .i64 1, .int .i64 0, .int .i64 0, .int .i64 0, .int .i64 3, .int .i64 0]), (2, .agg #[.int .i64 0, .int .i64 1, .int .i64 0, .int .i64 0, .int .i64 0, .int .i64 3, .int .i64 0]), (3, .agg #[.int .i64 0, .int .i64 1, .int .i64 0, .int .i64 0, .int .i64 0, .int .i64 3, .int .i64 0]), (4, .agg #[.int .i64 0, .int .i64 1, .int .i64 0, .int .i64 0, .int .i64 0, .int .i64 3, .int .i64 0])]).run Try.prog w = .ok (.agg tab3) w := run_build w _ _ _ (by kernel_rfl)
def tab4 : Array Value := #[.int .i64 0, .int .i64 1, .int .i64 0, .int .i64 0, .int .i64 0, .int .i64 3, .int .i64 0, .int .i64 0, .int .i64 0, .int .i64 1, .int .i64 0, .int .i64 0, .int .i64 1, .int .i64 0, .int .i64 0, .int .i64 0, .int .i64 0, .int .i64 1, .int .i64 0, .int .i64 5, .int .i64 0, .int .i64 0, .int .i64 0, .int .i64 0, .int .i64 1, .int .i64 1, .int .i64 0, .int .i64 0, .int .i64 0, .int .i64 0, .int .i64 0, .int .i64 0, .int .i64 0, .int .i64 0, .int .i64 5]
theorem build_tab4 (w : World) : (Instr.build 55 #[(0, .agg #[.int .i64 0, .int .i64 1, .int .i64 0, .int .i64 0, .int .i64 0, .int .i64 3, .int .i64 0]), (1, .agg #[.int .i64 0, .int .i64 0, .int .i64 1, .int .i64 0, .int .i64 0, .int .i64 1, .int .i64 0]), (2, .agg #[.int .i64 0, .int .i64 0, .int .i64 0, .int .i64 1, .int .i64 0, .int .i64 5, .int .i64 0]), (3, .agg #[.int .i64 0, .int .i64 0, .int .i64 0, .int .i64 1, .int .i64 1, .int .i64 0, .int .i64 0]), (4, .agg #[.int .i64 0, .int .i64 0, .int .i64 0, .int .i64 0, .int .i64 0, .int .i64 0, .int .i64 5])]).run Try.prog w = .ok (.agg tab4) w := run_build w _ _ _ (by kernel_rfl)
def tab5 : Array Value := #[.int .i64 0, .int .i64 0, .int .i64 0, .int .i64 0, .int .i64 0, .int .i64 0, .int .i64 6, .int .i64 0, .int .i64 0, .int .i64 0, .int .i64 0, .int .i64 0, .int .i64 0, .int .i64 6, .int .i64 0, .int .i64 0, .int .i64 0, .int .i64 0, .int .i64 0, .int .i64 0, .int .i64 6, .int .i64 0, .int .i64 0, .int .i64 0, .int .i64 0, .int .i64 1, .int .i64 0, .int .i64 0, .int .i64 0, .int .i64 0, .int .i64 0, .int .i64 0, .int .i64 0, .int .i64 0, .int .i64 6]
theorem build_tab5 (w : World) : (Instr.build 55 #[(0, .agg #[.int .i64 0, .int .i64 0, .int .i64 0, .int .i64 0, .int .i64 0, .int .i64 0, .int .i64 6]), (1, .agg #[.int .i64 0, .int .i64 0, .int .i64 0, .int .i64 0, .int .i64 0, .int .i64 0, .int .i64 6]), (2, .agg #[.int .i64 0, .int .i64 0, .int .i64 0, .int .i64 0, .int .i64 0, .int .i64 0, .int .i64 6]), (3, .agg #[.int .i64 0, .int .i64 0, .int .i64 0, .int .i64 0, .int .i64 1, .int .i64 0, .int .i64 0]), (4, .agg #[.int .i64 0, .int .i64 0, .int .i64 0, .int .i64 0, .int .i64 0, .int .i64 0, .int .i64 6])]).run Try.prog w = .ok (.agg tab5) w := run_build w _ _ _ (by kernel_rfl)
def tab6 : Array Value := #[.int .i64 0, .int .i64 0, .int .i64 0, .int .i64 0, .int .i64 0, .int .i64 0, .int .i64 6, .int .i64 0, .int .i64 0, .int .i64 0, .int .i64 0, .int .i64 0, .int .i64 0, .int .i64 6, .int .i64 0, .int .i64 0, .int .i64 0, .int .i64 0, .int .i64 0, .int .i64 0, .int .i64 6, .int .i64 0, .int .i64 0, .int .i64 0, .int .i64 0, .int .i64 0, .int .i64 0, .int .i64 0, .int .i64 0, .int .i64 0, .int .i64 0, .int .i64 0, .int .i64 0, .int .i64 0, .int .i64 6]
theorem build_tab6 (w : World) : (Instr.build 55 #[(0, .agg #[.int .i64 0, .int .i64 0, .int .i64 0, .int .i64 0, .int .i64 0, .int .i64 0, .int .i64 6]), (1, .agg #[.int .i64 0, .int .i64 0, .int .i64 0, .int .i64 0, .int .i64 0, .int .i64 0, .int .i64 6]), (2, .agg #[.int .i64 0, .int .i64 0, .int .i64 0, .int .i64 0, .int .i64 0, .int .i64 0, .int .i64 6]), (3, .agg #[.int .i64 0, .int .i64 0, .int .i64 0, .int .i64 0, .int .i64 0, .int .i64 0, .int .i64 0]), (4, .agg #[.int .i64 0, .int .i64 0, .int .i64 0, .int .i64 0, .int .i64 0, .int .i64 0, .int .i64 6])]).run Try.prog w = .ok (.agg tab6) w := run_build w _ _ _ (by kernel_rfl)
end Go.Proofs.Ytpejppnkdaiilaa.Ext
