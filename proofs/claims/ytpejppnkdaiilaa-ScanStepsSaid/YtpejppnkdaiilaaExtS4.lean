/- quillpenref04.Step at the state 4: a walk for each column; written by wip/tools/scan_ext.py. -/
import Derived.Test.YtpejppnkdaiilaaExtA
namespace Go.Proofs.Ytpejppnkdaiilaa.Ext
open Go.RowKit Go.Proofs.YtpejppnkdaiilaaW.PrintWords Go.Proofs.YtpejppnkdaiilaaW.PrintLast Go.Proofs.YtpejppnkdaiilaaW.PrintMore
set_option linter.unusedVariables false
set_option linter.unusedSimpArgs false
set_option maxHeartbeats 2000000 in
set_option maxRecDepth 100000 in
theorem step4_0 (d0 d1 d2 b : Int) (w : World) (hc : quillpenref04_column.f d0 d1 d2 b = some 0) :
    Calls Try.prog 11 #[.agg #[.int .i64 d0, .int .i64 d1, .int .i64 d2], .int .i64 4, .int .i64 b] w fun e w' => e = .returned (.tuple #[.agg #[.int .i64 0, .int .i64 1, .int .i64 0, .int .i64 0, .int .i64 0, .int .i64 b], .int .i64 3, .int .i64 0]) ∧ Below w.heap.size w w' := by
  go_enter Try.func11, Try.ntmps11
  go_wp2_with fail
  refine (quillpenref04_column.calls _ _ _ _ 0 _ hc).mono ?_
  rintro e w1 ⟨rfl, hb⟩
  obtain ⟨b1, b2, hz, hB⟩ := behind w w1 d0 d1 d2 hb
  obtain ⟨c0, c1, c2⟩ := cells3 b1
  have HB := Aside0.mk hB
  have HB2 := Aside0.mk b2
  have n1 : w.heap.size + 1 < w1.heap.size := by omega
  clear hb b1 b2 hz hB hc
  have hbz := fun w => build_zero w
  go_upto_region 22 with (first | ((with_reducible refine gate_dst (N := 11) rfl ?_); refine alloc_store 55 11 z35 z35 (.tmp 54) rfl rfl rfl rfl rfl rfl (fun _ => by kernel_rfl) (by kernel_rfl) (by kernel_rfl) (by kernel_rfl) rfl rfl ?_))
  clear hbz
  refine gen_world _ (fun W => W.heap[w.heap.size + 1]? = some (.cells zero6 35 (0, 0)) ∧ W.heap[w1.heap.size + 1]? = some (.cells z35 55 (0, 0)) ∧ W.heap[w1.heap.size + 1 + 1]? = some (.cells #[.int .i64 0, .int .i64 1, .int .i64 0, .int .i64 0, .int .i64 0, .int .i64 3, .int .i64 0] 54 (0, 0)) ∧ W.heap[w1.heap.size + 1 + 1 + 1]? = some (.cells #[.int .i64 0, .int .i64 0, .int .i64 1, .int .i64 0, .int .i64 0, .int .i64 1, .int .i64 0] 54 (0, 0)) ∧ W.heap[w1.heap.size + 1 + 1 + 1 + 1]? = some (.cells #[.int .i64 0, .int .i64 0, .int .i64 0, .int .i64 1, .int .i64 0, .int .i64 5, .int .i64 0] 54 (0, 0)) ∧ W.heap[w1.heap.size + 1 + 1 + 1 + 1 + 1]? = some (.cells #[.int .i64 0, .int .i64 0, .int .i64 0, .int .i64 1, .int .i64 1, .int .i64 0, .int .i64 0] 54 (0, 0)) ∧ Below w.heap.size w W ∧ w1.heap.size + 1 + 1 + 1 + 1 + 1 + 1 + 1 < W.heap.size) ?_ ?_
  · refine ⟨?_, ?_, ?_, ?_, ?_, ?_, ?_, ?_⟩
    · repeat (first | exact HB2.out | refine blk_alloc ?_ _)
    · refine blk_alloc ?_ _; refine blk_alloc ?_ _; refine blk_alloc ?_ _; refine blk_alloc ?_ _; refine blk_alloc ?_ _; refine blk_alloc ?_ _; exact blk_new_at _ _ _ (by simp)
    · refine blk_alloc ?_ _; refine blk_alloc ?_ _; refine blk_alloc ?_ _; refine blk_alloc ?_ _; refine blk_alloc ?_ _; exact blk_new_at _ _ _ (by simp)
    · refine blk_alloc ?_ _; refine blk_alloc ?_ _; refine blk_alloc ?_ _; refine blk_alloc ?_ _; exact blk_new_at _ _ _ (by simp)
    · refine blk_alloc ?_ _; refine blk_alloc ?_ _; refine blk_alloc ?_ _; exact blk_new_at _ _ _ (by simp)
    · refine blk_alloc ?_ _; refine blk_alloc ?_ _; exact blk_new_at _ _ _ (by simp)
    · repeat (first | (with_reducible first | exact HB.out | apply below_alloc | apply below_drew1 | refine below_set ?_ (Nat.le_succ _)) | exact HB.out)
    · simp
  clear HB HB2 c0 c1 c2
  generalize w1.heap.size = g at n1 ⊢
  intro W ⟨b1, b11, b12, b13, b14, b15, hB, n2⟩
  obtain ⟨l12_0, l12_1, l12_2, l12_3, l12_4, l12_5, l12_6⟩ := cells7 b12
  obtain ⟨l13_0, l13_1, l13_2, l13_3, l13_4, l13_5, l13_6⟩ := cells7 b13
  obtain ⟨l14_0, l14_1, l14_2, l14_3, l14_4, l14_5, l14_6⟩ := cells7 b14
  obtain ⟨l15_0, l15_1, l15_2, l15_3, l15_4, l15_5, l15_6⟩ := cells7 b15
  have hbz := fun w => build_tab4 w
  have HB := Aside0.mk hB
  have HB2 := Aside0.mk b1
  have HB11 := Aside0.mk b11
  clear b1 b11 b12 b13 b14 b15 hB
  go_upto_region 27 with (first | ((with_reducible refine gate_store (t := 55) (p := 11) rfl ?_); refine wpList_store_row rfl 55 (.tmp 11) (.tmp 101) rfl (g + 1) tab4 rfl rfl 55 z35 HB11.out (by kernel_rfl) (by kernel_rfl) (by kernel_rfl) ?_))
  refine gen_world _ (fun W2 => W2.heap[w.heap.size + 1]? = some (.cells zero6 35 (0, 0)) ∧ W2.heap[g + 1]? = some (.cells tab4 55 (0, 0)) ∧ Below w.heap.size w W2 ∧ g + 1 < W2.heap.size) ?_ ?_
  · exact ⟨(setRow_other _ _ _ _ (by omega)).trans HB2.out, setRow_heap _ _ _ _ _ _ HB11.out, below_setRow HB.out (by omega) _, by simp; omega⟩
  clear HB HB2 HB11 n2 hbz l12_0 l12_1 l12_2 l12_3 l12_4 l12_5 l12_6 l13_0 l13_1 l13_2 l13_3 l13_4 l13_5 l13_6 l14_0 l14_1 l14_2 l14_3 l14_4 l14_5 l14_6 l15_0 l15_1 l15_2 l15_3 l15_4 l15_5 l15_6
  clear W
  intro W ⟨b1, b11, hB, n2⟩
  have m0 : W.cell? ⟨g + 1, 0, none⟩ = some (.int .i64 0) := (blk_cell b11 0).trans rfl
  have m1 : W.cell? ⟨g + 1, 1, none⟩ = some (.int .i64 1) := (blk_cell b11 1).trans rfl
  have m2 : W.cell? ⟨g + 1, 2, none⟩ = some (.int .i64 0) := (blk_cell b11 2).trans rfl
  have m3 : W.cell? ⟨g + 1, 3, none⟩ = some (.int .i64 0) := (blk_cell b11 3).trans rfl
  have m4 : W.cell? ⟨g + 1, 4, none⟩ = some (.int .i64 0) := (blk_cell b11 4).trans rfl
  have m5 : W.cell? ⟨g + 1, 5, none⟩ = some (.int .i64 3) := (blk_cell b11 5).trans rfl
  have m6 : W.cell? ⟨g + 1, 6, none⟩ = some (.int .i64 0) := (blk_cell b11 6).trans rfl
  have HB := Aside0.mk hB
  have HB2 := Aside0.mk b1
  clear b1 b11 hB
  go_upto_region 31 with fail
  refine gen_world _ (fun W2 => W2.heap[w.heap.size + 1]? = some (.cells zero6 35 (0, 0)) ∧ W2.heap[W.heap.size]? = some (.cells #[.int .i64 0, .int .i64 1, .int .i64 0, .int .i64 0, .int .i64 0, .int .i64 3, .int .i64 0] 54 (0, 0)) ∧ W2.heap[W.heap.size + 1]? = some (.cells #[.int .i64 0, .int .i64 1, .int .i64 0, .int .i64 0, .int .i64 0, .int .i64 b] 35 (0, 0)) ∧ Below w.heap.size w W2) ?_ ?_
  · refine ⟨blk_alloc (blk_alloc HB2.out _) _, blk_alloc (blk_new _ _) _, blk_new_at _ _ _ (by simp), ?_⟩
    repeat (first | (with_reducible first | exact HB.out | apply below_alloc | apply below_drew1 | refine below_set ?_ (Nat.le_succ _)) | exact HB.out)
  have n3 : w.heap.size + 1 < W.heap.size := by omega
  clear HB HB2 n1 n2 m0 m1 m2 m3 m4 m5 m6
  generalize W.heap.size = h at n3 ⊢
  clear W
  intro W ⟨b1, b2, b3, hB⟩
  obtain ⟨e0, e1, e2, e3, e4, e5, f0, f1, f2, f3, f4, f5⟩ := cells6 b1
  obtain ⟨r0, r1, r2, r3, r4, r5, r6⟩ := cells7 b2
  obtain ⟨q0, q1, q2, q3, q4, q5, -⟩ := cells6 b3
  have HB := Aside0.mk hB
  have HB2 := Aside0.mk b1
  clear b1 b2 b3 hB
  go_region
  all_goals go_wp2_with fail
  all_goals refine bodyPost_ret (results_ctt rfl _ _ (w.heap.size + 1) 35 #[.int .i64 0, .int .i64 1, .int .i64 0, .int .i64 0, .int .i64 0, .int .i64 b] (0, 0) _ rfl (by refine blk_drew ?_; exact six HB2.out) Try.underlying35 rfl (by kernel_rfl)) rfl ?_
  all_goals exact ⟨rfl, by repeat (first | (with_reducible first | exact HB.out | apply below_alloc | apply below_drew1 | refine below_set ?_ (Nat.le_succ _)) | exact HB.out)⟩
set_option maxHeartbeats 2000000 in
set_option maxRecDepth 100000 in
theorem step4_1 (d0 d1 d2 b : Int) (w : World) (hc : quillpenref04_column.f d0 d1 d2 b = some 1) :
    Calls Try.prog 11 #[.agg #[.int .i64 d0, .int .i64 d1, .int .i64 d2], .int .i64 4, .int .i64 b] w fun e w' => e = .returned (.tuple #[.agg #[.int .i64 0, .int .i64 0, .int .i64 1, .int .i64 0, .int .i64 0, .int .i64 0], .int .i64 1, .int .i64 0]) ∧ Below w.heap.size w w' := by
  go_enter Try.func11, Try.ntmps11
  go_wp2_with fail
  refine (quillpenref04_column.calls _ _ _ _ 1 _ hc).mono ?_
  rintro e w1 ⟨rfl, hb⟩
  obtain ⟨b1, b2, hz, hB⟩ := behind w w1 d0 d1 d2 hb
  obtain ⟨c0, c1, c2⟩ := cells3 b1
  have HB := Aside0.mk hB
  have HB2 := Aside0.mk b2
  have n1 : w.heap.size + 1 < w1.heap.size := by omega
  clear hb b1 b2 hz hB hc
  have hbz := fun w => build_zero w
  go_upto_region 22 with (first | ((with_reducible refine gate_dst (N := 11) rfl ?_); refine alloc_store 55 11 z35 z35 (.tmp 54) rfl rfl rfl rfl rfl rfl (fun _ => by kernel_rfl) (by kernel_rfl) (by kernel_rfl) (by kernel_rfl) rfl rfl ?_))
  clear hbz
  refine gen_world _ (fun W => W.heap[w.heap.size + 1]? = some (.cells zero6 35 (0, 0)) ∧ W.heap[w1.heap.size + 1]? = some (.cells z35 55 (0, 0)) ∧ W.heap[w1.heap.size + 1 + 1]? = some (.cells #[.int .i64 0, .int .i64 1, .int .i64 0, .int .i64 0, .int .i64 0, .int .i64 3, .int .i64 0] 54 (0, 0)) ∧ W.heap[w1.heap.size + 1 + 1 + 1]? = some (.cells #[.int .i64 0, .int .i64 0, .int .i64 1, .int .i64 0, .int .i64 0, .int .i64 1, .int .i64 0] 54 (0, 0)) ∧ W.heap[w1.heap.size + 1 + 1 + 1 + 1]? = some (.cells #[.int .i64 0, .int .i64 0, .int .i64 0, .int .i64 1, .int .i64 0, .int .i64 5, .int .i64 0] 54 (0, 0)) ∧ W.heap[w1.heap.size + 1 + 1 + 1 + 1 + 1]? = some (.cells #[.int .i64 0, .int .i64 0, .int .i64 0, .int .i64 1, .int .i64 1, .int .i64 0, .int .i64 0] 54 (0, 0)) ∧ Below w.heap.size w W ∧ w1.heap.size + 1 + 1 + 1 + 1 + 1 + 1 + 1 < W.heap.size) ?_ ?_
  · refine ⟨?_, ?_, ?_, ?_, ?_, ?_, ?_, ?_⟩
    · repeat (first | exact HB2.out | refine blk_alloc ?_ _)
    · refine blk_alloc ?_ _; refine blk_alloc ?_ _; refine blk_alloc ?_ _; refine blk_alloc ?_ _; refine blk_alloc ?_ _; refine blk_alloc ?_ _; exact blk_new_at _ _ _ (by simp)
    · refine blk_alloc ?_ _; refine blk_alloc ?_ _; refine blk_alloc ?_ _; refine blk_alloc ?_ _; refine blk_alloc ?_ _; exact blk_new_at _ _ _ (by simp)
    · refine blk_alloc ?_ _; refine blk_alloc ?_ _; refine blk_alloc ?_ _; refine blk_alloc ?_ _; exact blk_new_at _ _ _ (by simp)
    · refine blk_alloc ?_ _; refine blk_alloc ?_ _; refine blk_alloc ?_ _; exact blk_new_at _ _ _ (by simp)
    · refine blk_alloc ?_ _; refine blk_alloc ?_ _; exact blk_new_at _ _ _ (by simp)
    · repeat (first | (with_reducible first | exact HB.out | apply below_alloc | apply below_drew1 | refine below_set ?_ (Nat.le_succ _)) | exact HB.out)
    · simp
  clear HB HB2 c0 c1 c2
  generalize w1.heap.size = g at n1 ⊢
  intro W ⟨b1, b11, b12, b13, b14, b15, hB, n2⟩
  obtain ⟨l12_0, l12_1, l12_2, l12_3, l12_4, l12_5, l12_6⟩ := cells7 b12
  obtain ⟨l13_0, l13_1, l13_2, l13_3, l13_4, l13_5, l13_6⟩ := cells7 b13
  obtain ⟨l14_0, l14_1, l14_2, l14_3, l14_4, l14_5, l14_6⟩ := cells7 b14
  obtain ⟨l15_0, l15_1, l15_2, l15_3, l15_4, l15_5, l15_6⟩ := cells7 b15
  have hbz := fun w => build_tab4 w
  have HB := Aside0.mk hB
  have HB2 := Aside0.mk b1
  have HB11 := Aside0.mk b11
  clear b1 b11 b12 b13 b14 b15 hB
  go_upto_region 27 with (first | ((with_reducible refine gate_store (t := 55) (p := 11) rfl ?_); refine wpList_store_row rfl 55 (.tmp 11) (.tmp 101) rfl (g + 1) tab4 rfl rfl 55 z35 HB11.out (by kernel_rfl) (by kernel_rfl) (by kernel_rfl) ?_))
  refine gen_world _ (fun W2 => W2.heap[w.heap.size + 1]? = some (.cells zero6 35 (0, 0)) ∧ W2.heap[g + 1]? = some (.cells tab4 55 (0, 0)) ∧ Below w.heap.size w W2 ∧ g + 1 < W2.heap.size) ?_ ?_
  · exact ⟨(setRow_other _ _ _ _ (by omega)).trans HB2.out, setRow_heap _ _ _ _ _ _ HB11.out, below_setRow HB.out (by omega) _, by simp; omega⟩
  clear HB HB2 HB11 n2 hbz l12_0 l12_1 l12_2 l12_3 l12_4 l12_5 l12_6 l13_0 l13_1 l13_2 l13_3 l13_4 l13_5 l13_6 l14_0 l14_1 l14_2 l14_3 l14_4 l14_5 l14_6 l15_0 l15_1 l15_2 l15_3 l15_4 l15_5 l15_6
  clear W
  intro W ⟨b1, b11, hB, n2⟩
  have m0 : W.cell? ⟨g + 1, 7, none⟩ = some (.int .i64 0) := (blk_cell b11 7).trans rfl
  have m1 : W.cell? ⟨g + 1, 8, none⟩ = some (.int .i64 0) := (blk_cell b11 8).trans rfl
  have m2 : W.cell? ⟨g + 1, 9, none⟩ = some (.int .i64 1) := (blk_cell b11 9).trans rfl
  have m3 : W.cell? ⟨g + 1, 10, none⟩ = some (.int .i64 0) := (blk_cell b11 10).trans rfl
  have m4 : W.cell? ⟨g + 1, 11, none⟩ = some (.int .i64 0) := (blk_cell b11 11).trans rfl
  have m5 : W.cell? ⟨g + 1, 12, none⟩ = some (.int .i64 1) := (blk_cell b11 12).trans rfl
  have m6 : W.cell? ⟨g + 1, 13, none⟩ = some (.int .i64 0) := (blk_cell b11 13).trans rfl
  have HB := Aside0.mk hB
  have HB2 := Aside0.mk b1
  clear b1 b11 hB
  go_upto_region 31 with fail
  refine gen_world _ (fun W2 => W2.heap[w.heap.size + 1]? = some (.cells zero6 35 (0, 0)) ∧ W2.heap[W.heap.size]? = some (.cells #[.int .i64 0, .int .i64 0, .int .i64 1, .int .i64 0, .int .i64 0, .int .i64 1, .int .i64 0] 54 (0, 0)) ∧ W2.heap[W.heap.size + 1]? = some (.cells #[.int .i64 0, .int .i64 0, .int .i64 1, .int .i64 0, .int .i64 0, .int .i64 0] 35 (0, 0)) ∧ Below w.heap.size w W2) ?_ ?_
  · refine ⟨blk_alloc (blk_alloc HB2.out _) _, blk_alloc (blk_new _ _) _, blk_new_at _ _ _ (by simp), ?_⟩
    repeat (first | (with_reducible first | exact HB.out | apply below_alloc | apply below_drew1 | refine below_set ?_ (Nat.le_succ _)) | exact HB.out)
  have n3 : w.heap.size + 1 < W.heap.size := by omega
  clear HB HB2 n1 n2 m0 m1 m2 m3 m4 m5 m6
  generalize W.heap.size = h at n3 ⊢
  clear W
  intro W ⟨b1, b2, b3, hB⟩
  obtain ⟨e0, e1, e2, e3, e4, e5, f0, f1, f2, f3, f4, f5⟩ := cells6 b1
  obtain ⟨r0, r1, r2, r3, r4, r5, r6⟩ := cells7 b2
  obtain ⟨q0, q1, q2, q3, q4, q5, -⟩ := cells6 b3
  have HB := Aside0.mk hB
  have HB2 := Aside0.mk b1
  clear b1 b2 b3 hB
  go_region
  all_goals go_wp2_with fail
  all_goals refine bodyPost_ret (results_ctt rfl _ _ (w.heap.size + 1) 35 #[.int .i64 0, .int .i64 0, .int .i64 1, .int .i64 0, .int .i64 0, .int .i64 0] (0, 0) _ rfl (by refine blk_drew ?_; exact six HB2.out) Try.underlying35 rfl (by kernel_rfl)) rfl ?_
  all_goals exact ⟨rfl, by repeat (first | (with_reducible first | exact HB.out | apply below_alloc | apply below_drew1 | refine below_set ?_ (Nat.le_succ _)) | exact HB.out)⟩
set_option maxHeartbeats 2000000 in
set_option maxRecDepth 100000 in
theorem step4_2 (d0 d1 d2 b : Int) (hd : (d2 == 1) = false) (w : World) (hc : quillpenref04_column.f d0 d1 d2 b = some 2) :
    Calls Try.prog 11 #[.agg #[.int .i64 d0, .int .i64 d1, .int .i64 d2], .int .i64 4, .int .i64 b] w fun e w' => e = .returned (.tuple #[.agg #[.int .i64 0, .int .i64 0, .int .i64 0, .int .i64 1, .int .i64 0, .int .i64 0], .int .i64 5, .int .i64 0]) ∧ Below w.heap.size w w' := by
  go_enter Try.func11, Try.ntmps11
  go_wp2_with fail
  refine (quillpenref04_column.calls _ _ _ _ 2 _ hc).mono ?_
  rintro e w1 ⟨rfl, hb⟩
  obtain ⟨b1, b2, hz, hB⟩ := behind w w1 d0 d1 d2 hb
  obtain ⟨c0, c1, c2⟩ := cells3 b1
  have HB := Aside0.mk hB
  have HB2 := Aside0.mk b2
  have n1 : w.heap.size + 1 < w1.heap.size := by omega
  clear hb b1 b2 hz hB hc
  have hbz := fun w => build_zero w
  go_upto_region 22 with (first | ((with_reducible refine gate_dst (N := 11) rfl ?_); refine alloc_store 55 11 z35 z35 (.tmp 54) rfl rfl rfl rfl rfl rfl (fun _ => by kernel_rfl) (by kernel_rfl) (by kernel_rfl) (by kernel_rfl) rfl rfl ?_))
  clear hbz
  refine gen_world _ (fun W => W.heap[w.heap.size + 1]? = some (.cells zero6 35 (0, 0)) ∧ W.heap[w1.heap.size + 1]? = some (.cells z35 55 (0, 0)) ∧ W.heap[w1.heap.size + 1 + 1]? = some (.cells #[.int .i64 0, .int .i64 1, .int .i64 0, .int .i64 0, .int .i64 0, .int .i64 3, .int .i64 0] 54 (0, 0)) ∧ W.heap[w1.heap.size + 1 + 1 + 1]? = some (.cells #[.int .i64 0, .int .i64 0, .int .i64 1, .int .i64 0, .int .i64 0, .int .i64 1, .int .i64 0] 54 (0, 0)) ∧ W.heap[w1.heap.size + 1 + 1 + 1 + 1]? = some (.cells #[.int .i64 0, .int .i64 0, .int .i64 0, .int .i64 1, .int .i64 0, .int .i64 5, .int .i64 0] 54 (0, 0)) ∧ W.heap[w1.heap.size + 1 + 1 + 1 + 1 + 1]? = some (.cells #[.int .i64 0, .int .i64 0, .int .i64 0, .int .i64 1, .int .i64 1, .int .i64 0, .int .i64 0] 54 (0, 0)) ∧ Below w.heap.size w W ∧ w1.heap.size + 1 + 1 + 1 + 1 + 1 + 1 + 1 < W.heap.size) ?_ ?_
  · refine ⟨?_, ?_, ?_, ?_, ?_, ?_, ?_, ?_⟩
    · repeat (first | exact HB2.out | refine blk_alloc ?_ _)
    · refine blk_alloc ?_ _; refine blk_alloc ?_ _; refine blk_alloc ?_ _; refine blk_alloc ?_ _; refine blk_alloc ?_ _; refine blk_alloc ?_ _; exact blk_new_at _ _ _ (by simp)
    · refine blk_alloc ?_ _; refine blk_alloc ?_ _; refine blk_alloc ?_ _; refine blk_alloc ?_ _; refine blk_alloc ?_ _; exact blk_new_at _ _ _ (by simp)
    · refine blk_alloc ?_ _; refine blk_alloc ?_ _; refine blk_alloc ?_ _; refine blk_alloc ?_ _; exact blk_new_at _ _ _ (by simp)
    · refine blk_alloc ?_ _; refine blk_alloc ?_ _; refine blk_alloc ?_ _; exact blk_new_at _ _ _ (by simp)
    · refine blk_alloc ?_ _; refine blk_alloc ?_ _; exact blk_new_at _ _ _ (by simp)
    · repeat (first | (with_reducible first | exact HB.out | apply below_alloc | apply below_drew1 | refine below_set ?_ (Nat.le_succ _)) | exact HB.out)
    · simp
  clear HB HB2 c0 c1 c2
  generalize w1.heap.size = g at n1 ⊢
  intro W ⟨b1, b11, b12, b13, b14, b15, hB, n2⟩
  obtain ⟨l12_0, l12_1, l12_2, l12_3, l12_4, l12_5, l12_6⟩ := cells7 b12
  obtain ⟨l13_0, l13_1, l13_2, l13_3, l13_4, l13_5, l13_6⟩ := cells7 b13
  obtain ⟨l14_0, l14_1, l14_2, l14_3, l14_4, l14_5, l14_6⟩ := cells7 b14
  obtain ⟨l15_0, l15_1, l15_2, l15_3, l15_4, l15_5, l15_6⟩ := cells7 b15
  have hbz := fun w => build_tab4 w
  have HB := Aside0.mk hB
  have HB2 := Aside0.mk b1
  have HB11 := Aside0.mk b11
  clear b1 b11 b12 b13 b14 b15 hB
  go_upto_region 27 with (first | ((with_reducible refine gate_store (t := 55) (p := 11) rfl ?_); refine wpList_store_row rfl 55 (.tmp 11) (.tmp 101) rfl (g + 1) tab4 rfl rfl 55 z35 HB11.out (by kernel_rfl) (by kernel_rfl) (by kernel_rfl) ?_))
  refine gen_world _ (fun W2 => W2.heap[w.heap.size + 1]? = some (.cells zero6 35 (0, 0)) ∧ W2.heap[g + 1]? = some (.cells tab4 55 (0, 0)) ∧ Below w.heap.size w W2 ∧ g + 1 < W2.heap.size) ?_ ?_
  · exact ⟨(setRow_other _ _ _ _ (by omega)).trans HB2.out, setRow_heap _ _ _ _ _ _ HB11.out, below_setRow HB.out (by omega) _, by simp; omega⟩
  clear HB HB2 HB11 n2 hbz l12_0 l12_1 l12_2 l12_3 l12_4 l12_5 l12_6 l13_0 l13_1 l13_2 l13_3 l13_4 l13_5 l13_6 l14_0 l14_1 l14_2 l14_3 l14_4 l14_5 l14_6 l15_0 l15_1 l15_2 l15_3 l15_4 l15_5 l15_6
  clear W
  intro W ⟨b1, b11, hB, n2⟩
  have m0 : W.cell? ⟨g + 1, 14, none⟩ = some (.int .i64 0) := (blk_cell b11 14).trans rfl
  have m1 : W.cell? ⟨g + 1, 15, none⟩ = some (.int .i64 0) := (blk_cell b11 15).trans rfl
  have m2 : W.cell? ⟨g + 1, 16, none⟩ = some (.int .i64 0) := (blk_cell b11 16).trans rfl
  have m3 : W.cell? ⟨g + 1, 17, none⟩ = some (.int .i64 1) := (blk_cell b11 17).trans rfl
  have m4 : W.cell? ⟨g + 1, 18, none⟩ = some (.int .i64 0) := (blk_cell b11 18).trans rfl
  have m5 : W.cell? ⟨g + 1, 19, none⟩ = some (.int .i64 5) := (blk_cell b11 19).trans rfl
  have m6 : W.cell? ⟨g + 1, 20, none⟩ = some (.int .i64 0) := (blk_cell b11 20).trans rfl
  have HB := Aside0.mk hB
  have HB2 := Aside0.mk b1
  clear b1 b11 hB
  go_upto_region 31 with fail
  refine gen_world _ (fun W2 => W2.heap[w.heap.size + 1]? = some (.cells zero6 35 (0, 0)) ∧ W2.heap[W.heap.size]? = some (.cells #[.int .i64 0, .int .i64 0, .int .i64 0, .int .i64 1, .int .i64 0, .int .i64 5, .int .i64 0] 54 (0, 0)) ∧ W2.heap[W.heap.size + 1]? = some (.cells #[.int .i64 0, .int .i64 0, .int .i64 0, .int .i64 1, .int .i64 0, .int .i64 0] 35 (0, 0)) ∧ Below w.heap.size w W2) ?_ ?_
  · refine ⟨blk_alloc (blk_alloc HB2.out _) _, blk_alloc (blk_new _ _) _, blk_new_at _ _ _ (by simp), ?_⟩
    repeat (first | (with_reducible first | exact HB.out | apply below_alloc | apply below_drew1 | refine below_set ?_ (Nat.le_succ _)) | exact HB.out)
  have n3 : w.heap.size + 1 < W.heap.size := by omega
  clear HB HB2 n1 n2 m0 m1 m2 m3 m4 m5 m6
  generalize W.heap.size = h at n3 ⊢
  clear W
  intro W ⟨b1, b2, b3, hB⟩
  obtain ⟨e0, e1, e2, e3, e4, e5, f0, f1, f2, f3, f4, f5⟩ := cells6 b1
  obtain ⟨r0, r1, r2, r3, r4, r5, r6⟩ := cells7 b2
  obtain ⟨q0, q1, q2, q3, q4, q5, -⟩ := cells6 b3
  have HB := Aside0.mk hB
  have HB2 := Aside0.mk b1
  clear b1 b2 b3 hB
  go_region
  all_goals go_wp2_with fail
  all_goals refine bodyPost_ret (results_ctt rfl _ _ (w.heap.size + 1) 35 #[.int .i64 0, .int .i64 0, .int .i64 0, .int .i64 1, .int .i64 0, .int .i64 0] (0, 0) _ rfl (by refine blk_drew ?_; exact six HB2.out) Try.underlying35 rfl (by kernel_rfl)) rfl ?_
  all_goals exact ⟨rfl, by repeat (first | (with_reducible first | exact HB.out | apply below_alloc | apply below_drew1 | refine below_set ?_ (Nat.le_succ _)) | exact HB.out)⟩
set_option maxHeartbeats 2000000 in
set_option maxRecDepth 100000 in
theorem step4_3 (d0 d1 d2 b : Int) (hd : (d2 == 2) = false) (w : World) (hc : quillpenref04_column.f d0 d1 d2 b = some 3) :
    Calls Try.prog 11 #[.agg #[.int .i64 d0, .int .i64 d1, .int .i64 d2], .int .i64 4, .int .i64 b] w fun e w' => e = .returned (.tuple #[.agg #[.int .i64 0, .int .i64 0, .int .i64 0, .int .i64 1, .int .i64 1, .int .i64 0], .int .i64 0, .int .i64 0]) ∧ Below w.heap.size w w' := by
  go_enter Try.func11, Try.ntmps11
  go_wp2_with fail
  refine (quillpenref04_column.calls _ _ _ _ 3 _ hc).mono ?_
  rintro e w1 ⟨rfl, hb⟩
  obtain ⟨b1, b2, hz, hB⟩ := behind w w1 d0 d1 d2 hb
  obtain ⟨c0, c1, c2⟩ := cells3 b1
  have HB := Aside0.mk hB
  have HB2 := Aside0.mk b2
  have n1 : w.heap.size + 1 < w1.heap.size := by omega
  clear hb b1 b2 hz hB hc
  have hbz := fun w => build_zero w
  go_upto_region 22 with (first | ((with_reducible refine gate_dst (N := 11) rfl ?_); refine alloc_store 55 11 z35 z35 (.tmp 54) rfl rfl rfl rfl rfl rfl (fun _ => by kernel_rfl) (by kernel_rfl) (by kernel_rfl) (by kernel_rfl) rfl rfl ?_))
  clear hbz
  refine gen_world _ (fun W => W.heap[w.heap.size + 1]? = some (.cells zero6 35 (0, 0)) ∧ W.heap[w1.heap.size + 1]? = some (.cells z35 55 (0, 0)) ∧ W.heap[w1.heap.size + 1 + 1]? = some (.cells #[.int .i64 0, .int .i64 1, .int .i64 0, .int .i64 0, .int .i64 0, .int .i64 3, .int .i64 0] 54 (0, 0)) ∧ W.heap[w1.heap.size + 1 + 1 + 1]? = some (.cells #[.int .i64 0, .int .i64 0, .int .i64 1, .int .i64 0, .int .i64 0, .int .i64 1, .int .i64 0] 54 (0, 0)) ∧ W.heap[w1.heap.size + 1 + 1 + 1 + 1]? = some (.cells #[.int .i64 0, .int .i64 0, .int .i64 0, .int .i64 1, .int .i64 0, .int .i64 5, .int .i64 0] 54 (0, 0)) ∧ W.heap[w1.heap.size + 1 + 1 + 1 + 1 + 1]? = some (.cells #[.int .i64 0, .int .i64 0, .int .i64 0, .int .i64 1, .int .i64 1, .int .i64 0, .int .i64 0] 54 (0, 0)) ∧ Below w.heap.size w W ∧ w1.heap.size + 1 + 1 + 1 + 1 + 1 + 1 + 1 < W.heap.size) ?_ ?_
  · refine ⟨?_, ?_, ?_, ?_, ?_, ?_, ?_, ?_⟩
    · repeat (first | exact HB2.out | refine blk_alloc ?_ _)
    · refine blk_alloc ?_ _; refine blk_alloc ?_ _; refine blk_alloc ?_ _; refine blk_alloc ?_ _; refine blk_alloc ?_ _; refine blk_alloc ?_ _; exact blk_new_at _ _ _ (by simp)
    · refine blk_alloc ?_ _; refine blk_alloc ?_ _; refine blk_alloc ?_ _; refine blk_alloc ?_ _; refine blk_alloc ?_ _; exact blk_new_at _ _ _ (by simp)
    · refine blk_alloc ?_ _; refine blk_alloc ?_ _; refine blk_alloc ?_ _; refine blk_alloc ?_ _; exact blk_new_at _ _ _ (by simp)
    · refine blk_alloc ?_ _; refine blk_alloc ?_ _; refine blk_alloc ?_ _; exact blk_new_at _ _ _ (by simp)
    · refine blk_alloc ?_ _; refine blk_alloc ?_ _; exact blk_new_at _ _ _ (by simp)
    · repeat (first | (with_reducible first | exact HB.out | apply below_alloc | apply below_drew1 | refine below_set ?_ (Nat.le_succ _)) | exact HB.out)
    · simp
  clear HB HB2 c0 c1 c2
  generalize w1.heap.size = g at n1 ⊢
  intro W ⟨b1, b11, b12, b13, b14, b15, hB, n2⟩
  obtain ⟨l12_0, l12_1, l12_2, l12_3, l12_4, l12_5, l12_6⟩ := cells7 b12
  obtain ⟨l13_0, l13_1, l13_2, l13_3, l13_4, l13_5, l13_6⟩ := cells7 b13
  obtain ⟨l14_0, l14_1, l14_2, l14_3, l14_4, l14_5, l14_6⟩ := cells7 b14
  obtain ⟨l15_0, l15_1, l15_2, l15_3, l15_4, l15_5, l15_6⟩ := cells7 b15
  have hbz := fun w => build_tab4 w
  have HB := Aside0.mk hB
  have HB2 := Aside0.mk b1
  have HB11 := Aside0.mk b11
  clear b1 b11 b12 b13 b14 b15 hB
  go_upto_region 27 with (first | ((with_reducible refine gate_store (t := 55) (p := 11) rfl ?_); refine wpList_store_row rfl 55 (.tmp 11) (.tmp 101) rfl (g + 1) tab4 rfl rfl 55 z35 HB11.out (by kernel_rfl) (by kernel_rfl) (by kernel_rfl) ?_))
  refine gen_world _ (fun W2 => W2.heap[w.heap.size + 1]? = some (.cells zero6 35 (0, 0)) ∧ W2.heap[g + 1]? = some (.cells tab4 55 (0, 0)) ∧ Below w.heap.size w W2 ∧ g + 1 < W2.heap.size) ?_ ?_
  · exact ⟨(setRow_other _ _ _ _ (by omega)).trans HB2.out, setRow_heap _ _ _ _ _ _ HB11.out, below_setRow HB.out (by omega) _, by simp; omega⟩
  clear HB HB2 HB11 n2 hbz l12_0 l12_1 l12_2 l12_3 l12_4 l12_5 l12_6 l13_0 l13_1 l13_2 l13_3 l13_4 l13_5 l13_6 l14_0 l14_1 l14_2 l14_3 l14_4 l14_5 l14_6 l15_0 l15_1 l15_2 l15_3 l15_4 l15_5 l15_6
  clear W
  intro W ⟨b1, b11, hB, n2⟩
  have m0 : W.cell? ⟨g + 1, 21, none⟩ = some (.int .i64 0) := (blk_cell b11 21).trans rfl
  have m1 : W.cell? ⟨g + 1, 22, none⟩ = some (.int .i64 0) := (blk_cell b11 22).trans rfl
  have m2 : W.cell? ⟨g + 1, 23, none⟩ = some (.int .i64 0) := (blk_cell b11 23).trans rfl
  have m3 : W.cell? ⟨g + 1, 24, none⟩ = some (.int .i64 1) := (blk_cell b11 24).trans rfl
  have m4 : W.cell? ⟨g + 1, 25, none⟩ = some (.int .i64 1) := (blk_cell b11 25).trans rfl
  have m5 : W.cell? ⟨g + 1, 26, none⟩ = some (.int .i64 0) := (blk_cell b11 26).trans rfl
  have m6 : W.cell? ⟨g + 1, 27, none⟩ = some (.int .i64 0) := (blk_cell b11 27).trans rfl
  have HB := Aside0.mk hB
  have HB2 := Aside0.mk b1
  clear b1 b11 hB
  go_upto_region 31 with fail
  refine gen_world _ (fun W2 => W2.heap[w.heap.size + 1]? = some (.cells zero6 35 (0, 0)) ∧ W2.heap[W.heap.size]? = some (.cells #[.int .i64 0, .int .i64 0, .int .i64 0, .int .i64 1, .int .i64 1, .int .i64 0, .int .i64 0] 54 (0, 0)) ∧ W2.heap[W.heap.size + 1]? = some (.cells #[.int .i64 0, .int .i64 0, .int .i64 0, .int .i64 1, .int .i64 1, .int .i64 0] 35 (0, 0)) ∧ Below w.heap.size w W2) ?_ ?_
  · refine ⟨blk_alloc (blk_alloc HB2.out _) _, blk_alloc (blk_new _ _) _, blk_new_at _ _ _ (by simp), ?_⟩
    repeat (first | (with_reducible first | exact HB.out | apply below_alloc | apply below_drew1 | refine below_set ?_ (Nat.le_succ _)) | exact HB.out)
  have n3 : w.heap.size + 1 < W.heap.size := by omega
  clear HB HB2 n1 n2 m0 m1 m2 m3 m4 m5 m6
  generalize W.heap.size = h at n3 ⊢
  clear W
  intro W ⟨b1, b2, b3, hB⟩
  obtain ⟨e0, e1, e2, e3, e4, e5, f0, f1, f2, f3, f4, f5⟩ := cells6 b1
  obtain ⟨r0, r1, r2, r3, r4, r5, r6⟩ := cells7 b2
  obtain ⟨q0, q1, q2, q3, q4, q5, -⟩ := cells6 b3
  have HB := Aside0.mk hB
  have HB2 := Aside0.mk b1
  clear b1 b2 b3 hB
  go_region
  all_goals go_wp2_with fail
  all_goals refine bodyPost_ret (results_ctt rfl _ _ (w.heap.size + 1) 35 #[.int .i64 0, .int .i64 0, .int .i64 0, .int .i64 1, .int .i64 1, .int .i64 0] (0, 0) _ rfl (by refine blk_drew ?_; exact six HB2.out) Try.underlying35 rfl (by kernel_rfl)) rfl ?_
  all_goals exact ⟨rfl, by repeat (first | (with_reducible first | exact HB.out | apply below_alloc | apply below_drew1 | refine below_set ?_ (Nat.le_succ _)) | exact HB.out)⟩
set_option maxHeartbeats 2000000 in
set_option maxRecDepth 100000 in
theorem step4_4 (d0 d1 d2 b : Int) (w : World) (hc : quillpenref04_column.f d0 d1 d2 b = some 4) :
    Calls Try.prog 11 #[.agg #[.int .i64 d0, .int .i64 d1, .int .i64 d2], .int .i64 4, .int .i64 b] w fun e w' => e = .returned (.tuple #[.agg #[.int .i64 0, .int .i64 0, .int .i64 0, .int .i64 0, .int .i64 0, .int .i64 0], .int .i64 0, .int .i64 5]) ∧ Below w.heap.size w w' := by
  go_enter Try.func11, Try.ntmps11
  go_wp2_with fail
  refine (quillpenref04_column.calls _ _ _ _ 4 _ hc).mono ?_
  rintro e w1 ⟨rfl, hb⟩
  obtain ⟨b1, b2, hz, hB⟩ := behind w w1 d0 d1 d2 hb
  obtain ⟨c0, c1, c2⟩ := cells3 b1
  have HB := Aside0.mk hB
  have HB2 := Aside0.mk b2
  have n1 : w.heap.size + 1 < w1.heap.size := by omega
  clear hb b1 b2 hz hB hc
  have hbz := fun w => build_zero w
  go_upto_region 22 with (first | ((with_reducible refine gate_dst (N := 11) rfl ?_); refine alloc_store 55 11 z35 z35 (.tmp 54) rfl rfl rfl rfl rfl rfl (fun _ => by kernel_rfl) (by kernel_rfl) (by kernel_rfl) (by kernel_rfl) rfl rfl ?_))
  clear hbz
  refine gen_world _ (fun W => W.heap[w.heap.size + 1]? = some (.cells zero6 35 (0, 0)) ∧ W.heap[w1.heap.size + 1]? = some (.cells z35 55 (0, 0)) ∧ W.heap[w1.heap.size + 1 + 1]? = some (.cells #[.int .i64 0, .int .i64 1, .int .i64 0, .int .i64 0, .int .i64 0, .int .i64 3, .int .i64 0] 54 (0, 0)) ∧ W.heap[w1.heap.size + 1 + 1 + 1]? = some (.cells #[.int .i64 0, .int .i64 0, .int .i64 1, .int .i64 0, .int .i64 0, .int .i64 1, .int .i64 0] 54 (0, 0)) ∧ W.heap[w1.heap.size + 1 + 1 + 1 + 1]? = some (.cells #[.int .i64 0, .int .i64 0, .int .i64 0, .int .i64 1, .int .i64 0, .int .i64 5, .int .i64 0] 54 (0, 0)) ∧ W.heap[w1.heap.size + 1 + 1 + 1 + 1 + 1]? = some (.cells #[.int .i64 0, .int .i64 0, .int .i64 0, .int .i64 1, .int .i64 1, .int .i64 0, .int .i64 0] 54 (0, 0)) ∧ Below w.heap.size w W ∧ w1.heap.size + 1 + 1 + 1 + 1 + 1 + 1 + 1 < W.heap.size) ?_ ?_
  · refine ⟨?_, ?_, ?_, ?_, ?_, ?_, ?_, ?_⟩
    · repeat (first | exact HB2.out | refine blk_alloc ?_ _)
    · refine blk_alloc ?_ _; refine blk_alloc ?_ _; refine blk_alloc ?_ _; refine blk_alloc ?_ _; refine blk_alloc ?_ _; refine blk_alloc ?_ _; exact blk_new_at _ _ _ (by simp)
    · refine blk_alloc ?_ _; refine blk_alloc ?_ _; refine blk_alloc ?_ _; refine blk_alloc ?_ _; refine blk_alloc ?_ _; exact blk_new_at _ _ _ (by simp)
    · refine blk_alloc ?_ _; refine blk_alloc ?_ _; refine blk_alloc ?_ _; refine blk_alloc ?_ _; exact blk_new_at _ _ _ (by simp)
    · refine blk_alloc ?_ _; refine blk_alloc ?_ _; refine blk_alloc ?_ _; exact blk_new_at _ _ _ (by simp)
    · refine blk_alloc ?_ _; refine blk_alloc ?_ _; exact blk_new_at _ _ _ (by simp)
    · repeat (first | (with_reducible first | exact HB.out | apply below_alloc | apply below_drew1 | refine below_set ?_ (Nat.le_succ _)) | exact HB.out)
    · simp
  clear HB HB2 c0 c1 c2
  generalize w1.heap.size = g at n1 ⊢
  intro W ⟨b1, b11, b12, b13, b14, b15, hB, n2⟩
  obtain ⟨l12_0, l12_1, l12_2, l12_3, l12_4, l12_5, l12_6⟩ := cells7 b12
  obtain ⟨l13_0, l13_1, l13_2, l13_3, l13_4, l13_5, l13_6⟩ := cells7 b13
  obtain ⟨l14_0, l14_1, l14_2, l14_3, l14_4, l14_5, l14_6⟩ := cells7 b14
  obtain ⟨l15_0, l15_1, l15_2, l15_3, l15_4, l15_5, l15_6⟩ := cells7 b15
  have hbz := fun w => build_tab4 w
  have HB := Aside0.mk hB
  have HB2 := Aside0.mk b1
  have HB11 := Aside0.mk b11
  clear b1 b11 b12 b13 b14 b15 hB
  go_upto_region 27 with (first | ((with_reducible refine gate_store (t := 55) (p := 11) rfl ?_); refine wpList_store_row rfl 55 (.tmp 11) (.tmp 101) rfl (g + 1) tab4 rfl rfl 55 z35 HB11.out (by kernel_rfl) (by kernel_rfl) (by kernel_rfl) ?_))
  refine gen_world _ (fun W2 => W2.heap[w.heap.size + 1]? = some (.cells zero6 35 (0, 0)) ∧ W2.heap[g + 1]? = some (.cells tab4 55 (0, 0)) ∧ Below w.heap.size w W2 ∧ g + 1 < W2.heap.size) ?_ ?_
  · exact ⟨(setRow_other _ _ _ _ (by omega)).trans HB2.out, setRow_heap _ _ _ _ _ _ HB11.out, below_setRow HB.out (by omega) _, by simp; omega⟩
  clear HB HB2 HB11 n2 hbz l12_0 l12_1 l12_2 l12_3 l12_4 l12_5 l12_6 l13_0 l13_1 l13_2 l13_3 l13_4 l13_5 l13_6 l14_0 l14_1 l14_2 l14_3 l14_4 l14_5 l14_6 l15_0 l15_1 l15_2 l15_3 l15_4 l15_5 l15_6
  clear W
  intro W ⟨b1, b11, hB, n2⟩
  have m0 : W.cell? ⟨g + 1, 28, none⟩ = some (.int .i64 0) := (blk_cell b11 28).trans rfl
  have m1 : W.cell? ⟨g + 1, 29, none⟩ = some (.int .i64 0) := (blk_cell b11 29).trans rfl
  have m2 : W.cell? ⟨g + 1, 30, none⟩ = some (.int .i64 0) := (blk_cell b11 30).trans rfl
  have m3 : W.cell? ⟨g + 1, 31, none⟩ = some (.int .i64 0) := (blk_cell b11 31).trans rfl
  have m4 : W.cell? ⟨g + 1, 32, none⟩ = some (.int .i64 0) := (blk_cell b11 32).trans rfl
  have m5 : W.cell? ⟨g + 1, 33, none⟩ = some (.int .i64 0) := (blk_cell b11 33).trans rfl
  have m6 : W.cell? ⟨g + 1, 34, none⟩ = some (.int .i64 5) := (blk_cell b11 34).trans rfl
  have HB := Aside0.mk hB
  have HB2 := Aside0.mk b1
  clear b1 b11 hB
  go_upto_region 31 with fail
  refine gen_world _ (fun W2 => W2.heap[w.heap.size + 1]? = some (.cells zero6 35 (0, 0)) ∧ W2.heap[W.heap.size]? = some (.cells #[.int .i64 0, .int .i64 0, .int .i64 0, .int .i64 0, .int .i64 0, .int .i64 0, .int .i64 5] 54 (0, 0)) ∧ W2.heap[W.heap.size + 1]? = some (.cells #[.int .i64 0, .int .i64 0, .int .i64 0, .int .i64 0, .int .i64 0, .int .i64 0] 35 (0, 0)) ∧ Below w.heap.size w W2) ?_ ?_
  · refine ⟨blk_alloc (blk_alloc HB2.out _) _, blk_alloc (blk_new _ _) _, blk_new_at _ _ _ (by simp), ?_⟩
    repeat (first | (with_reducible first | exact HB.out | apply below_alloc | apply below_drew1 | refine below_set ?_ (Nat.le_succ _)) | exact HB.out)
  have n3 : w.heap.size + 1 < W.heap.size := by omega
  clear HB HB2 n1 n2 m0 m1 m2 m3 m4 m5 m6
  generalize W.heap.size = h at n3 ⊢
  clear W
  intro W ⟨b1, b2, b3, hB⟩
  obtain ⟨e0, e1, e2, e3, e4, e5, f0, f1, f2, f3, f4, f5⟩ := cells6 b1
  obtain ⟨r0, r1, r2, r3, r4, r5, r6⟩ := cells7 b2
  obtain ⟨q0, q1, q2, q3, q4, q5, -⟩ := cells6 b3
  have HB := Aside0.mk hB
  have HB2 := Aside0.mk b1
  clear b1 b2 b3 hB
  go_region
  all_goals go_wp2_with fail
  all_goals refine bodyPost_ret (results_ctt rfl _ _ (w.heap.size + 1) 35 #[.int .i64 0, .int .i64 0, .int .i64 0, .int .i64 0, .int .i64 0, .int .i64 0] (0, 0) _ rfl (by refine blk_drew ?_; exact six HB2.out) Try.underlying35 rfl (by kernel_rfl)) rfl ?_
  all_goals exact ⟨rfl, by repeat (first | (with_reducible first | exact HB.out | apply below_alloc | apply below_drew1 | refine below_set ?_ (Nat.le_succ _)) | exact HB.out)⟩
set_option maxHeartbeats 2000000 in
set_option maxRecDepth 100000 in
theorem step4_2e (d0 d1 b : Int) (w : World) (hc : quillpenref04_column.f d0 d1 1 b = some 2) :
    Calls Try.prog 11 #[.agg #[.int .i64 d0, .int .i64 d1, .int .i64 1], .int .i64 4, .int .i64 b] w fun e w' => e = .returned (.tuple #[.agg #[.int .i64 0, .int .i64 0, .int .i64 0, .int .i64 0, .int .i64 0, .int .i64 0], .int .i64 0, .int .i64 6]) ∧ Below w.heap.size w w' := by
  go_enter Try.func11, Try.ntmps11
  go_wp2_with fail
  refine (quillpenref04_column.calls _ _ _ _ 2 _ hc).mono ?_
  rintro e w1 ⟨rfl, hb⟩
  obtain ⟨b1, b2, hz, hB⟩ := behind w w1 d0 d1 1 hb
  obtain ⟨c0, c1, c2⟩ := cells3 b1
  obtain ⟨e0, e1, e2, e3, e4, e5, f0, f1, f2, f3, f4, f5⟩ := cells6 b2
  have HB := Aside0.mk hB
  have HB2 := Aside0.mk b2
  have n1 : w.heap.size + 1 < w1.heap.size := by omega
  clear hb b1 b2 hz hB hc
  go_wp2_with fail
  refine bodyPost_ret (results_ctt rfl _ _ (w.heap.size + 1) 35 #[.int .i64 0, .int .i64 0, .int .i64 0, .int .i64 0, .int .i64 0, .int .i64 0] (0, 0) _ rfl (by exact six HB2.out) Try.underlying35 rfl (by kernel_rfl)) rfl ?_
  exact ⟨rfl, by repeat (first | (with_reducible first | exact HB.out | apply below_alloc | apply below_drew1 | refine below_set ?_ (Nat.le_succ _)) | exact HB.out)⟩
set_option maxHeartbeats 2000000 in
set_option maxRecDepth 100000 in
theorem step4_3e (d0 d1 b : Int) (w : World) (hc : quillpenref04_column.f d0 d1 2 b = some 3) :
    Calls Try.prog 11 #[.agg #[.int .i64 d0, .int .i64 d1, .int .i64 2], .int .i64 4, .int .i64 b] w fun e w' => e = .returned (.tuple #[.agg #[.int .i64 0, .int .i64 0, .int .i64 0, .int .i64 0, .int .i64 0, .int .i64 0], .int .i64 0, .int .i64 6]) ∧ Below w.heap.size w w' := by
  go_enter Try.func11, Try.ntmps11
  go_wp2_with fail
  refine (quillpenref04_column.calls _ _ _ _ 3 _ hc).mono ?_
  rintro e w1 ⟨rfl, hb⟩
  obtain ⟨b1, b2, hz, hB⟩ := behind w w1 d0 d1 2 hb
  obtain ⟨c0, c1, c2⟩ := cells3 b1
  obtain ⟨e0, e1, e2, e3, e4, e5, f0, f1, f2, f3, f4, f5⟩ := cells6 b2
  have HB := Aside0.mk hB
  have HB2 := Aside0.mk b2
  have n1 : w.heap.size + 1 < w1.heap.size := by omega
  clear hb b1 b2 hz hB hc
  go_wp2_with fail
  refine bodyPost_ret (results_ctt rfl _ _ (w.heap.size + 1) 35 #[.int .i64 0, .int .i64 0, .int .i64 0, .int .i64 0, .int .i64 0, .int .i64 0] (0, 0) _ rfl (by exact six HB2.out) Try.underlying35 rfl (by kernel_rfl)) rfl ?_
  exact ⟨rfl, by repeat (first | (with_reducible first | exact HB.out | apply below_alloc | apply below_drew1 | refine below_set ?_ (Nat.le_succ _)) | exact HB.out)⟩
end Go.Proofs.Ytpejppnkdaiilaa.Ext
