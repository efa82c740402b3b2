-- PRINTED BY print.sh 35421559b90ae4d0a3588c463048766b98c2df88dd9212a6774a882060cdf62d: not written by this session
import Derived.Test.YtmignbhpofmgeaaDoorPTopStickyx0
import Derived.Test.YtmignbhpofmgeaaDoorPTopStickyx1
namespace Go.Proofs.YtmignbhpofmgeaaDoor.PTopSticky
open Go.RowKit Go.Proofs.YtmignbhpofmgeaaDoorW.PrintWords Go.Proofs.YtmignbhpofmgeaaDoorW.PrintLast Go.Proofs.YtmignbhpofmgeaaDoorW.PrintMore
attribute [local go_sem] max2_int min2_int max_two min_two max_three min_three max_four min_four   -- for this text's walks alone
set_option linter.unusedVariables false
set_option linter.unusedSimpArgs false

/-! ### scan_Step: function 42 -/
mutual
def scan_Step.j0 : Nat → Int → Int → Bool → Bool → Int → Int → Int → Option (Bool × Bool × Bool × Bool × Bool × Int × Int × Int)
  | 0, _, _, _, _, _, _, _ => none
  | k + 1, x1, x2, x9, x21, x120000, x120001, x120002 => if x21 = true then (some (false, false, false, false, false, 0, 4, 0)) else (if x1 = 3 then (scan_Step.j1 k x1 x2 x9 true x120000 x120001 x120002) else (if x1 = 4 then (scan_Step.j1 k x1 x2 x9 (x2 == x120001) x120000 x120001 x120002) else (scan_Step.j1 k x1 x2 x9 false x120000 x120001 x120002)))
def scan_Step.j1 : Nat → Int → Int → Bool → Bool → Int → Int → Int → Option (Bool × Bool × Bool × Bool × Bool × Int × Int × Int)
  | 0, _, _, _, _, _, _, _ => none
  | k + 1, x1, x2, x9, x31, x120000, x120001, x120002 => if x31 = true then (some (false, true, false, false, false, x2, 3, 0)) else (if x2 = x120000 then (some (x9, false, true, false, false, 0, 1, 0)) else (if x2 = 13 then (scan_Step.j2 k x1 x2 x9 true x120000 x120001 x120002) else (scan_Step.j2 k x1 x2 x9 (x2 == 10) x120000 x120001 x120002)))
def scan_Step.j2 : Nat → Int → Int → Bool → Bool → Int → Int → Int → Option (Bool × Bool × Bool × Bool × Bool × Int × Int × Int)
  | 0, _, _, _, _, _, _, _ => none
  | k + 1, x1, x2, x9, x53, x120000, x120001, x120002 => if x53 = true then ((scan_ends.f k x120000 x120001 x120002 x1 x2).bind fun bt129 => (some (bt129.1, bt129.2.1, bt129.2.2.1, bt129.2.2.2.1, bt129.2.2.2.2.1, bt129.2.2.2.2.2.1, bt129.2.2.2.2.2.2.1, bt129.2.2.2.2.2.2.2))) else (if x1 = 4 then (some (false, false, false, false, false, 0, 0, 5)) else (if x2 = x120001 then (scan_Step.j3 k x2 x9 (x1 == 2) x120000 x120001 x120002) else (scan_Step.j3 k x2 x9 false x120000 x120001 x120002)))
def scan_Step.j3 : Nat → Int → Bool → Bool → Int → Int → Int → Option (Bool × Bool × Bool × Bool × Bool × Int × Int × Int)
  | 0, _, _, _, _, _, _ => none
  | k + 1, x2, x9, x71, x120000, x120001, x120002 => if x71 = true then (some (false, false, false, false, false, 0, 0, 4)) else (if x2 = x120001 then (some (x9, false, false, false, false, 0, 3, 0)) else (some (x9, true, false, false, false, x2, 2, 0)))
end
def scan_Step.f (k : Nat) (a0_0 : Int) (a0_1 : Int) (a0_2 : Int) (a1 : Int) (a2 : Int) : Option (Bool × Bool × Bool × Bool × Bool × Int × Int × Int) := if a1 ≥ 5 then ((scan_pending.f a1 a2).bind fun bt121 => (some (bt121.1, bt121.2.1, bt121.2.2.1, bt121.2.2.2.1, bt121.2.2.2.2.1, bt121.2.2.2.2.2.1, bt121.2.2.2.2.2.2.1, bt121.2.2.2.2.2.2.2))) else (if a1 = 3 then (scan_Step.j0 k a1 a2 (a1 == 0) (a2 == a0_1) a0_0 a0_1 a0_2) else (scan_Step.j0 k a1 a2 (a1 == 0) false a0_0 a0_1 a0_2))
theorem scan_Step.mono_l : ∀ k, (∀ y0 y1 y2 y3 y4 y5 y6, LeO (scan_Step.j0 k y0 y1 y2 y3 y4 y5 y6) (scan_Step.j0 (k + 1) y0 y1 y2 y3 y4 y5 y6)) ∧ (∀ y0 y1 y2 y3 y4 y5 y6, LeO (scan_Step.j1 k y0 y1 y2 y3 y4 y5 y6) (scan_Step.j1 (k + 1) y0 y1 y2 y3 y4 y5 y6)) ∧ (∀ y0 y1 y2 y3 y4 y5 y6, LeO (scan_Step.j2 k y0 y1 y2 y3 y4 y5 y6) (scan_Step.j2 (k + 1) y0 y1 y2 y3 y4 y5 y6)) ∧ (∀ y0 y1 y2 y3 y4 y5, LeO (scan_Step.j3 k y0 y1 y2 y3 y4 y5) (scan_Step.j3 (k + 1) y0 y1 y2 y3 y4 y5))
  | 0 => ⟨fun _ _ _ _ _ _ _ r h => by simp [scan_Step.j0] at h, fun _ _ _ _ _ _ _ r h => by simp [scan_Step.j1] at h, fun _ _ _ _ _ _ _ r h => by simp [scan_Step.j2] at h, fun _ _ _ _ _ _ r h => by simp [scan_Step.j3] at h⟩
  | k + 1 => by
    obtain ⟨ih0, ih1, ih2, ih3⟩ := scan_Step.mono_l k
    refine ⟨?_, ?_, ?_, ?_⟩
    · intro y0 y1 y2 y3 y4 y5 y6
      unfold scan_Step.j0
      repeat' first
      | (with_reducible exact ih0 _ _ _ _ _ _ _)
      | (with_reducible exact ih1 _ _ _ _ _ _ _)
      | (with_reducible exact ih2 _ _ _ _ _ _ _)
      | (with_reducible exact ih3 _ _ _ _ _ _)
      | (with_reducible exact scan_ends.mono _ _ _ _ _ _)
      | (with_reducible exact LeO.refl _)
      | (with_reducible exact LeO.none _)
      | (with_reducible refine LeO.ite ?_ ?_)
      | (with_reducible refine LeO.bind ?_ (fun _ => ?_))
      | exact ih0 _ _ _ _ _ _ _
      | exact ih1 _ _ _ _ _ _ _
      | exact ih2 _ _ _ _ _ _ _
      | exact ih3 _ _ _ _ _ _
      | exact scan_ends.mono _ _ _ _ _ _
      | exact LeO.none _
      | refine LeO.ite ?_ ?_
      | refine LeO.bind ?_ (fun _ => ?_)
    · intro y0 y1 y2 y3 y4 y5 y6
      unfold scan_Step.j1
      repeat' first
      | (with_reducible exact ih0 _ _ _ _ _ _ _)
      | (with_reducible exact ih1 _ _ _ _ _ _ _)
      | (with_reducible exact ih2 _ _ _ _ _ _ _)
      | (with_reducible exact ih3 _ _ _ _ _ _)
      | (with_reducible exact scan_ends.mono _ _ _ _ _ _)
      | (with_reducible exact LeO.refl _)
      | (with_reducible exact LeO.none _)
      | (with_reducible refine LeO.ite ?_ ?_)
      | (with_reducible refine LeO.bind ?_ (fun _ => ?_))
      | exact ih0 _ _ _ _ _ _ _
      | exact ih1 _ _ _ _ _ _ _
      | exact ih2 _ _ _ _ _ _ _
      | exact ih3 _ _ _ _ _ _
      | exact scan_ends.mono _ _ _ _ _ _
      | exact LeO.none _
      | refine LeO.ite ?_ ?_
      | refine LeO.bind ?_ (fun _ => ?_)
    · intro y0 y1 y2 y3 y4 y5 y6
      unfold scan_Step.j2
      repeat' first
      | (with_reducible exact ih0 _ _ _ _ _ _ _)
      | (with_reducible exact ih1 _ _ _ _ _ _ _)
      | (with_reducible exact ih2 _ _ _ _ _ _ _)
      | (with_reducible exact ih3 _ _ _ _ _ _)
      | (with_reducible exact scan_ends.mono _ _ _ _ _ _)
      | (with_reducible exact LeO.refl _)
      | (with_reducible exact LeO.none _)
      | (with_reducible refine LeO.ite ?_ ?_)
      | (with_reducible refine LeO.bind ?_ (fun _ => ?_))
      | exact ih0 _ _ _ _ _ _ _
      | exact ih1 _ _ _ _ _ _ _
      | exact ih2 _ _ _ _ _ _ _
      | exact ih3 _ _ _ _ _ _
      | exact scan_ends.mono _ _ _ _ _ _
      | exact LeO.none _
      | refine LeO.ite ?_ ?_
      | refine LeO.bind ?_ (fun _ => ?_)
    · intro y0 y1 y2 y3 y4 y5
      unfold scan_Step.j3
      repeat' first
      | (with_reducible exact ih0 _ _ _ _ _ _ _)
      | (with_reducible exact ih1 _ _ _ _ _ _ _)
      | (with_reducible exact ih2 _ _ _ _ _ _ _)
      | (with_reducible exact ih3 _ _ _ _ _ _)
      | (with_reducible exact scan_ends.mono _ _ _ _ _ _)
      | (with_reducible exact LeO.refl _)
      | (with_reducible exact LeO.none _)
      | (with_reducible refine LeO.ite ?_ ?_)
      | (with_reducible refine LeO.bind ?_ (fun _ => ?_))
      | exact ih0 _ _ _ _ _ _ _
      | exact ih1 _ _ _ _ _ _ _
      | exact ih2 _ _ _ _ _ _ _
      | exact ih3 _ _ _ _ _ _
      | exact scan_ends.mono _ _ _ _ _ _
      | exact LeO.none _
      | refine LeO.ite ?_ ?_
      | refine LeO.bind ?_ (fun _ => ?_)
theorem scan_Step.mono : ∀ a0 a1 a2 a3 a4 k, LeO (scan_Step.f k a0 a1 a2 a3 a4) (scan_Step.f (k + 1) a0 a1 a2 a3 a4) := by
  intro a0 a1 a2 a3 a4 k
  obtain ⟨ih0, ih1, ih2, ih3⟩ := scan_Step.mono_l k
  unfold scan_Step.f
  repeat' first
      | (with_reducible exact ih0 _ _ _ _ _ _ _)
      | (with_reducible exact ih1 _ _ _ _ _ _ _)
      | (with_reducible exact ih2 _ _ _ _ _ _ _)
      | (with_reducible exact ih3 _ _ _ _ _ _)
      | (with_reducible exact scan_ends.mono _ _ _ _ _ _)
      | (with_reducible exact LeO.refl _)
      | (with_reducible exact LeO.none _)
      | (with_reducible refine LeO.ite ?_ ?_)
      | (with_reducible refine LeO.bind ?_ (fun _ => ?_))
      | exact ih0 _ _ _ _ _ _ _
      | exact ih1 _ _ _ _ _ _ _
      | exact ih2 _ _ _ _ _ _ _
      | exact ih3 _ _ _ _ _ _
      | exact scan_ends.mono _ _ _ _ _ _
      | exact LeO.none _
      | refine LeO.ite ?_ ?_
      | refine LeO.bind ?_ (fun _ => ?_)
set_option maxHeartbeats 8000000 in
set_option maxRecDepth 100000 in
theorem scan_Step.calls (k : Nat) (a0_0 : Int) (a0_1 : Int) (a0_2 : Int) (a1 : Int) (a2 : Int) (r1 : Bool) (r2 : Bool) (r3 : Bool) (r4 : Bool) (r5 : Bool) (r6 : Int) (r7 : Int) (r8 : Int) (w : World) (h : scan_Step.f k a0_0 a0_1 a0_2 a1 a2 = some (r1, r2, r3, r4, r5, r6, r7, r8)) :
    Calls Tryd.prog 42 #[.agg #[.int .u8 a0_0, .int .u8 a0_1, .int .i64 a0_2], .int .i64 a1, .int .u8 a2] w fun e w' => e = .returned (.tuple #[.agg #[.bool r1, .bool r2, .bool r3, .bool r4, .bool r5, .int .u8 r6], .int .i64 r7, .int .i64 r8]) ∧ Below w.heap.size w w' := by
  have hu23 := Tryd.underlying23
  have hu77 := Tryd.underlying77
  have HB := Aside0.mk (Below.refl w.heap.size w)
  have H : (if a1 ≥ 5 then ((scan_pending.f a1 a2).bind fun bt121 => (some (bt121.1, bt121.2.1, bt121.2.2.1, bt121.2.2.2.1, bt121.2.2.2.2.1, bt121.2.2.2.2.2.1, bt121.2.2.2.2.2.2.1, bt121.2.2.2.2.2.2.2))) else (if a1 = 3 then (scan_Step.j0 k a1 a2 (a1 == 0) (a2 == a0_1) a0_0 a0_1 a0_2) else (scan_Step.j0 k a1 a2 (a1 == 0) false a0_0 a0_1 a0_2))) = some (r1, r2, r3, r4, r5, r6, r7, r8) := h
  clear h
  by_cases c4 : a1 ≥ 5
  · rw [if_pos c4] at H
    have c4b0 : decide (5 ≤ a1) = true := decide_eq_true c4
    clear c4
    replace H := Option.bind_eq_some_iff.mp H
    obtain ⟨⟨t121, t122, t123, t124, t125, t126, t127, t128⟩, A50, H⟩ := H
    replace H : (some (t121, t122, t123, t124, t125, t126, t127, t128)) = some (r1, r2, r3, r4, r5, r6, r7, r8) := H
    have A5 := Aside0.mk A50
    clear A50
    simp only [Option.some.injEq, Prod.mk.injEq] at H
    obtain ⟨rfl, rfl, rfl, rfl, rfl, rfl, rfl, rfl⟩ := H
    go_enter Tryd.func42, Tryd.ntmps42
    go_wp2_with (first | ((with_reducible refine gate_dst (N := 3) rfl ?_); refine box_event ?hg (N := 3) ?hd (cs := #[.int .u8 a0_0, .int .u8 a0_1, .int .i64 a0_2]) (t := 23) ?hr ?_; (case hd => rfl); (case hg => rfl); (case hr => first | (go_simp; done) | (go_simp; rfl)); intro gb119 hg w6 hbox hb; have n0_ := Aside0.mk (below_step (by repeat (first | (with_reducible first | exact HB.out | apply below_alloc | apply pw_below_drewN | apply below_drew1) | exact HB.out)) hb); have n1_ := Aside0.mk (hbox); have n2_ := Aside0.mk ((by rw [hg]; exact (below_size (by repeat (first | (with_reducible first | exact HB.out | apply below_alloc | apply pw_below_drewN | apply below_drew1) | exact HB.out))) : w.heap.size ≤ gb119)); have n3_ := Aside0.mk ((by rw [hg]; exact (below_size (by repeat (first | (with_reducible first | exact HB.out | apply below_alloc | apply pw_below_drewN | apply below_drew1) | exact HB.out))) : w.heap.size ≤ gb119)); clear HB; have HB := n0_; have BK119 := n1_; have GW119 := n2_; have GE119 := n3_; clear n0_ n1_ n2_ n3_; clear hb hbox hg) | ((with_reducible refine gate_dst (N := 6) rfl ?_); refine box_event ?hg (N := 6) ?hd (cs := #[.bool false, .bool false, .bool false, .bool false, .bool false, .int .u8 0]) (t := 77) ?hr ?_; (case hd => rfl); (case hg => rfl); (case hr => first | (go_simp; done) | (go_simp; rfl)); intro gb120 hg w7 hbox hb; have n0_ := Aside0.mk (blk_below (g := gb119) (o := .cells #[.int .u8 a0_0, .int .u8 a0_1, .int .i64 a0_2] 23 (0, 0)) (by (with_reducible repeat (first | refine blk_drewN ?_ _ | refine blk_drew ?_ | refine blk_alloc ?_ _)); exact BK119.out) hb); have n1_ := Aside0.mk (below_step (by repeat (first | (with_reducible first | exact HB.out | apply below_alloc | apply pw_below_drewN | apply below_drew1 | refine below_set ?_ GE119.out) | exact HB.out)) hb); have n2_ := Aside0.mk (hbox); have n3_ := Aside0.mk ((by rw [hg]; exact (below_size (by repeat (first | (with_reducible first | exact HB.out | apply below_alloc | apply pw_below_drewN | apply below_drew1 | refine below_set ?_ GE119.out) | exact HB.out))) : w.heap.size ≤ gb120)); have n4_ := Aside0.mk ((by rw [hg]; exact (below_size (by repeat (first | (with_reducible first | exact HB.out | apply below_alloc | apply pw_below_drewN | apply below_drew1 | refine below_set ?_ GE119.out) | exact HB.out))) : w.heap.size ≤ gb120)); have n5_ := Aside0.mk ((by rw [hg]; exact Nat.ne_of_lt (blk_lt (g := gb119) (o := .cells #[.int .u8 a0_0, .int .u8 a0_1, .int .i64 a0_2] 23 (0, 0)) (by (with_reducible repeat (first | refine blk_drewN ?_ _ | refine blk_drew ?_ | refine blk_alloc ?_ _)); exact BK119.out)) : gb119 ≠ gb120)); have n6_ := Aside0.mk ((by rw [hg]; exact Nat.ne_of_gt (blk_lt (g := gb119) (o := .cells #[.int .u8 a0_0, .int .u8 a0_1, .int .i64 a0_2] 23 (0, 0)) (by (with_reducible repeat (first | refine blk_drewN ?_ _ | refine blk_drew ?_ | refine blk_alloc ?_ _)); exact BK119.out)) : gb120 ≠ gb119)); clear BK119; clear HB; have BK119 := n0_; have HB := n1_; have BK120 := n2_; have GW120 := n3_; have GE120 := n4_; have NB119_120 := n5_; have NB120_119 := n6_; clear n0_ n1_ n2_ n3_ n4_ n5_ n6_; clear hb hbox hg) | ((with_reducible refine gate_callee (f := 51) rfl ?_); refine goesL_ (some 17) rfl rfl Tryd.func51 (by kernel_rfl) rfl #[.int .i64 a1, .int .u8 a2] rfl (by (try simp only [List.map_toArray, List.map_cons, List.map_nil]); first | done | rfl | (simp only [List.length_drop, List.length_take]; rfl)) ?_; (with_reducible refine (scan_pending.calls a1 a2 t121 t122 t123 t124 t125 t126 t127 t128 _ A5.out).mono ?_); rintro e w8 ⟨rfl, hb⟩; refine ⟨_, rfl, ?_⟩; have n0_ := Aside0.mk (blk_below (g := gb119) (o := .cells #[.int .u8 a0_0, .int .u8 a0_1, .int .i64 a0_2] 23 (0, 0)) (by (with_reducible repeat (first | refine blk_drewN ?_ _ | refine blk_drew ?_ | refine blk_alloc ?_ _)); exact BK119.out) hb); have n1_ := Aside0.mk (blk_below (g := gb120) (o := .cells #[.bool false, .bool false, .bool false, .bool false, .bool false, .int .u8 0] 77 (0, 0)) (by (with_reducible repeat (first | refine blk_drewN ?_ _ | refine blk_drew ?_ | refine blk_alloc ?_ _)); exact BK120.out) hb); have n2_ := Aside0.mk (below_step (by repeat (first | (with_reducible first | exact HB.out | apply below_alloc | apply pw_below_drewN | apply below_drew1 | refine below_set ?_ GE119.out | refine below_set ?_ GE120.out) | exact HB.out)) hb); clear BK119; clear BK120; clear HB; have BK119 := n0_; have BK120 := n1_; have HB := n2_; clear n0_ n1_ n2_; (try clear hb); (try clear hb2); (try clear hk); (try clear hi); have hnb9 := NB120_119.out; have hnc9 := NB119_120.out; have hcz10_0 : w8.cell? ⟨gb120, 0, none⟩ = some (.bool false) := (blk_cell BK120.out 0).trans rfl; have hcz10_1 : w8.cell? ⟨gb120, 1, none⟩ = some (.bool false) := (blk_cell BK120.out 1).trans rfl; have hcz10_2 : w8.cell? ⟨gb120, 2, none⟩ = some (.bool false) := (blk_cell BK120.out 2).trans rfl; have hcz10_3 : w8.cell? ⟨gb120, 3, none⟩ = some (.bool false) := (blk_cell BK120.out 3).trans rfl; have hcz10_4 : w8.cell? ⟨gb120, 4, none⟩ = some (.bool false) := (blk_cell BK120.out 4).trans rfl; have hcz10_5 : w8.cell? ⟨gb120, 5, none⟩ = some (.int .u8 0) := (blk_cell BK120.out 5).trans rfl; have hfz10_0 := blk_frozen BK120.out 0; have hfz10_1 := blk_frozen BK120.out 1; have hfz10_2 := blk_frozen BK120.out 2; have hfz10_3 := blk_frozen BK120.out 3; have hfz10_4 := blk_frozen BK120.out 4; have hfz10_5 := blk_frozen BK120.out 5))
    refine bodyPost_ret (results_ctt rfl _ _ gb120 77 #[.bool t121, .bool t122, .bool t123, .bool t124, .bool t125, .int .u8 t126] (0, 0) _ rfl (by (with_reducible repeat (first | refine blk_drewN ?_ _ | refine blk_drew ?_ | refine blk_alloc ?_ _)); refine blk_put (cs := #[.bool t121, .bool t122, .bool t123, .bool t124, .bool t125, .int .u8 0]) ?_ 5 _ rfl; (with_reducible repeat (first | refine blk_drewN ?_ _ | refine blk_drew ?_ | refine blk_alloc ?_ _)); refine blk_put (cs := #[.bool t121, .bool t122, .bool t123, .bool t124, .bool false, .int .u8 0]) ?_ 4 _ rfl; (with_reducible repeat (first | refine blk_drewN ?_ _ | refine blk_drew ?_ | refine blk_alloc ?_ _)); refine blk_put (cs := #[.bool t121, .bool t122, .bool t123, .bool false, .bool false, .int .u8 0]) ?_ 3 _ rfl; (with_reducible repeat (first | refine blk_drewN ?_ _ | refine blk_drew ?_ | refine blk_alloc ?_ _)); refine blk_put (cs := #[.bool t121, .bool t122, .bool false, .bool false, .bool false, .int .u8 0]) ?_ 2 _ rfl; (with_reducible repeat (first | refine blk_drewN ?_ _ | refine blk_drew ?_ | refine blk_alloc ?_ _)); refine blk_put (cs := #[.bool t121, .bool false, .bool false, .bool false, .bool false, .int .u8 0]) ?_ 1 _ rfl; (with_reducible repeat (first | refine blk_drewN ?_ _ | refine blk_drew ?_ | refine blk_alloc ?_ _)); refine blk_put (cs := #[.bool false, .bool false, .bool false, .bool false, .bool false, .int .u8 0]) ?_ 0 _ rfl; (with_reducible repeat (first | refine blk_drewN ?_ _ | refine blk_drew ?_ | refine blk_alloc ?_ _)); exact BK120.out) Tryd.underlying77 rfl (by kernel_rfl)) rfl ?_
    exact ⟨by first | rfl | (simp [errW_none, errW_some] <;> rfl) | (simp [*, errW_none, errW_some] <;> rfl), by repeat (first | (with_reducible first | exact HB.out | apply below_alloc | apply pw_below_drewN | apply below_drew1 | refine below_set ?_ GE119.out | refine below_set ?_ GE120.out) | exact HB.out)⟩
  · rw [if_neg c4] at H
    have c4b0 : decide (5 ≤ a1) = false := decide_eq_false c4
    clear c4
    have HC11 := Aside0.mk H
    clear H
    go_enter Tryd.func42, Tryd.ntmps42
    go_upto_region 4 with (first | ((with_reducible refine gate_dst (N := 3) rfl ?_); refine box_event ?hg (N := 3) ?hd (cs := #[.int .u8 a0_0, .int .u8 a0_1, .int .i64 a0_2]) (t := 23) ?hr ?_; (case hd => rfl); (case hg => rfl); (case hr => first | (go_simp; done) | (go_simp; rfl)); intro gb119 hg w12 hbox hb; have n0_ := Aside0.mk (below_step (by repeat (first | (with_reducible first | exact HB.out | apply below_alloc | apply pw_below_drewN | apply below_drew1) | exact HB.out)) hb); have n1_ := Aside0.mk (hbox); have n2_ := Aside0.mk ((by rw [hg]; exact (below_size (by repeat (first | (with_reducible first | exact HB.out | apply below_alloc | apply pw_below_drewN | apply below_drew1) | exact HB.out))) : w.heap.size ≤ gb119)); have n3_ := Aside0.mk ((by rw [hg]; exact (below_size (by repeat (first | (with_reducible first | exact HB.out | apply below_alloc | apply pw_below_drewN | apply below_drew1) | exact HB.out))) : w.heap.size ≤ gb119)); clear HB; have HB := n0_; have BK119 := n1_; have GW119 := n2_; have GE119 := n3_; clear n0_ n1_ n2_ n3_; clear hb hbox hg) | ((with_reducible refine gate_dst (N := 6) rfl ?_); refine box_event ?hg (N := 6) ?hd (cs := #[.bool false, .bool false, .bool false, .bool false, .bool false, .int .u8 0]) (t := 77) ?hr ?_; (case hd => rfl); (case hg => rfl); (case hr => first | (go_simp; done) | (go_simp; rfl)); intro gb120 hg w13 hbox hb; have n0_ := Aside0.mk (blk_below (g := gb119) (o := .cells #[.int .u8 a0_0, .int .u8 a0_1, .int .i64 a0_2] 23 (0, 0)) (by (with_reducible repeat (first | refine blk_drewN ?_ _ | refine blk_drew ?_ | refine blk_alloc ?_ _)); exact BK119.out) hb); have n1_ := Aside0.mk (below_step (by repeat (first | (with_reducible first | exact HB.out | apply below_alloc | apply pw_below_drewN | apply below_drew1 | refine below_set ?_ GE119.out) | exact HB.out)) hb); have n2_ := Aside0.mk (hbox); have n3_ := Aside0.mk ((by rw [hg]; exact (below_size (by repeat (first | (with_reducible first | exact HB.out | apply below_alloc | apply pw_below_drewN | apply below_drew1 | refine below_set ?_ GE119.out) | exact HB.out))) : w.heap.size ≤ gb120)); have n4_ := Aside0.mk ((by rw [hg]; exact (below_size (by repeat (first | (with_reducible first | exact HB.out | apply below_alloc | apply pw_below_drewN | apply below_drew1 | refine below_set ?_ GE119.out) | exact HB.out))) : w.heap.size ≤ gb120)); have n5_ := Aside0.mk ((by rw [hg]; exact Nat.ne_of_lt (blk_lt (g := gb119) (o := .cells #[.int .u8 a0_0, .int .u8 a0_1, .int .i64 a0_2] 23 (0, 0)) (by (with_reducible repeat (first | refine blk_drewN ?_ _ | refine blk_drew ?_ | refine blk_alloc ?_ _)); exact BK119.out)) : gb119 ≠ gb120)); have n6_ := Aside0.mk ((by rw [hg]; exact Nat.ne_of_gt (blk_lt (g := gb119) (o := .cells #[.int .u8 a0_0, .int .u8 a0_1, .int .i64 a0_2] 23 (0, 0)) (by (with_reducible repeat (first | refine blk_drewN ?_ _ | refine blk_drew ?_ | refine blk_alloc ?_ _)); exact BK119.out)) : gb120 ≠ gb119)); clear BK119; clear HB; have BK119 := n0_; have HB := n1_; have BK120 := n2_; have GW120 := n3_; have GE120 := n4_; have NB119_120 := n5_; have NB120_119 := n6_; clear n0_ n1_ n2_ n3_ n4_ n5_ n6_; clear hb hbox hg))
    (try simp only [Act.put, List.setIfInBounds_toArray, List.set_cons_zero, List.set_cons_succ])
    go_cut [21] (fun v21 wc => ∃ (kq : Nat) (x21_10 : Bool), v21 = .bool x21_10 ∧ Aside0 (scan_Step.j0 kq a1 a2 (a1 == 0) x21_10 a0_0 a0_1 a0_2 = some (r1, r2, r3, r4, r5, r6, r7, r8)) ∧ Aside0 (kq ≤ k) ∧ Aside0 (wc.heap[gb119]? = some (.cells #[.int .u8 a0_0, .int .u8 a0_1, .int .i64 a0_2] 23 (0, 0))) ∧ Aside0 (wc.heap[gb120]? = some (.cells #[.bool false, .bool false, .bool false, .bool false, .bool false, .int .u8 0] 77 (0, 0))) ∧ Aside0 (Below w.heap.size w wc))
    case first =>
      have H := HC11.out
      clear HC11
      by_cases c14 : a1 = 3
      · rw [if_pos c14] at H
        have c14b0 : (a1 == 3) = true := beq_iff_eq.mpr c14
        have c14b1 : (a1 != 3) = false := bne_eq_false_iff_eq.mpr c14
        clear c14
        (first | rw [c14b0] | (simp only [i64_w, i32_w]; rw [c14b0]) | skip)
        have H' := Aside0.mk H
        clear H
        have hnb15 := NB119_120.out
        have hnc15 := NB120_119.out
        have hcz16_0 : w13.cell? ⟨gb119, 0, none⟩ = some (.int .u8 a0_0) := (blk_cell BK119.out 0).trans rfl
        have hcz16_1 : w13.cell? ⟨gb119, 1, none⟩ = some (.int .u8 a0_1) := (blk_cell BK119.out 1).trans rfl
        have hcz16_2 : w13.cell? ⟨gb119, 2, none⟩ = some (.int .i64 a0_2) := (blk_cell BK119.out 2).trans rfl
        have hfz16_0 := blk_frozen BK119.out 0
        have hfz16_1 := blk_frozen BK119.out 1
        have hfz16_2 := blk_frozen BK119.out 2
        go_wp2
        go_meet
        case rel => exact ⟨_, ((a2 == a0_1)), (by first | rfl | (simp; done) | (simp [*]; done)), H', ⟨by first | omega | exact Nat.le_refl _⟩, ⟨by (with_reducible repeat (first | refine blk_drewN ?_ _ | refine blk_drew ?_ | refine blk_alloc ?_ _)); exact BK119.out⟩, ⟨by (with_reducible repeat (first | refine blk_drewN ?_ _ | refine blk_drew ?_ | refine blk_alloc ?_ _)); exact BK120.out⟩, ⟨by repeat (first | (with_reducible first | exact HB.out | apply below_alloc | apply pw_below_drewN | apply below_drew1 | refine below_set ?_ GE119.out | refine below_set ?_ GE120.out) | exact HB.out)⟩⟩
      · rw [if_neg c14] at H
        have c14b0 : (a1 == 3) = false := beq_eq_false_iff_ne.mpr c14
        have c14b1 : (a1 != 3) = true := bne_iff_ne.mpr c14
        (first | rw [c14b0] | (simp only [i64_w, i32_w]; rw [c14b0]) | skip)
        have H' := Aside0.mk H
        clear H
        go_wp2
        go_meet
        case rel => exact ⟨_, (false), (by first | rfl | (simp; done) | (simp [*]; done)), H', ⟨by first | omega | exact Nat.le_refl _⟩, ⟨by (with_reducible repeat (first | refine blk_drewN ?_ _ | refine blk_drew ?_ | refine blk_alloc ?_ _)); exact BK119.out⟩, ⟨by (with_reducible repeat (first | refine blk_drewN ?_ _ | refine blk_drew ?_ | refine blk_alloc ?_ _)); exact BK120.out⟩, ⟨by repeat (first | (with_reducible first | exact HB.out | apply below_alloc | apply pw_below_drewN | apply below_drew1 | refine below_set ?_ GE119.out | refine below_set ?_ GE120.out) | exact HB.out)⟩⟩
    case rest =>
      clear HC11
      try clear c1
      try clear p2
      try clear c4
      try clear c4b0
      try clear c5
      try clear c9
      try clear c14
      try clear c14b0
      try clear c14b1
      try clear c15
      try clear hcz10_0
      try clear hcz10_1
      try clear hcz10_2
      try clear hcz10_3
      try clear hcz10_4
      try clear hcz10_5
      try clear hcz16_0
      try clear hcz16_1
      try clear hcz16_2
      try clear hfz10_0
      try clear hfz10_1
      try clear hfz10_2
      try clear hfz10_3
      try clear hfz10_4
      try clear hfz10_5
      try clear hfz16_0
      try clear hfz16_1
      try clear hfz16_2
      obtain ⟨kq, x21_10, rfl, HA, HJ10, BK119, BK120, HB⟩ := hcut
      cases kq with
      | zero => exact absurd HA.out (by simp [scan_Step.j0])
      | succ kj10 =>
        have H := HA.out
        clear HA
        simp only [scan_Step.j0] at H
        by_cases c17 : x21_10 = true
        · subst c17
          have H1 : (some (false, false, false, false, false, 0, 4, 0)) = some (r1, r2, r3, r4, r5, r6, r7, r8) := by rw [if_pos rfl] at H; exact H
          clear H
          have H := H1
          clear H1
          simp only [Option.some.injEq, Prod.mk.injEq] at H
          obtain ⟨rfl, rfl, rfl, rfl, rfl, rfl, rfl, rfl⟩ := H
          have hnb18 := NB120_119.out
          have hnc18 := NB119_120.out
          have hcz19_0 : wc.cell? ⟨gb120, 0, none⟩ = some (.bool false) := (blk_cell BK120.out 0).trans rfl
          have hcz19_1 : wc.cell? ⟨gb120, 1, none⟩ = some (.bool false) := (blk_cell BK120.out 1).trans rfl
          have hcz19_2 : wc.cell? ⟨gb120, 2, none⟩ = some (.bool false) := (blk_cell BK120.out 2).trans rfl
          have hcz19_3 : wc.cell? ⟨gb120, 3, none⟩ = some (.bool false) := (blk_cell BK120.out 3).trans rfl
          have hcz19_4 : wc.cell? ⟨gb120, 4, none⟩ = some (.bool false) := (blk_cell BK120.out 4).trans rfl
          have hcz19_5 : wc.cell? ⟨gb120, 5, none⟩ = some (.int .u8 0) := (blk_cell BK120.out 5).trans rfl
          have hfz19_0 := blk_frozen BK120.out 0
          have hfz19_1 := blk_frozen BK120.out 1
          have hfz19_2 := blk_frozen BK120.out 2
          have hfz19_3 := blk_frozen BK120.out 3
          have hfz19_4 := blk_frozen BK120.out 4
          have hfz19_5 := blk_frozen BK120.out 5
          go_wp2
          refine bodyPost_ret (results_ctt rfl _ _ gb120 77 #[.bool false, .bool false, .bool false, .bool false, .bool false, .int .u8 0] (0, 0) _ rfl (by (with_reducible repeat (first | refine blk_drewN ?_ _ | refine blk_drew ?_ | refine blk_alloc ?_ _)); refine blk_put (cs := #[.bool false, .bool false, .bool false, .bool false, .bool false, .int .u8 0]) ?_ 5 _ rfl; (with_reducible repeat (first | refine blk_drewN ?_ _ | refine blk_drew ?_ | refine blk_alloc ?_ _)); refine blk_put (cs := #[.bool false, .bool false, .bool false, .bool false, .bool false, .int .u8 0]) ?_ 4 _ rfl; (with_reducible repeat (first | refine blk_drewN ?_ _ | refine blk_drew ?_ | refine blk_alloc ?_ _)); refine blk_put (cs := #[.bool false, .bool false, .bool false, .bool false, .bool false, .int .u8 0]) ?_ 3 _ rfl; (with_reducible repeat (first | refine blk_drewN ?_ _ | refine blk_drew ?_ | refine blk_alloc ?_ _)); refine blk_put (cs := #[.bool false, .bool false, .bool false, .bool false, .bool false, .int .u8 0]) ?_ 2 _ rfl; (with_reducible repeat (first | refine blk_drewN ?_ _ | refine blk_drew ?_ | refine blk_alloc ?_ _)); refine blk_put (cs := #[.bool false, .bool false, .bool false, .bool false, .bool false, .int .u8 0]) ?_ 1 _ rfl; (with_reducible repeat (first | refine blk_drewN ?_ _ | refine blk_drew ?_ | refine blk_alloc ?_ _)); refine blk_put (cs := #[.bool false, .bool false, .bool false, .bool false, .bool false, .int .u8 0]) ?_ 0 _ rfl; (with_reducible repeat (first | refine blk_drewN ?_ _ | refine blk_drew ?_ | refine blk_alloc ?_ _)); exact BK120.out) Tryd.underlying77 rfl (by kernel_rfl)) rfl ?_
          exact ⟨by first | rfl | (simp [errW_none, errW_some] <;> rfl) | (simp [*, errW_none, errW_some] <;> rfl), by repeat (first | (with_reducible first | exact HB.out | apply below_alloc | apply pw_below_drewN | apply below_drew1 | refine below_set ?_ GE119.out | refine below_set ?_ GE120.out) | exact HB.out)⟩
        · replace c17 := Bool.eq_false_iff.mpr c17
          subst c17
          have H1 : (if a1 = 3 then (scan_Step.j1 kj10 a1 a2 (a1 == 0) true a0_0 a0_1 a0_2) else (if a1 = 4 then (scan_Step.j1 kj10 a1 a2 (a1 == 0) (a2 == a0_1) a0_0 a0_1 a0_2) else (scan_Step.j1 kj10 a1 a2 (a1 == 0) false a0_0 a0_1 a0_2))) = some (r1, r2, r3, r4, r5, r6, r7, r8) := by rw [if_neg (show ¬ (false = true) by decide)] at H; exact H
          clear H
          have H := H1
          clear H1
          have HC20 := Aside0.mk H
          clear H
          go_upto_region 6 with (fail)
          go_cut [31] (fun v31 wc => ∃ (kq : Nat) (x31_19 : Bool), v31 = .bool x31_19 ∧ Aside0 (scan_Step.j1 kq a1 a2 (a1 == 0) x31_19 a0_0 a0_1 a0_2 = some (r1, r2, r3, r4, r5, r6, r7, r8)) ∧ Aside0 (kq ≤ kj10) ∧ Aside0 (wc.heap[gb119]? = some (.cells #[.int .u8 a0_0, .int .u8 a0_1, .int .i64 a0_2] 23 (0, 0))) ∧ Aside0 (wc.heap[gb120]? = some (.cells #[.bool false, .bool false, .bool false, .bool false, .bool false, .int .u8 0] 77 (0, 0))) ∧ Aside0 (Below w.heap.size w wc))
          case first =>
            have H := HC20.out
            clear HC20
            by_cases c21 : a1 = 3
            · rw [if_pos c21] at H
              have c21b0 : (a1 == 3) = true := beq_iff_eq.mpr c21
              have c21b1 : (a1 != 3) = false := bne_eq_false_iff_eq.mpr c21
              clear c21
              (first | rw [c21b0] | (simp only [i64_w, i32_w]; rw [c21b0]) | skip)
              have H' := Aside0.mk H
              clear H
              go_wp2
              go_meet
              case rel => exact ⟨_, (true), (by first | rfl | (simp; done) | (simp [*]; done)), H', ⟨by have := HJ10.out; first | omega | exact Nat.le_refl _⟩, ⟨by (with_reducible repeat (first | refine blk_drewN ?_ _ | refine blk_drew ?_ | refine blk_alloc ?_ _)); exact BK119.out⟩, ⟨by (with_reducible repeat (first | refine blk_drewN ?_ _ | refine blk_drew ?_ | refine blk_alloc ?_ _)); exact BK120.out⟩, ⟨by repeat (first | (with_reducible first | exact HB.out | apply below_alloc | apply pw_below_drewN | apply below_drew1 | refine below_set ?_ GE119.out | refine below_set ?_ GE120.out) | exact HB.out)⟩⟩
            · rw [if_neg c21] at H
              have c21b0 : (a1 == 3) = false := beq_eq_false_iff_ne.mpr c21
              have c21b1 : (a1 != 3) = true := bne_iff_ne.mpr c21
              (first | rw [c21b0] | (simp only [i64_w, i32_w]; rw [c21b0]) | skip)
              by_cases c22 : a1 = 4
              · rw [if_pos c22] at H
                have c22b0 : (a1 == 4) = true := beq_iff_eq.mpr c22
                have c22b1 : (a1 != 4) = false := bne_eq_false_iff_eq.mpr c22
                clear c22
                have H' := Aside0.mk H
                clear H
                have hnb23 := NB119_120.out
                have hnc23 := NB120_119.out
                have hcz24_0 : wc.cell? ⟨gb119, 0, none⟩ = some (.int .u8 a0_0) := (blk_cell BK119.out 0).trans rfl
                have hcz24_1 : wc.cell? ⟨gb119, 1, none⟩ = some (.int .u8 a0_1) := (blk_cell BK119.out 1).trans rfl
                have hcz24_2 : wc.cell? ⟨gb119, 2, none⟩ = some (.int .i64 a0_2) := (blk_cell BK119.out 2).trans rfl
                have hfz24_0 := blk_frozen BK119.out 0
                have hfz24_1 := blk_frozen BK119.out 1
                have hfz24_2 := blk_frozen BK119.out 2
                go_wp2
                go_meet
                case rel => exact ⟨_, ((a2 == a0_1)), (by first | rfl | (simp; done) | (simp [*]; done)), H', ⟨by have := HJ10.out; first | omega | exact Nat.le_refl _⟩, ⟨by (with_reducible repeat (first | refine blk_drewN ?_ _ | refine blk_drew ?_ | refine blk_alloc ?_ _)); exact BK119.out⟩, ⟨by (with_reducible repeat (first | refine blk_drewN ?_ _ | refine blk_drew ?_ | refine blk_alloc ?_ _)); exact BK120.out⟩, ⟨by repeat (first | (with_reducible first | exact HB.out | apply below_alloc | apply pw_below_drewN | apply below_drew1 | refine below_set ?_ GE119.out | refine below_set ?_ GE120.out) | exact HB.out)⟩⟩
              · rw [if_neg c22] at H
                have c22b0 : (a1 == 4) = false := beq_eq_false_iff_ne.mpr c22
                have c22b1 : (a1 != 4) = true := bne_iff_ne.mpr c22
                have H' := Aside0.mk H
                clear H
                go_wp2
                go_meet
                case rel => exact ⟨_, (false), (by first | rfl | (simp; done) | (simp [*]; done)), H', ⟨by have := HJ10.out; first | omega | exact Nat.le_refl _⟩, ⟨by (with_reducible repeat (first | refine blk_drewN ?_ _ | refine blk_drew ?_ | refine blk_alloc ?_ _)); exact BK119.out⟩, ⟨by (with_reducible repeat (first | refine blk_drewN ?_ _ | refine blk_drew ?_ | refine blk_alloc ?_ _)); exact BK120.out⟩, ⟨by repeat (first | (with_reducible first | exact HB.out | apply below_alloc | apply pw_below_drewN | apply below_drew1 | refine below_set ?_ GE119.out | refine below_set ?_ GE120.out) | exact HB.out)⟩⟩
          case rest =>
            clear HC20
            try clear c1
            try clear c2
            try clear p2
            try clear c4
            try clear c4b0
            try clear c5
            try clear c9
            try clear c14
            try clear c14b0
            try clear c14b1
            try clear c15
            try clear c17
            try clear c18
            try clear c21
            try clear c21b0
            try clear c21b1
            try clear c22
            try clear c22b0
            try clear c22b1
            try clear c23
            try clear hcz10_0
            try clear hcz10_1
            try clear hcz10_2
            try clear hcz10_3
            try clear hcz10_4
            try clear hcz10_5
            try clear hcz16_0
            try clear hcz16_1
            try clear hcz16_2
            try clear hcz19_0
            try clear hcz19_1
            try clear hcz19_2
            try clear hcz19_3
            try clear hcz19_4
            try clear hcz19_5
            try clear hcz24_0
            try clear hcz24_1
            try clear hcz24_2
            try clear hfz10_0
            try clear hfz10_1
            try clear hfz10_2
            try clear hfz10_3
            try clear hfz10_4
            try clear hfz10_5
            try clear hfz16_0
            try clear hfz16_1
            try clear hfz16_2
            try clear hfz19_0
            try clear hfz19_1
            try clear hfz19_2
            try clear hfz19_3
            try clear hfz19_4
            try clear hfz19_5
            try clear hfz24_0
            try clear hfz24_1
            try clear hfz24_2
            try clear p2
            obtain ⟨kq, x31_19, rfl, HA, HJ19, BK119, BK120, HB⟩ := hcut
            cases kq with
            | zero => exact absurd HA.out (by simp [scan_Step.j1])
            | succ kj19 =>
              have H := HA.out
              clear HA
              simp only [scan_Step.j1] at H
              by_cases c25 : x31_19 = true
              · subst c25
                have H1 : (some (false, true, false, false, false, a2, 3, 0)) = some (r1, r2, r3, r4, r5, r6, r7, r8) := by rw [if_pos rfl] at H; exact H
                clear H
                have H := H1
                clear H1
                simp only [Option.some.injEq, Prod.mk.injEq] at H
                obtain ⟨rfl, rfl, rfl, rfl, rfl, rfl, rfl, rfl⟩ := H
                have hnb26 := NB120_119.out
                have hnc26 := NB119_120.out
                have hcz27_0 : wc.cell? ⟨gb120, 0, none⟩ = some (.bool false) := (blk_cell BK120.out 0).trans rfl
                have hcz27_1 : wc.cell? ⟨gb120, 1, none⟩ = some (.bool false) := (blk_cell BK120.out 1).trans rfl
                have hcz27_2 : wc.cell? ⟨gb120, 2, none⟩ = some (.bool false) := (blk_cell BK120.out 2).trans rfl
                have hcz27_3 : wc.cell? ⟨gb120, 3, none⟩ = some (.bool false) := (blk_cell BK120.out 3).trans rfl
                have hcz27_4 : wc.cell? ⟨gb120, 4, none⟩ = some (.bool false) := (blk_cell BK120.out 4).trans rfl
                have hcz27_5 : wc.cell? ⟨gb120, 5, none⟩ = some (.int .u8 0) := (blk_cell BK120.out 5).trans rfl
                have hfz27_0 := blk_frozen BK120.out 0
                have hfz27_1 := blk_frozen BK120.out 1
                have hfz27_2 := blk_frozen BK120.out 2
                have hfz27_3 := blk_frozen BK120.out 3
                have hfz27_4 := blk_frozen BK120.out 4
                have hfz27_5 := blk_frozen BK120.out 5
                go_wp2
                refine bodyPost_ret (results_ctt rfl _ _ gb120 77 #[.bool false, .bool true, .bool false, .bool false, .bool false, .int .u8 a2] (0, 0) _ rfl (by (with_reducible repeat (first | refine blk_drewN ?_ _ | refine blk_drew ?_ | refine blk_alloc ?_ _)); refine blk_put (cs := #[.bool false, .bool true, .bool false, .bool false, .bool false, .int .u8 0]) ?_ 5 _ rfl; (with_reducible repeat (first | refine blk_drewN ?_ _ | refine blk_drew ?_ | refine blk_alloc ?_ _)); refine blk_put (cs := #[.bool false, .bool true, .bool false, .bool false, .bool false, .int .u8 0]) ?_ 4 _ rfl; (with_reducible repeat (first | refine blk_drewN ?_ _ | refine blk_drew ?_ | refine blk_alloc ?_ _)); refine blk_put (cs := #[.bool false, .bool true, .bool false, .bool false, .bool false, .int .u8 0]) ?_ 3 _ rfl; (with_reducible repeat (first | refine blk_drewN ?_ _ | refine blk_drew ?_ | refine blk_alloc ?_ _)); refine blk_put (cs := #[.bool false, .bool true, .bool false, .bool false, .bool false, .int .u8 0]) ?_ 2 _ rfl; (with_reducible repeat (first | refine blk_drewN ?_ _ | refine blk_drew ?_ | refine blk_alloc ?_ _)); refine blk_put (cs := #[.bool false, .bool false, .bool false, .bool false, .bool false, .int .u8 0]) ?_ 1 _ rfl; (with_reducible repeat (first | refine blk_drewN ?_ _ | refine blk_drew ?_ | refine blk_alloc ?_ _)); refine blk_put (cs := #[.bool false, .bool false, .bool false, .bool false, .bool false, .int .u8 0]) ?_ 0 _ rfl; (with_reducible repeat (first | refine blk_drewN ?_ _ | refine blk_drew ?_ | refine blk_alloc ?_ _)); exact BK120.out) Tryd.underlying77 rfl (by kernel_rfl)) rfl ?_
                exact ⟨by first | rfl | (simp [errW_none, errW_some] <;> rfl) | (simp [*, errW_none, errW_some] <;> rfl), by repeat (first | (with_reducible first | exact HB.out | apply below_alloc | apply pw_below_drewN | apply below_drew1 | refine below_set ?_ GE119.out | refine below_set ?_ GE120.out) | exact HB.out)⟩
              · replace c25 := Bool.eq_false_iff.mpr c25
                subst c25
                have H1 : (if a2 = a0_0 then (some ((a1 == 0), false, true, false, false, 0, 1, 0)) else (if a2 = 13 then (scan_Step.j2 kj19 a1 a2 (a1 == 0) true a0_0 a0_1 a0_2) else (scan_Step.j2 kj19 a1 a2 (a1 == 0) (a2 == 10) a0_0 a0_1 a0_2))) = some (r1, r2, r3, r4, r5, r6, r7, r8) := by rw [if_neg (show ¬ (false = true) by decide)] at H; exact H
                clear H
                have H := H1
                clear H1
                by_cases c28 : a2 = a0_0
                · rw [if_pos c28] at H
                  have c28b0 : (a2 == a0_0) = true := beq_iff_eq.mpr c28
                  have c28b1 : (a2 != a0_0) = false := bne_eq_false_iff_eq.mpr c28
                  clear c28
                  simp only [Option.some.injEq, Prod.mk.injEq] at H
                  obtain ⟨rfl, rfl, rfl, rfl, rfl, rfl, rfl, rfl⟩ := H
                  have hnb29 := NB119_120.out
                  have hnc29 := NB120_119.out
                  have hcz30_0 : wc.cell? ⟨gb119, 0, none⟩ = some (.int .u8 a0_0) := (blk_cell BK119.out 0).trans rfl
                  have hcz30_1 : wc.cell? ⟨gb119, 1, none⟩ = some (.int .u8 a0_1) := (blk_cell BK119.out 1).trans rfl
                  have hcz30_2 : wc.cell? ⟨gb119, 2, none⟩ = some (.int .i64 a0_2) := (blk_cell BK119.out 2).trans rfl
                  have hfz30_0 := blk_frozen BK119.out 0
                  have hfz30_1 := blk_frozen BK119.out 1
                  have hfz30_2 := blk_frozen BK119.out 2
                  have hcz31_0 : wc.cell? ⟨gb120, 0, none⟩ = some (.bool false) := (blk_cell BK120.out 0).trans rfl
                  have hcz31_1 : wc.cell? ⟨gb120, 1, none⟩ = some (.bool false) := (blk_cell BK120.out 1).trans rfl
                  have hcz31_2 : wc.cell? ⟨gb120, 2, none⟩ = some (.bool false) := (blk_cell BK120.out 2).trans rfl
                  have hcz31_3 : wc.cell? ⟨gb120, 3, none⟩ = some (.bool false) := (blk_cell BK120.out 3).trans rfl
                  have hcz31_4 : wc.cell? ⟨gb120, 4, none⟩ = some (.bool false) := (blk_cell BK120.out 4).trans rfl
                  have hcz31_5 : wc.cell? ⟨gb120, 5, none⟩ = some (.int .u8 0) := (blk_cell BK120.out 5).trans rfl
                  have hfz31_0 := blk_frozen BK120.out 0
                  have hfz31_1 := blk_frozen BK120.out 1
                  have hfz31_2 := blk_frozen BK120.out 2
                  have hfz31_3 := blk_frozen BK120.out 3
                  have hfz31_4 := blk_frozen BK120.out 4
                  have hfz31_5 := blk_frozen BK120.out 5
                  go_wp2
                  refine bodyPost_ret (results_ctt rfl _ _ gb120 77 #[.bool (a1 == 0), .bool false, .bool true, .bool false, .bool false, .int .u8 0] (0, 0) _ rfl (by (with_reducible repeat (first | refine blk_drewN ?_ _ | refine blk_drew ?_ | refine blk_alloc ?_ _)); refine blk_put (cs := #[.bool (a1 == 0), .bool false, .bool true, .bool false, .bool false, .int .u8 0]) ?_ 5 _ rfl; (with_reducible repeat (first | refine blk_drewN ?_ _ | refine blk_drew ?_ | refine blk_alloc ?_ _)); refine blk_put (cs := #[.bool (a1 == 0), .bool false, .bool true, .bool false, .bool false, .int .u8 0]) ?_ 4 _ rfl; (with_reducible repeat (first | refine blk_drewN ?_ _ | refine blk_drew ?_ | refine blk_alloc ?_ _)); refine blk_put (cs := #[.bool (a1 == 0), .bool false, .bool true, .bool false, .bool false, .int .u8 0]) ?_ 3 _ rfl; (with_reducible repeat (first | refine blk_drewN ?_ _ | refine blk_drew ?_ | refine blk_alloc ?_ _)); refine blk_put (cs := #[.bool (a1 == 0), .bool false, .bool false, .bool false, .bool false, .int .u8 0]) ?_ 2 _ rfl; (with_reducible repeat (first | refine blk_drewN ?_ _ | refine blk_drew ?_ | refine blk_alloc ?_ _)); refine blk_put (cs := #[.bool (a1 == 0), .bool false, .bool false, .bool false, .bool false, .int .u8 0]) ?_ 1 _ rfl; (with_reducible repeat (first | refine blk_drewN ?_ _ | refine blk_drew ?_ | refine blk_alloc ?_ _)); refine blk_put (cs := #[.bool false, .bool false, .bool false, .bool false, .bool false, .int .u8 0]) ?_ 0 _ rfl; (with_reducible repeat (first | refine blk_drewN ?_ _ | refine blk_drew ?_ | refine blk_alloc ?_ _)); exact BK120.out) Tryd.underlying77 rfl (by kernel_rfl)) rfl ?_
                  exact ⟨by first | rfl | (simp [errW_none, errW_some] <;> rfl) | (simp [*, errW_none, errW_some] <;> rfl), by repeat (first | (with_reducible first | exact HB.out | apply below_alloc | apply pw_below_drewN | apply below_drew1 | refine below_set ?_ GE119.out | refine below_set ?_ GE120.out) | exact HB.out)⟩
                · rw [if_neg c28] at H
                  have c28b0 : (a2 == a0_0) = false := beq_eq_false_iff_ne.mpr c28
                  have c28b1 : (a2 != a0_0) = true := bne_iff_ne.mpr c28
                  have HC32 := Aside0.mk H
                  clear H
                  have hnb33 := NB119_120.out
                  have hnc33 := NB120_119.out
                  have hcz34_0 : wc.cell? ⟨gb119, 0, none⟩ = some (.int .u8 a0_0) := (blk_cell BK119.out 0).trans rfl
                  have hcz34_1 : wc.cell? ⟨gb119, 1, none⟩ = some (.int .u8 a0_1) := (blk_cell BK119.out 1).trans rfl
                  have hcz34_2 : wc.cell? ⟨gb119, 2, none⟩ = some (.int .i64 a0_2) := (blk_cell BK119.out 2).trans rfl
                  have hfz34_0 := blk_frozen BK119.out 0
                  have hfz34_1 := blk_frozen BK119.out 1
                  have hfz34_2 := blk_frozen BK119.out 2
                  go_upto_region 10 with (fail)
                  go_cut [53] (fun v53 wc => ∃ (kq : Nat) (x53_31 : Bool), v53 = .bool x53_31 ∧ Aside0 (scan_Step.j2 kq a1 a2 (a1 == 0) x53_31 a0_0 a0_1 a0_2 = some (r1, r2, r3, r4, r5, r6, r7, r8)) ∧ Aside0 (kq ≤ kj19) ∧ Aside0 (wc.heap[gb119]? = some (.cells #[.int .u8 a0_0, .int .u8 a0_1, .int .i64 a0_2] 23 (0, 0))) ∧ Aside0 (wc.heap[gb120]? = some (.cells #[.bool false, .bool false, .bool false, .bool false, .bool false, .int .u8 0] 77 (0, 0))) ∧ Aside0 (Below w.heap.size w wc))
                  case first =>
                    have H := HC32.out
                    clear HC32
                    by_cases c35 : a2 = 13
                    · rw [if_pos c35] at H
                      have c35b0 : (a2 == 13) = true := beq_iff_eq.mpr c35
                      have c35b1 : (a2 != 13) = false := bne_eq_false_iff_eq.mpr c35
                      clear c35
                      (first | rw [c35b0] | (simp only [i64_w, i32_w]; rw [c35b0]) | skip)
                      have H' := Aside0.mk H
                      clear H
                      go_wp2
                      go_meet
                      case rel => exact ⟨_, (true), (by first | rfl | (simp; done) | (simp [*]; done)), H', ⟨by have := HJ10.out; have := HJ19.out; first | omega | exact Nat.le_refl _⟩, ⟨by (with_reducible repeat (first | refine blk_drewN ?_ _ | refine blk_drew ?_ | refine blk_alloc ?_ _)); exact BK119.out⟩, ⟨by (with_reducible repeat (first | refine blk_drewN ?_ _ | refine blk_drew ?_ | refine blk_alloc ?_ _)); exact BK120.out⟩, ⟨by repeat (first | (with_reducible first | exact HB.out | apply below_alloc | apply pw_below_drewN | apply below_drew1 | refine below_set ?_ GE119.out | refine below_set ?_ GE120.out) | exact HB.out)⟩⟩
                    · rw [if_neg c35] at H
                      have c35b0 : (a2 == 13) = false := beq_eq_false_iff_ne.mpr c35
                      have c35b1 : (a2 != 13) = true := bne_iff_ne.mpr c35
                      (first | rw [c35b0] | (simp only [i64_w, i32_w]; rw [c35b0]) | skip)
                      have H' := Aside0.mk H
                      clear H
                      go_wp2
                      go_meet
                      case rel => exact ⟨_, ((a2 == 10)), (by first | rfl | (simp; done) | (simp [*]; done)), H', ⟨by have := HJ10.out; have := HJ19.out; first | omega | exact Nat.le_refl _⟩, ⟨by (with_reducible repeat (first | refine blk_drewN ?_ _ | refine blk_drew ?_ | refine blk_alloc ?_ _)); exact BK119.out⟩, ⟨by (with_reducible repeat (first | refine blk_drewN ?_ _ | refine blk_drew ?_ | refine blk_alloc ?_ _)); exact BK120.out⟩, ⟨by repeat (first | (with_reducible first | exact HB.out | apply below_alloc | apply pw_below_drewN | apply below_drew1 | refine below_set ?_ GE119.out | refine below_set ?_ GE120.out) | exact HB.out)⟩⟩
                  case rest =>
                    clear HC32
                    try clear c1
                    try clear c2
                    try clear p2
                    try clear c3
                    try clear c4
                    try clear c4b0
                    try clear c5
                    try clear c9
                    try clear c14
                    try clear c14b0
                    try clear c14b1
                    try clear c15
                    try clear c17
                    try clear c18
                    try clear c21
                    try clear c21b0
                    try clear c21b1
                    try clear c22
                    try clear c22b0
                    try clear c22b1
                    try clear c23
                    try clear c25
                    try clear c26
                    try clear c28
                    try clear c28b0
                    try clear c28b1
                    try clear c29
                    try clear c33
                    try clear c35
                    try clear c35b0
                    try clear c35b1
                    try clear hcz10_0
                    try clear hcz10_1
                    try clear hcz10_2
                    try clear hcz10_3
                    try clear hcz10_4
                    try clear hcz10_5
                    try clear hcz16_0
                    try clear hcz16_1
                    try clear hcz16_2
                    try clear hcz19_0
                    try clear hcz19_1
                    try clear hcz19_2
                    try clear hcz19_3
                    try clear hcz19_4
                    try clear hcz19_5
                    try clear hcz24_0
                    try clear hcz24_1
                    try clear hcz24_2
                    try clear hcz27_0
                    try clear hcz27_1
                    try clear hcz27_2
                    try clear hcz27_3
                    try clear hcz27_4
                    try clear hcz27_5
                    try clear hcz30_0
                    try clear hcz30_1
                    try clear hcz30_2
                    try clear hcz31_0
                    try clear hcz31_1
                    try clear hcz31_2
                    try clear hcz31_3
                    try clear hcz31_4
                    try clear hcz31_5
                    try clear hcz34_0
                    try clear hcz34_1
                    try clear hcz34_2
                    try clear hfz10_0
                    try clear hfz10_1
                    try clear hfz10_2
                    try clear hfz10_3
                    try clear hfz10_4
                    try clear hfz10_5
                    try clear hfz16_0
                    try clear hfz16_1
                    try clear hfz16_2
                    try clear hfz19_0
                    try clear hfz19_1
                    try clear hfz19_2
                    try clear hfz19_3
                    try clear hfz19_4
                    try clear hfz19_5
                    try clear hfz24_0
                    try clear hfz24_1
                    try clear hfz24_2
                    try clear hfz27_0
                    try clear hfz27_1
                    try clear hfz27_2
                    try clear hfz27_3
                    try clear hfz27_4
                    try clear hfz27_5
                    try clear hfz30_0
                    try clear hfz30_1
                    try clear hfz30_2
                    try clear hfz31_0
                    try clear hfz31_1
                    try clear hfz31_2
                    try clear hfz31_3
                    try clear hfz31_4
                    try clear hfz31_5
                    try clear hfz34_0
                    try clear hfz34_1
                    try clear hfz34_2
                    try clear p2
                    obtain ⟨kq, x53_31, rfl, HA, HJ31, BK119, BK120, HB⟩ := hcut
                    cases kq with
                    | zero => exact absurd HA.out (by simp [scan_Step.j2])
                    | succ kj31 =>
                      have H := HA.out
                      clear HA
                      simp only [scan_Step.j2] at H
                      by_cases c36 : x53_31 = true
                      · subst c36
                        have H1 : ((scan_ends.f kj31 a0_0 a0_1 a0_2 a1 a2).bind fun bt129 => (some (bt129.1, bt129.2.1, bt129.2.2.1, bt129.2.2.2.1, bt129.2.2.2.2.1, bt129.2.2.2.2.2.1, bt129.2.2.2.2.2.2.1, bt129.2.2.2.2.2.2.2))) = some (r1, r2, r3, r4, r5, r6, r7, r8) := by rw [if_pos rfl] at H; exact H
                        clear H
                        have H := H1
                        clear H1
                        replace H := Option.bind_eq_some_iff.mp H
                        obtain ⟨⟨t129, t130, t131, t132, t133, t134, t135, t136⟩, A370, H⟩ := H
                        replace H : (some (t129, t130, t131, t132, t133, t134, t135, t136)) = some (r1, r2, r3, r4, r5, r6, r7, r8) := H
                        have A37 := Aside0.mk A370
                        clear A370
                        simp only [Option.some.injEq, Prod.mk.injEq] at H
                        obtain ⟨rfl, rfl, rfl, rfl, rfl, rfl, rfl, rfl⟩ := H
                        have hnb38 := NB119_120.out
                        have hnc38 := NB120_119.out
                        have hcz39_0 : wc.cell? ⟨gb119, 0, none⟩ = some (.int .u8 a0_0) := (blk_cell BK119.out 0).trans rfl
                        have hcz39_1 : wc.cell? ⟨gb119, 1, none⟩ = some (.int .u8 a0_1) := (blk_cell BK119.out 1).trans rfl
                        have hcz39_2 : wc.cell? ⟨gb119, 2, none⟩ = some (.int .i64 a0_2) := (blk_cell BK119.out 2).trans rfl
                        have hfz39_0 := blk_frozen BK119.out 0
                        have hfz39_1 := blk_frozen BK119.out 1
                        have hfz39_2 := blk_frozen BK119.out 2
                        go_wp2_with (first | ((with_reducible refine gate_callee (f := 52) rfl ?_); refine goesL_ (some 63) rfl rfl Tryd.func52 (by kernel_rfl) rfl #[.agg #[.int .u8 a0_0, .int .u8 a0_1, .int .i64 a0_2], .int .i64 a1, .int .u8 a2] rfl (by (try simp only [List.map_toArray, List.map_cons, List.map_nil]); first | done | rfl | (simp only [List.length_drop, List.length_take]; rfl)) ?_; (with_reducible refine (scan_ends.calls kj31 a0_0 a0_1 a0_2 a1 a2 t129 t130 t131 t132 t133 t134 t135 t136 _ A37.out).mono ?_); rintro e w40 ⟨rfl, hb⟩; refine ⟨_, rfl, ?_⟩; have n0_ := Aside0.mk (blk_below (g := gb119) (o := .cells #[.int .u8 a0_0, .int .u8 a0_1, .int .i64 a0_2] 23 (0, 0)) (by (with_reducible repeat (first | refine blk_drewN ?_ _ | refine blk_drew ?_ | refine blk_alloc ?_ _)); exact BK119.out) hb); have n1_ := Aside0.mk (blk_below (g := gb120) (o := .cells #[.bool false, .bool false, .bool false, .bool false, .bool false, .int .u8 0] 77 (0, 0)) (by (with_reducible repeat (first | refine blk_drewN ?_ _ | refine blk_drew ?_ | refine blk_alloc ?_ _)); exact BK120.out) hb); have n2_ := Aside0.mk (below_step (by repeat (first | (with_reducible first | exact HB.out | apply below_alloc | apply pw_below_drewN | apply below_drew1 | refine below_set ?_ GE119.out | refine below_set ?_ GE120.out) | exact HB.out)) hb); clear BK119; clear BK120; clear HB; have BK119 := n0_; have BK120 := n1_; have HB := n2_; clear n0_ n1_ n2_; (try clear hb); (try clear hb2); (try clear hk); (try clear hi); have hcz41_0 : w40.cell? ⟨gb120, 0, none⟩ = some (.bool false) := (blk_cell BK120.out 0).trans rfl; have hcz41_1 : w40.cell? ⟨gb120, 1, none⟩ = some (.bool false) := (blk_cell BK120.out 1).trans rfl; have hcz41_2 : w40.cell? ⟨gb120, 2, none⟩ = some (.bool false) := (blk_cell BK120.out 2).trans rfl; have hcz41_3 : w40.cell? ⟨gb120, 3, none⟩ = some (.bool false) := (blk_cell BK120.out 3).trans rfl; have hcz41_4 : w40.cell? ⟨gb120, 4, none⟩ = some (.bool false) := (blk_cell BK120.out 4).trans rfl; have hcz41_5 : w40.cell? ⟨gb120, 5, none⟩ = some (.int .u8 0) := (blk_cell BK120.out 5).trans rfl; have hfz41_0 := blk_frozen BK120.out 0; have hfz41_1 := blk_frozen BK120.out 1; have hfz41_2 := blk_frozen BK120.out 2; have hfz41_3 := blk_frozen BK120.out 3; have hfz41_4 := blk_frozen BK120.out 4; have hfz41_5 := blk_frozen BK120.out 5))
                        refine bodyPost_ret (results_ctt rfl _ _ gb120 77 #[.bool t129, .bool t130, .bool t131, .bool t132, .bool t133, .int .u8 t134] (0, 0) _ rfl (by (with_reducible repeat (first | refine blk_drewN ?_ _ | refine blk_drew ?_ | refine blk_alloc ?_ _)); refine blk_put (cs := #[.bool t129, .bool t130, .bool t131, .bool t132, .bool t133, .int .u8 0]) ?_ 5 _ rfl; (with_reducible repeat (first | refine blk_drewN ?_ _ | refine blk_drew ?_ | refine blk_alloc ?_ _)); refine blk_put (cs := #[.bool t129, .bool t130, .bool t131, .bool t132, .bool false, .int .u8 0]) ?_ 4 _ rfl; (with_reducible repeat (first | refine blk_drewN ?_ _ | refine blk_drew ?_ | refine blk_alloc ?_ _)); refine blk_put (cs := #[.bool t129, .bool t130, .bool t131, .bool false, .bool false, .int .u8 0]) ?_ 3 _ rfl; (with_reducible repeat (first | refine blk_drewN ?_ _ | refine blk_drew ?_ | refine blk_alloc ?_ _)); refine blk_put (cs := #[.bool t129, .bool t130, .bool false, .bool false, .bool false, .int .u8 0]) ?_ 2 _ rfl; (with_reducible repeat (first | refine blk_drewN ?_ _ | refine blk_drew ?_ | refine blk_alloc ?_ _)); refine blk_put (cs := #[.bool t129, .bool false, .bool false, .bool false, .bool false, .int .u8 0]) ?_ 1 _ rfl; (with_reducible repeat (first | refine blk_drewN ?_ _ | refine blk_drew ?_ | refine blk_alloc ?_ _)); refine blk_put (cs := #[.bool false, .bool false, .bool false, .bool false, .bool false, .int .u8 0]) ?_ 0 _ rfl; (with_reducible repeat (first | refine blk_drewN ?_ _ | refine blk_drew ?_ | refine blk_alloc ?_ _)); exact BK120.out) Tryd.underlying77 rfl (by kernel_rfl)) rfl ?_
                        exact ⟨by first | rfl | (simp [errW_none, errW_some] <;> rfl) | (simp [*, errW_none, errW_some] <;> rfl), by repeat (first | (with_reducible first | exact HB.out | apply below_alloc | apply pw_below_drewN | apply below_drew1 | refine below_set ?_ GE119.out | refine below_set ?_ GE120.out) | exact HB.out)⟩
                      · replace c36 := Bool.eq_false_iff.mpr c36
                        subst c36
                        have H1 : (if a1 = 4 then (some (false, false, false, false, false, 0, 0, 5)) else (if a2 = a0_1 then (scan_Step.j3 kj31 a2 (a1 == 0) (a1 == 2) a0_0 a0_1 a0_2) else (scan_Step.j3 kj31 a2 (a1 == 0) false a0_0 a0_1 a0_2))) = some (r1, r2, r3, r4, r5, r6, r7, r8) := by rw [if_neg (show ¬ (false = true) by decide)] at H; exact H
                        clear H
                        have H := H1
                        clear H1
                        by_cases c42 : a1 = 4
                        · rw [if_pos c42] at H
                          have c42b0 : (a1 == 4) = true := beq_iff_eq.mpr c42
                          have c42b1 : (a1 != 4) = false := bne_eq_false_iff_eq.mpr c42
                          clear c42
                          simp only [Option.some.injEq, Prod.mk.injEq] at H
                          obtain ⟨rfl, rfl, rfl, rfl, rfl, rfl, rfl, rfl⟩ := H
                          have hnb43 := NB120_119.out
                          have hnc43 := NB119_120.out
                          have hcz44_0 : wc.cell? ⟨gb120, 0, none⟩ = some (.bool false) := (blk_cell BK120.out 0).trans rfl
                          have hcz44_1 : wc.cell? ⟨gb120, 1, none⟩ = some (.bool false) := (blk_cell BK120.out 1).trans rfl
                          have hcz44_2 : wc.cell? ⟨gb120, 2, none⟩ = some (.bool false) := (blk_cell BK120.out 2).trans rfl
                          have hcz44_3 : wc.cell? ⟨gb120, 3, none⟩ = some (.bool false) := (blk_cell BK120.out 3).trans rfl
                          have hcz44_4 : wc.cell? ⟨gb120, 4, none⟩ = some (.bool false) := (blk_cell BK120.out 4).trans rfl
                          have hcz44_5 : wc.cell? ⟨gb120, 5, none⟩ = some (.int .u8 0) := (blk_cell BK120.out 5).trans rfl
                          have hfz44_0 := blk_frozen BK120.out 0
                          have hfz44_1 := blk_frozen BK120.out 1
                          have hfz44_2 := blk_frozen BK120.out 2
                          have hfz44_3 := blk_frozen BK120.out 3
                          have hfz44_4 := blk_frozen BK120.out 4
                          have hfz44_5 := blk_frozen BK120.out 5
                          go_wp2
                          refine bodyPost_ret (results_ctt rfl _ _ gb120 77 #[.bool false, .bool false, .bool false, .bool false, .bool false, .int .u8 0] (0, 0) _ rfl (by (with_reducible repeat (first | refine blk_drewN ?_ _ | refine blk_drew ?_ | refine blk_alloc ?_ _)); refine blk_put (cs := #[.bool false, .bool false, .bool false, .bool false, .bool false, .int .u8 0]) ?_ 5 _ rfl; (with_reducible repeat (first | refine blk_drewN ?_ _ | refine blk_drew ?_ | refine blk_alloc ?_ _)); refine blk_put (cs := #[.bool false, .bool false, .bool false, .bool false, .bool false, .int .u8 0]) ?_ 4 _ rfl; (with_reducible repeat (first | refine blk_drewN ?_ _ | refine blk_drew ?_ | refine blk_alloc ?_ _)); refine blk_put (cs := #[.bool false, .bool false, .bool false, .bool false, .bool false, .int .u8 0]) ?_ 3 _ rfl; (with_reducible repeat (first | refine blk_drewN ?_ _ | refine blk_drew ?_ | refine blk_alloc ?_ _)); refine blk_put (cs := #[.bool false, .bool false, .bool false, .bool false, .bool false, .int .u8 0]) ?_ 2 _ rfl; (with_reducible repeat (first | refine blk_drewN ?_ _ | refine blk_drew ?_ | refine blk_alloc ?_ _)); refine blk_put (cs := #[.bool false, .bool false, .bool false, .bool false, .bool false, .int .u8 0]) ?_ 1 _ rfl; (with_reducible repeat (first | refine blk_drewN ?_ _ | refine blk_drew ?_ | refine blk_alloc ?_ _)); refine blk_put (cs := #[.bool false, .bool false, .bool false, .bool false, .bool false, .int .u8 0]) ?_ 0 _ rfl; (with_reducible repeat (first | refine blk_drewN ?_ _ | refine blk_drew ?_ | refine blk_alloc ?_ _)); exact BK120.out) Tryd.underlying77 rfl (by kernel_rfl)) rfl ?_
                          exact ⟨by first | rfl | (simp [errW_none, errW_some] <;> rfl) | (simp [*, errW_none, errW_some] <;> rfl), by repeat (first | (with_reducible first | exact HB.out | apply below_alloc | apply pw_below_drewN | apply below_drew1 | refine below_set ?_ GE119.out | refine below_set ?_ GE120.out) | exact HB.out)⟩
                        · rw [if_neg c42] at H
                          have c42b0 : (a1 == 4) = false := beq_eq_false_iff_ne.mpr c42
                          have c42b1 : (a1 != 4) = true := bne_iff_ne.mpr c42
                          have HC45 := Aside0.mk H
                          clear H
                          go_upto_region 14 with (fail)
                          go_cut [71] (fun v71 wc => ∃ (kq : Nat) (x71_44 : Bool), v71 = .bool x71_44 ∧ Aside0 (scan_Step.j3 kq a2 (a1 == 0) x71_44 a0_0 a0_1 a0_2 = some (r1, r2, r3, r4, r5, r6, r7, r8)) ∧ Aside0 (kq ≤ kj31) ∧ Aside0 (wc.heap[gb119]? = some (.cells #[.int .u8 a0_0, .int .u8 a0_1, .int .i64 a0_2] 23 (0, 0))) ∧ Aside0 (wc.heap[gb120]? = some (.cells #[.bool false, .bool false, .bool false, .bool false, .bool false, .int .u8 0] 77 (0, 0))) ∧ Aside0 (Below w.heap.size w wc))
                          case first =>
                            have H := HC45.out
                            clear HC45
                            by_cases c46 : a2 = a0_1
                            · rw [if_pos c46] at H
                              have c46b0 : (a2 == a0_1) = true := beq_iff_eq.mpr c46
                              have c46b1 : (a2 != a0_1) = false := bne_eq_false_iff_eq.mpr c46
                              clear c46
                              (first | rw [c46b0] | (simp only [i64_w, i32_w]; rw [c46b0]) | skip)
                              have H' := Aside0.mk H
                              clear H
                              have hnb47 := NB119_120.out
                              have hnc47 := NB120_119.out
                              have hcz48_0 : wc.cell? ⟨gb119, 0, none⟩ = some (.int .u8 a0_0) := (blk_cell BK119.out 0).trans rfl
                              have hcz48_1 : wc.cell? ⟨gb119, 1, none⟩ = some (.int .u8 a0_1) := (blk_cell BK119.out 1).trans rfl
                              have hcz48_2 : wc.cell? ⟨gb119, 2, none⟩ = some (.int .i64 a0_2) := (blk_cell BK119.out 2).trans rfl
                              have hfz48_0 := blk_frozen BK119.out 0
                              have hfz48_1 := blk_frozen BK119.out 1
                              have hfz48_2 := blk_frozen BK119.out 2
                              go_wp2
                              go_meet
                              case rel => exact ⟨_, ((a1 == 2)), (by first | rfl | (simp; done) | (simp [*]; done)), H', ⟨by have := HJ10.out; have := HJ19.out; have := HJ31.out; first | omega | exact Nat.le_refl _⟩, ⟨by (with_reducible repeat (first | refine blk_drewN ?_ _ | refine blk_drew ?_ | refine blk_alloc ?_ _)); exact BK119.out⟩, ⟨by (with_reducible repeat (first | refine blk_drewN ?_ _ | refine blk_drew ?_ | refine blk_alloc ?_ _)); exact BK120.out⟩, ⟨by repeat (first | (with_reducible first | exact HB.out | apply below_alloc | apply pw_below_drewN | apply below_drew1 | refine below_set ?_ GE119.out | refine below_set ?_ GE120.out) | exact HB.out)⟩⟩
                            · rw [if_neg c46] at H
                              have c46b0 : (a2 == a0_1) = false := beq_eq_false_iff_ne.mpr c46
                              have c46b1 : (a2 != a0_1) = true := bne_iff_ne.mpr c46
                              (first | rw [c46b0] | (simp only [i64_w, i32_w]; rw [c46b0]) | skip)
                              have H' := Aside0.mk H
                              clear H
                              have hnb49 := NB119_120.out
                              have hnc49 := NB120_119.out
                              have hcz50_0 : wc.cell? ⟨gb119, 0, none⟩ = some (.int .u8 a0_0) := (blk_cell BK119.out 0).trans rfl
                              have hcz50_1 : wc.cell? ⟨gb119, 1, none⟩ = some (.int .u8 a0_1) := (blk_cell BK119.out 1).trans rfl
                              have hcz50_2 : wc.cell? ⟨gb119, 2, none⟩ = some (.int .i64 a0_2) := (blk_cell BK119.out 2).trans rfl
                              have hfz50_0 := blk_frozen BK119.out 0
                              have hfz50_1 := blk_frozen BK119.out 1
                              have hfz50_2 := blk_frozen BK119.out 2
                              go_wp2
                              go_meet
                              case rel => exact ⟨_, (false), (by first | rfl | (simp; done) | (simp [*]; done)), H', ⟨by have := HJ10.out; have := HJ19.out; have := HJ31.out; first | omega | exact Nat.le_refl _⟩, ⟨by (with_reducible repeat (first | refine blk_drewN ?_ _ | refine blk_drew ?_ | refine blk_alloc ?_ _)); exact BK119.out⟩, ⟨by (with_reducible repeat (first | refine blk_drewN ?_ _ | refine blk_drew ?_ | refine blk_alloc ?_ _)); exact BK120.out⟩, ⟨by repeat (first | (with_reducible first | exact HB.out | apply below_alloc | apply pw_below_drewN | apply below_drew1 | refine below_set ?_ GE119.out | refine below_set ?_ GE120.out) | exact HB.out)⟩⟩
                          case rest =>
                            clear HC45
                            try clear c1
                            try clear c2
                            try clear p2
                            try clear c3
                            try clear c4
                            try clear c4b0
                            try clear c5
                            try clear c9
                            try clear c14
                            try clear c14b0
                            try clear c14b1
                            try clear c15
                            try clear c17
                            try clear c18
                            try clear c21
                            try clear c21b0
                            try clear c21b1
                            try clear c22
                            try clear c22b0
                            try clear c22b1
                            try clear c23
                            try clear c25
                            try clear c26
                            try clear c28
                            try clear c28b0
                            try clear c28b1
                            try clear c29
                            try clear c33
                            try clear c35
                            try clear c35b0
                            try clear c35b1
                            try clear c36
                            try clear c38
                            try clear c42
                            try clear c42b0
                            try clear c42b1
                            try clear c43
                            try clear c46
                            try clear c46b0
                            try clear c46b1
                            try clear c47
                            try clear c49
                            try clear hcz10_0
                            try clear hcz10_1
                            try clear hcz10_2
                            try clear hcz10_3
                            try clear hcz10_4
                            try clear hcz10_5
                            try clear hcz16_0
                            try clear hcz16_1
                            try clear hcz16_2
                            try clear hcz19_0
                            try clear hcz19_1
                            try clear hcz19_2
                            try clear hcz19_3
                            try clear hcz19_4
                            try clear hcz19_5
                            try clear hcz24_0
                            try clear hcz24_1
                            try clear hcz24_2
                            try clear hcz27_0
                            try clear hcz27_1
                            try clear hcz27_2
                            try clear hcz27_3
                            try clear hcz27_4
                            try clear hcz27_5
                            try clear hcz30_0
                            try clear hcz30_1
                            try clear hcz30_2
                            try clear hcz31_0
                            try clear hcz31_1
                            try clear hcz31_2
                            try clear hcz31_3
                            try clear hcz31_4
                            try clear hcz31_5
                            try clear hcz34_0
                            try clear hcz34_1
                            try clear hcz34_2
                            try clear hcz39_0
                            try clear hcz39_1
                            try clear hcz39_2
                            try clear hcz41_0
                            try clear hcz41_1
                            try clear hcz41_2
                            try clear hcz41_3
                            try clear hcz41_4
                            try clear hcz41_5
                            try clear hcz44_0
                            try clear hcz44_1
                            try clear hcz44_2
                            try clear hcz44_3
                            try clear hcz44_4
                            try clear hcz44_5
                            try clear hcz48_0
                            try clear hcz48_1
                            try clear hcz48_2
                            try clear hcz50_0
                            try clear hcz50_1
                            try clear hcz50_2
                            try clear hfz10_0
                            try clear hfz10_1
                            try clear hfz10_2
                            try clear hfz10_3
                            try clear hfz10_4
                            try clear hfz10_5
                            try clear hfz16_0
                            try clear hfz16_1
                            try clear hfz16_2
                            try clear hfz19_0
                            try clear hfz19_1
                            try clear hfz19_2
                            try clear hfz19_3
                            try clear hfz19_4
                            try clear hfz19_5
                            try clear hfz24_0
                            try clear hfz24_1
                            try clear hfz24_2
                            try clear hfz27_0
                            try clear hfz27_1
                            try clear hfz27_2
                            try clear hfz27_3
                            try clear hfz27_4
                            try clear hfz27_5
                            try clear hfz30_0
                            try clear hfz30_1
                            try clear hfz30_2
                            try clear hfz31_0
                            try clear hfz31_1
                            try clear hfz31_2
                            try clear hfz31_3
                            try clear hfz31_4
                            try clear hfz31_5
                            try clear hfz34_0
                            try clear hfz34_1
                            try clear hfz34_2
                            try clear hfz39_0
                            try clear hfz39_1
                            try clear hfz39_2
                            try clear hfz41_0
                            try clear hfz41_1
                            try clear hfz41_2
                            try clear hfz41_3
                            try clear hfz41_4
                            try clear hfz41_5
                            try clear hfz44_0
                            try clear hfz44_1
                            try clear hfz44_2
                            try clear hfz44_3
                            try clear hfz44_4
                            try clear hfz44_5
                            try clear hfz48_0
                            try clear hfz48_1
                            try clear hfz48_2
                            try clear hfz50_0
                            try clear hfz50_1
                            try clear hfz50_2
                            try clear p2
                            obtain ⟨kq, x71_44, rfl, HA, HJ44, BK119, BK120, HB⟩ := hcut
                            cases kq with
                            | zero => exact absurd HA.out (by simp [scan_Step.j3])
                            | succ kj44 =>
                              have H := HA.out
                              clear HA
                              simp only [scan_Step.j3] at H
                              by_cases c51 : x71_44 = true
                              · subst c51
                                have H1 : (some (false, false, false, false, false, 0, 0, 4)) = some (r1, r2, r3, r4, r5, r6, r7, r8) := by rw [if_pos rfl] at H; exact H
                                clear H
                                have H := H1
                                clear H1
                                simp only [Option.some.injEq, Prod.mk.injEq] at H
                                obtain ⟨rfl, rfl, rfl, rfl, rfl, rfl, rfl, rfl⟩ := H
                                have hnb52 := NB120_119.out
                                have hnc52 := NB119_120.out
                                have hcz53_0 : wc.cell? ⟨gb120, 0, none⟩ = some (.bool false) := (blk_cell BK120.out 0).trans rfl
                                have hcz53_1 : wc.cell? ⟨gb120, 1, none⟩ = some (.bool false) := (blk_cell BK120.out 1).trans rfl
                                have hcz53_2 : wc.cell? ⟨gb120, 2, none⟩ = some (.bool false) := (blk_cell BK120.out 2).trans rfl
                                have hcz53_3 : wc.cell? ⟨gb120, 3, none⟩ = some (.bool false) := (blk_cell BK120.out 3).trans rfl
                                have hcz53_4 : wc.cell? ⟨gb120, 4, none⟩ = some (.bool false) := (blk_cell BK120.out 4).trans rfl
                                have hcz53_5 : wc.cell? ⟨gb120, 5, none⟩ = some (.int .u8 0) := (blk_cell BK120.out 5).trans rfl
                                have hfz53_0 := blk_frozen BK120.out 0
                                have hfz53_1 := blk_frozen BK120.out 1
                                have hfz53_2 := blk_frozen BK120.out 2
                                have hfz53_3 := blk_frozen BK120.out 3
                                have hfz53_4 := blk_frozen BK120.out 4
                                have hfz53_5 := blk_frozen BK120.out 5
                                go_wp2
                                refine bodyPost_ret (results_ctt rfl _ _ gb120 77 #[.bool false, .bool false, .bool false, .bool false, .bool false, .int .u8 0] (0, 0) _ rfl (by (with_reducible repeat (first | refine blk_drewN ?_ _ | refine blk_drew ?_ | refine blk_alloc ?_ _)); refine blk_put (cs := #[.bool false, .bool false, .bool false, .bool false, .bool false, .int .u8 0]) ?_ 5 _ rfl; (with_reducible repeat (first | refine blk_drewN ?_ _ | refine blk_drew ?_ | refine blk_alloc ?_ _)); refine blk_put (cs := #[.bool false, .bool false, .bool false, .bool false, .bool false, .int .u8 0]) ?_ 4 _ rfl; (with_reducible repeat (first | refine blk_drewN ?_ _ | refine blk_drew ?_ | refine blk_alloc ?_ _)); refine blk_put (cs := #[.bool false, .bool false, .bool false, .bool false, .bool false, .int .u8 0]) ?_ 3 _ rfl; (with_reducible repeat (first | refine blk_drewN ?_ _ | refine blk_drew ?_ | refine blk_alloc ?_ _)); refine blk_put (cs := #[.bool false, .bool false, .bool false, .bool false, .bool false, .int .u8 0]) ?_ 2 _ rfl; (with_reducible repeat (first | refine blk_drewN ?_ _ | refine blk_drew ?_ | refine blk_alloc ?_ _)); refine blk_put (cs := #[.bool false, .bool false, .bool false, .bool false, .bool false, .int .u8 0]) ?_ 1 _ rfl; (with_reducible repeat (first | refine blk_drewN ?_ _ | refine blk_drew ?_ | refine blk_alloc ?_ _)); refine blk_put (cs := #[.bool false, .bool false, .bool false, .bool false, .bool false, .int .u8 0]) ?_ 0 _ rfl; (with_reducible repeat (first | refine blk_drewN ?_ _ | refine blk_drew ?_ | refine blk_alloc ?_ _)); exact BK120.out) Tryd.underlying77 rfl (by kernel_rfl)) rfl ?_
                                exact ⟨by first | rfl | (simp [errW_none, errW_some] <;> rfl) | (simp [*, errW_none, errW_some] <;> rfl), by repeat (first | (with_reducible first | exact HB.out | apply below_alloc | apply pw_below_drewN | apply below_drew1 | refine below_set ?_ GE119.out | refine below_set ?_ GE120.out) | exact HB.out)⟩
                              · replace c51 := Bool.eq_false_iff.mpr c51
                                subst c51
                                have H1 : (if a2 = a0_1 then (some ((a1 == 0), false, false, false, false, 0, 3, 0)) else (some ((a1 == 0), true, false, false, false, a2, 2, 0))) = some (r1, r2, r3, r4, r5, r6, r7, r8) := by rw [if_neg (show ¬ (false = true) by decide)] at H; exact H
                                clear H
                                have H := H1
                                clear H1
                                by_cases c54 : a2 = a0_1
                                · rw [if_pos c54] at H
                                  have c54b0 : (a2 == a0_1) = true := beq_iff_eq.mpr c54
                                  have c54b1 : (a2 != a0_1) = false := bne_eq_false_iff_eq.mpr c54
                                  clear c54
                                  simp only [Option.some.injEq, Prod.mk.injEq] at H
                                  obtain ⟨rfl, rfl, rfl, rfl, rfl, rfl, rfl, rfl⟩ := H
                                  have hnb55 := NB119_120.out
                                  have hnc55 := NB120_119.out
                                  have hcz56_0 : wc.cell? ⟨gb119, 0, none⟩ = some (.int .u8 a0_0) := (blk_cell BK119.out 0).trans rfl
                                  have hcz56_1 : wc.cell? ⟨gb119, 1, none⟩ = some (.int .u8 a0_1) := (blk_cell BK119.out 1).trans rfl
                                  have hcz56_2 : wc.cell? ⟨gb119, 2, none⟩ = some (.int .i64 a0_2) := (blk_cell BK119.out 2).trans rfl
                                  have hfz56_0 := blk_frozen BK119.out 0
                                  have hfz56_1 := blk_frozen BK119.out 1
                                  have hfz56_2 := blk_frozen BK119.out 2
                                  have hcz57_0 : wc.cell? ⟨gb120, 0, none⟩ = some (.bool false) := (blk_cell BK120.out 0).trans rfl
                                  have hcz57_1 : wc.cell? ⟨gb120, 1, none⟩ = some (.bool false) := (blk_cell BK120.out 1).trans rfl
                                  have hcz57_2 : wc.cell? ⟨gb120, 2, none⟩ = some (.bool false) := (blk_cell BK120.out 2).trans rfl
                                  have hcz57_3 : wc.cell? ⟨gb120, 3, none⟩ = some (.bool false) := (blk_cell BK120.out 3).trans rfl
                                  have hcz57_4 : wc.cell? ⟨gb120, 4, none⟩ = some (.bool false) := (blk_cell BK120.out 4).trans rfl
                                  have hcz57_5 : wc.cell? ⟨gb120, 5, none⟩ = some (.int .u8 0) := (blk_cell BK120.out 5).trans rfl
                                  have hfz57_0 := blk_frozen BK120.out 0
                                  have hfz57_1 := blk_frozen BK120.out 1
                                  have hfz57_2 := blk_frozen BK120.out 2
                                  have hfz57_3 := blk_frozen BK120.out 3
                                  have hfz57_4 := blk_frozen BK120.out 4
                                  have hfz57_5 := blk_frozen BK120.out 5
                                  go_wp2
                                  refine bodyPost_ret (results_ctt rfl _ _ gb120 77 #[.bool (a1 == 0), .bool false, .bool false, .bool false, .bool false, .int .u8 0] (0, 0) _ rfl (by (with_reducible repeat (first | refine blk_drewN ?_ _ | refine blk_drew ?_ | refine blk_alloc ?_ _)); refine blk_put (cs := #[.bool (a1 == 0), .bool false, .bool false, .bool false, .bool false, .int .u8 0]) ?_ 5 _ rfl; (with_reducible repeat (first | refine blk_drewN ?_ _ | refine blk_drew ?_ | refine blk_alloc ?_ _)); refine blk_put (cs := #[.bool (a1 == 0), .bool false, .bool false, .bool false, .bool false, .int .u8 0]) ?_ 4 _ rfl; (with_reducible repeat (first | refine blk_drewN ?_ _ | refine blk_drew ?_ | refine blk_alloc ?_ _)); refine blk_put (cs := #[.bool (a1 == 0), .bool false, .bool false, .bool false, .bool false, .int .u8 0]) ?_ 3 _ rfl; (with_reducible repeat (first | refine blk_drewN ?_ _ | refine blk_drew ?_ | refine blk_alloc ?_ _)); refine blk_put (cs := #[.bool (a1 == 0), .bool false, .bool false, .bool false, .bool false, .int .u8 0]) ?_ 2 _ rfl; (with_reducible repeat (first | refine blk_drewN ?_ _ | refine blk_drew ?_ | refine blk_alloc ?_ _)); refine blk_put (cs := #[.bool (a1 == 0), .bool false, .bool false, .bool false, .bool false, .int .u8 0]) ?_ 1 _ rfl; (with_reducible repeat (first | refine blk_drewN ?_ _ | refine blk_drew ?_ | refine blk_alloc ?_ _)); refine blk_put (cs := #[.bool false, .bool false, .bool false, .bool false, .bool false, .int .u8 0]) ?_ 0 _ rfl; (with_reducible repeat (first | refine blk_drewN ?_ _ | refine blk_drew ?_ | refine blk_alloc ?_ _)); exact BK120.out) Tryd.underlying77 rfl (by kernel_rfl)) rfl ?_
                                  exact ⟨by first | rfl | (simp [errW_none, errW_some] <;> rfl) | (simp [*, errW_none, errW_some] <;> rfl), by repeat (first | (with_reducible first | exact HB.out | apply below_alloc | apply pw_below_drewN | apply below_drew1 | refine below_set ?_ GE119.out | refine below_set ?_ GE120.out) | exact HB.out)⟩
                                · rw [if_neg c54] at H
                                  have c54b0 : (a2 == a0_1) = false := beq_eq_false_iff_ne.mpr c54
                                  have c54b1 : (a2 != a0_1) = true := bne_iff_ne.mpr c54
                                  simp only [Option.some.injEq, Prod.mk.injEq] at H
                                  obtain ⟨rfl, rfl, rfl, rfl, rfl, rfl, rfl, rfl⟩ := H
                                  have hnb58 := NB119_120.out
                                  have hnc58 := NB120_119.out
                                  have hcz59_0 : wc.cell? ⟨gb119, 0, none⟩ = some (.int .u8 a0_0) := (blk_cell BK119.out 0).trans rfl
                                  have hcz59_1 : wc.cell? ⟨gb119, 1, none⟩ = some (.int .u8 a0_1) := (blk_cell BK119.out 1).trans rfl
                                  have hcz59_2 : wc.cell? ⟨gb119, 2, none⟩ = some (.int .i64 a0_2) := (blk_cell BK119.out 2).trans rfl
                                  have hfz59_0 := blk_frozen BK119.out 0
                                  have hfz59_1 := blk_frozen BK119.out 1
                                  have hfz59_2 := blk_frozen BK119.out 2
                                  have hcz60_0 : wc.cell? ⟨gb120, 0, none⟩ = some (.bool false) := (blk_cell BK120.out 0).trans rfl
                                  have hcz60_1 : wc.cell? ⟨gb120, 1, none⟩ = some (.bool false) := (blk_cell BK120.out 1).trans rfl
                                  have hcz60_2 : wc.cell? ⟨gb120, 2, none⟩ = some (.bool false) := (blk_cell BK120.out 2).trans rfl
                                  have hcz60_3 : wc.cell? ⟨gb120, 3, none⟩ = some (.bool false) := (blk_cell BK120.out 3).trans rfl
                                  have hcz60_4 : wc.cell? ⟨gb120, 4, none⟩ = some (.bool false) := (blk_cell BK120.out 4).trans rfl
                                  have hcz60_5 : wc.cell? ⟨gb120, 5, none⟩ = some (.int .u8 0) := (blk_cell BK120.out 5).trans rfl
                                  have hfz60_0 := blk_frozen BK120.out 0
                                  have hfz60_1 := blk_frozen BK120.out 1
                                  have hfz60_2 := blk_frozen BK120.out 2
                                  have hfz60_3 := blk_frozen BK120.out 3
                                  have hfz60_4 := blk_frozen BK120.out 4
                                  have hfz60_5 := blk_frozen BK120.out 5
                                  go_wp2
                                  refine bodyPost_ret (results_ctt rfl _ _ gb120 77 #[.bool (a1 == 0), .bool true, .bool false, .bool false, .bool false, .int .u8 a2] (0, 0) _ rfl (by (with_reducible repeat (first | refine blk_drewN ?_ _ | refine blk_drew ?_ | refine blk_alloc ?_ _)); refine blk_put (cs := #[.bool (a1 == 0), .bool true, .bool false, .bool false, .bool false, .int .u8 0]) ?_ 5 _ rfl; (with_reducible repeat (first | refine blk_drewN ?_ _ | refine blk_drew ?_ | refine blk_alloc ?_ _)); refine blk_put (cs := #[.bool (a1 == 0), .bool true, .bool false, .bool false, .bool false, .int .u8 0]) ?_ 4 _ rfl; (with_reducible repeat (first | refine blk_drewN ?_ _ | refine blk_drew ?_ | refine blk_alloc ?_ _)); refine blk_put (cs := #[.bool (a1 == 0), .bool true, .bool false, .bool false, .bool false, .int .u8 0]) ?_ 3 _ rfl; (with_reducible repeat (first | refine blk_drewN ?_ _ | refine blk_drew ?_ | refine blk_alloc ?_ _)); refine blk_put (cs := #[.bool (a1 == 0), .bool true, .bool false, .bool false, .bool false, .int .u8 0]) ?_ 2 _ rfl; (with_reducible repeat (first | refine blk_drewN ?_ _ | refine blk_drew ?_ | refine blk_alloc ?_ _)); refine blk_put (cs := #[.bool (a1 == 0), .bool false, .bool false, .bool false, .bool false, .int .u8 0]) ?_ 1 _ rfl; (with_reducible repeat (first | refine blk_drewN ?_ _ | refine blk_drew ?_ | refine blk_alloc ?_ _)); refine blk_put (cs := #[.bool false, .bool false, .bool false, .bool false, .bool false, .int .u8 0]) ?_ 0 _ rfl; (with_reducible repeat (first | refine blk_drewN ?_ _ | refine blk_drew ?_ | refine blk_alloc ?_ _)); exact BK120.out) Tryd.underlying77 rfl (by kernel_rfl)) rfl ?_
                                  exact ⟨by first | rfl | (simp [errW_none, errW_some] <;> rfl) | (simp [*, errW_none, errW_some] <;> rfl), by repeat (first | (with_reducible first | exact HB.out | apply below_alloc | apply pw_below_drewN | apply below_drew1 | refine below_set ?_ GE119.out | refine below_set ?_ GE120.out) | exact HB.out)⟩

end Go.Proofs.YtmignbhpofmgeaaDoor.PTopSticky
