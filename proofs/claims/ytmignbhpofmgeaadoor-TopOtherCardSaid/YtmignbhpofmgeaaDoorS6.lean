/- What the proof of quillpentop.TopOther rests on: the kit's words as print.sh lays them for this seat, the functions' contracts, the plain laws (part 7 of 9, put together by wip/tools/shake.py). -/
import Derived.Test.YtmignbhpofmgeaaDoorS5
import Derived.Lib.Bytes
namespace Go.Proofs.YtmignbhpofmgeaaDoor.XTopOther
open Go.RowKit Go.Proofs.YtmignbhpofmgeaaDoorW.PrintWords Go.Proofs.YtmignbhpofmgeaaDoorW.PrintLast Go.Proofs.YtmignbhpofmgeaaDoorW.PrintMore
attribute [local go_sem] max2_int min2_int max_two min_two max_three min_three max_four min_four   -- for this text's walks alone
set_option linter.unusedVariables false
set_option linter.unusedSimpArgs false
def quillpenref09_Quoted.l0 : Nat → ByteArray → ByteArray → ByteArray → Int → Int → Int → Int → Option (ByteArray)
  | 0, _, _, _, _, _, _, _ => none
  | k + 1, x1, x5, x6, x7, x114000, x114001, x114002 => if x7 < (x1.size : Int) then (if 0 ≤ x7 then (if (wrap64 (bt x1 x7)) = x114001 then (if x6.size + x5.size ≤ 9223372036854775807 then (if x7 ≤ (wrap64 (x7 + 1)) then (if (wrap64 (x7 + 1)) ≤ (x1.size : Int) then (if (x6 ++ x5).size + (x1.extract (x7 : Int).toNat ((wrap64 (x7 + 1)) : Int).toNat).size ≤ 9223372036854775807 then (quillpenref09_Quoted.l0 k x1 x5 ((x6 ++ x5) ++ (x1.extract (x7 : Int).toNat ((wrap64 (x7 + 1)) : Int).toNat)) (wrap64 (x7 + 1)) x114000 x114001 x114002) else (none)) else (none)) else (none)) else (none)) else (if x7 ≤ (wrap64 (x7 + 1)) then (if (wrap64 (x7 + 1)) ≤ (x1.size : Int) then (if x6.size + (x1.extract (x7 : Int).toNat ((wrap64 (x7 + 1)) : Int).toNat).size ≤ 9223372036854775807 then (quillpenref09_Quoted.l0 k x1 x5 (x6 ++ (x1.extract (x7 : Int).toNat ((wrap64 (x7 + 1)) : Int).toNat)) (wrap64 (x7 + 1)) x114000 x114001 x114002) else (none)) else (none)) else (none))) else (none)) else (if x6.size + x5.size ≤ 9223372036854775807 then (some (x6 ++ x5)) else (none))
def quillpenref09_Quoted.f (k : Nat) (a0_0 : Int) (a0_1 : Int) (a0_2 : Int) (a1 : ByteArray) : Option (ByteArray) := (some (([(a0_1) % 256] : List Int) : List Int)).bind fun y114 => (quillpenref09_Quoted.l0 k a1 (strOfNums y114) (strOfNums y114) 0 a0_0 a0_1 a0_2)
set_option maxHeartbeats 8000000 in
set_option maxRecDepth 100000 in
theorem quillpenref09_Quoted.calls (k : Nat) (a0_0 : Int) (a0_1 : Int) (a0_2 : Int) (a1 : ByteArray) (r : ByteArray) (w : World) (h : quillpenref09_Quoted.f k a0_0 a0_1 a0_2 a1 = some r) :
    Calls Tryd.prog 56 #[.agg #[.int .i64 a0_0, .int .i64 a0_1, .int .i64 a0_2], .string a1] w fun e w' => e = .returned (.string r) ∧ Below w.heap.size w w' := by
  have hu51 := Tryd.underlying51
  have HB := Aside0.mk (Below.refl w.heap.size w)
  have H : ((some (([(a0_1) % 256] : List Int) : List Int)).bind fun y114 => (quillpenref09_Quoted.l0 k a1 (strOfNums y114) (strOfNums y114) 0 a0_0 a0_1 a0_2)) = some r := h
  clear h
  obtain ⟨y114, hy114⟩ : ∃ y_ : List Int, y_ = (([(a0_1) % 256] : List Int)) := ⟨_, rfl⟩
  replace H : (quillpenref09_Quoted.l0 k a1 (strOfNums y114) (strOfNums y114) 0 a0_0 a0_1 a0_2) = some r := by first | (rw [hy114]; with_reducible exact H) | (have H2_ := (Option.bind_some _ _).symm.trans H; rw [hy114]; with_reducible exact H2_) | (have H2_ := (Option.bind_some _ _).symm.trans H; with_reducible exact H2_) | with_reducible exact H | (rw [hy114]; exact H) | exact H
  have Ny114 := Aside0.mk hy114
  clear hy114
  have H' := Aside0.mk H
  clear H
  go_enter Tryd.func56, Tryd.ntmps56
  go_wp2_with (first | ((with_reducible refine gate_dst (N := 2) rfl ?_); refine box_event ?hg (N := 2) ?hd (cs := #[.int .i64 a0_0, .int .i64 a0_1, .int .i64 a0_2]) (t := 51) ?hr ?_; (case hd => rfl); (case hg => rfl); (case hr => first | (go_simp; done) | (go_simp; rfl)); intro gb113 hg w3 hbox hb; have n0_ := Aside0.mk (below_step (by repeat (first | (with_reducible first | exact HB.out | apply below_alloc | apply pw_below_drewN | apply below_drew1) | exact HB.out)) hb); have n1_ := Aside0.mk (hbox); have n2_ := Aside0.mk ((by rw [hg]; exact (below_size (by repeat (first | (with_reducible first | exact HB.out | apply below_alloc | apply pw_below_drewN | apply below_drew1) | exact HB.out))) : w.heap.size ≤ gb113)); have n3_ := Aside0.mk ((by rw [hg]; exact (below_size (by repeat (first | (with_reducible first | exact HB.out | apply below_alloc | apply pw_below_drewN | apply below_drew1) | exact HB.out))) : w.heap.size ≤ gb113)); clear HB; have HB := n0_; have BK113 := n1_; have GW113 := n2_; have GE113 := n3_; clear n0_ n1_ n2_ n3_; clear hb hbox hg; have hcz4_0 : w3.cell? ⟨gb113, 0, none⟩ = some (.int .i64 a0_0) := (blk_cell BK113.out 0).trans rfl; have hcz4_1 : w3.cell? ⟨gb113, 1, none⟩ = some (.int .i64 a0_1) := (blk_cell BK113.out 1).trans rfl; have hcz4_2 : w3.cell? ⟨gb113, 2, none⟩ = some (.int .i64 a0_2) := (blk_cell BK113.out 2).trans rfl; have hfz4_0 := blk_frozen BK113.out 0; have hfz4_1 := blk_frozen BK113.out 1; have hfz4_2 := blk_frozen BK113.out 2) | ((with_reducible refine gate_dst (N := 11) rfl ?_); refine Kd.R_lit (Kd.int .u8) _ 5 ?hg (N := 11) ?hd (xs := ([(a0_1) % 256] : List Int)) (inner := [.int .u8 ((a0_1) % 256)]) (ok := fun _ => True) (okp := fun _ => True) ?hr ?hp (fun _ hk => hk) trivial (Below.refl _ _) (Nat.le_refl _) (by simp) ?_; (case hd => rfl); (case hg => rfl); (case hr => first | (go_simp; done) | (go_simp; rfl)); (case hp => exact (Reps.one (show Kd.M (Kd.int .u8) _ _ _ ((a0_1) % 256) [.int .u8 ((a0_1) % 256)] from rfl) (Reps.none _ _))); intro v115 w5 ho6 hb hg_ hnew_; clear hg_ hnew_; (first | rw [← Ny114.out] at ho6 | (simp only [Int.reduceToNat] at ho6; rw [← Ny114.out] at ho6)); have n0_ := Aside0.mk (Kd.R_lower ho6 (below_size (by repeat (first | (with_reducible first | exact HB.out | apply below_alloc | apply pw_below_drewN | apply below_drew1 | refine below_set ?_ GE113.out) | exact HB.out)))); have n1_ := Aside0.mk (blk_below (g := gb113) (o := .cells #[.int .i64 a0_0, .int .i64 a0_1, .int .i64 a0_2] 51 (0, 0)) (by (with_reducible repeat (first | refine blk_drewN ?_ _ | refine blk_drew ?_ | refine blk_alloc ?_ _)); exact BK113.out) hb); have n2_ := Aside0.mk (below_step (by repeat (first | (with_reducible first | exact HB.out | apply below_alloc | apply pw_below_drewN | apply below_drew1 | refine below_set ?_ GE113.out) | exact HB.out)) hb); clear BK113; clear HB; have HO116 := n0_; have BK113 := n1_; have HB := n2_; clear n0_ n1_ n2_; clear hb ho6; have hcv7 := own_string (P := Tryd.prog) Tryd.underlying37 Tryd.underlying5 Tryd.underlying9 (Kd.own_of_R HO116.out)))
  repeat (go_quiet (first | ((with_reducible refine gate_dst (N := 2) rfl ?_); refine box_event ?hg (N := 2) ?hd (cs := #[.int .i64 a0_0, .int .i64 a0_1, .int .i64 a0_2]) (t := 51) ?hr ?_; (case hd => rfl); (case hg => rfl); (case hr => first | (go_simp; done) | (go_simp; rfl)); intro gb113 hg w3 hbox hb; have n0_ := Aside0.mk (below_step (by repeat (first | (with_reducible first | exact HB.out | apply below_alloc | apply pw_below_drewN | apply below_drew1) | exact HB.out)) hb); have n1_ := Aside0.mk (hbox); have n2_ := Aside0.mk ((by rw [hg]; exact (below_size (by repeat (first | (with_reducible first | exact HB.out | apply below_alloc | apply pw_below_drewN | apply below_drew1) | exact HB.out))) : w.heap.size ≤ gb113)); have n3_ := Aside0.mk ((by rw [hg]; exact (below_size (by repeat (first | (with_reducible first | exact HB.out | apply below_alloc | apply pw_below_drewN | apply below_drew1) | exact HB.out))) : w.heap.size ≤ gb113)); clear HB; have HB := n0_; have BK113 := n1_; have GW113 := n2_; have GE113 := n3_; clear n0_ n1_ n2_ n3_; clear hb hbox hg; have hcz4_0 : w3.cell? ⟨gb113, 0, none⟩ = some (.int .i64 a0_0) := (blk_cell BK113.out 0).trans rfl; have hcz4_1 : w3.cell? ⟨gb113, 1, none⟩ = some (.int .i64 a0_1) := (blk_cell BK113.out 1).trans rfl; have hcz4_2 : w3.cell? ⟨gb113, 2, none⟩ = some (.int .i64 a0_2) := (blk_cell BK113.out 2).trans rfl; have hfz4_0 := blk_frozen BK113.out 0; have hfz4_1 := blk_frozen BK113.out 1; have hfz4_2 := blk_frozen BK113.out 2) | ((with_reducible refine gate_dst (N := 11) rfl ?_); refine Kd.R_lit (Kd.int .u8) _ 5 ?hg (N := 11) ?hd (xs := ([(a0_1) % 256] : List Int)) (inner := [.int .u8 ((a0_1) % 256)]) (ok := fun _ => True) (okp := fun _ => True) ?hr ?hp (fun _ hk => hk) trivial (Below.refl _ _) (Nat.le_refl _) (by simp) ?_; (case hd => rfl); (case hg => rfl); (case hr => first | (go_simp; done) | (go_simp; rfl)); (case hp => exact (Reps.one (show Kd.M (Kd.int .u8) _ _ _ ((a0_1) % 256) [.int .u8 ((a0_1) % 256)] from rfl) (Reps.none _ _))); intro v115 w5 ho6 hb hg_ hnew_; clear hg_ hnew_; (first | rw [← Ny114.out] at ho6 | (simp only [Int.reduceToNat] at ho6; rw [← Ny114.out] at ho6)); have n0_ := Aside0.mk (Kd.R_lower ho6 (below_size (by repeat (first | (with_reducible first | exact HB.out | apply below_alloc | apply pw_below_drewN | apply below_drew1 | refine below_set ?_ GE113.out) | exact HB.out)))); have n1_ := Aside0.mk (blk_below (g := gb113) (o := .cells #[.int .i64 a0_0, .int .i64 a0_1, .int .i64 a0_2] 51 (0, 0)) (by (with_reducible repeat (first | refine blk_drewN ?_ _ | refine blk_drew ?_ | refine blk_alloc ?_ _)); exact BK113.out) hb); have n2_ := Aside0.mk (below_step (by repeat (first | (with_reducible first | exact HB.out | apply below_alloc | apply pw_below_drewN | apply below_drew1 | refine below_set ?_ GE113.out) | exact HB.out)) hb); clear BK113; clear HB; have HO116 := n0_; have BK113 := n1_; have HB := n2_; clear n0_ n1_ n2_; clear hb ho6; have hcv7 := own_string (P := Tryd.prog) Tryd.underlying37 Tryd.underlying5 Tryd.underlying9 (Kd.own_of_R HO116.out))); try go_wp2_with (first | ((with_reducible refine gate_dst (N := 2) rfl ?_); refine box_event ?hg (N := 2) ?hd (cs := #[.int .i64 a0_0, .int .i64 a0_1, .int .i64 a0_2]) (t := 51) ?hr ?_; (case hd => rfl); (case hg => rfl); (case hr => first | (go_simp; done) | (go_simp; rfl)); intro gb113 hg w3 hbox hb; have n0_ := Aside0.mk (below_step (by repeat (first | (with_reducible first | exact HB.out | apply below_alloc | apply pw_below_drewN | apply below_drew1) | exact HB.out)) hb); have n1_ := Aside0.mk (hbox); have n2_ := Aside0.mk ((by rw [hg]; exact (below_size (by repeat (first | (with_reducible first | exact HB.out | apply below_alloc | apply pw_below_drewN | apply below_drew1) | exact HB.out))) : w.heap.size ≤ gb113)); have n3_ := Aside0.mk ((by rw [hg]; exact (below_size (by repeat (first | (with_reducible first | exact HB.out | apply below_alloc | apply pw_below_drewN | apply below_drew1) | exact HB.out))) : w.heap.size ≤ gb113)); clear HB; have HB := n0_; have BK113 := n1_; have GW113 := n2_; have GE113 := n3_; clear n0_ n1_ n2_ n3_; clear hb hbox hg; have hcz4_0 : w3.cell? ⟨gb113, 0, none⟩ = some (.int .i64 a0_0) := (blk_cell BK113.out 0).trans rfl; have hcz4_1 : w3.cell? ⟨gb113, 1, none⟩ = some (.int .i64 a0_1) := (blk_cell BK113.out 1).trans rfl; have hcz4_2 : w3.cell? ⟨gb113, 2, none⟩ = some (.int .i64 a0_2) := (blk_cell BK113.out 2).trans rfl; have hfz4_0 := blk_frozen BK113.out 0; have hfz4_1 := blk_frozen BK113.out 1; have hfz4_2 := blk_frozen BK113.out 2) | ((with_reducible refine gate_dst (N := 11) rfl ?_); refine Kd.R_lit (Kd.int .u8) _ 5 ?hg (N := 11) ?hd (xs := ([(a0_1) % 256] : List Int)) (inner := [.int .u8 ((a0_1) % 256)]) (ok := fun _ => True) (okp := fun _ => True) ?hr ?hp (fun _ hk => hk) trivial (Below.refl _ _) (Nat.le_refl _) (by simp) ?_; (case hd => rfl); (case hg => rfl); (case hr => first | (go_simp; done) | (go_simp; rfl)); (case hp => exact (Reps.one (show Kd.M (Kd.int .u8) _ _ _ ((a0_1) % 256) [.int .u8 ((a0_1) % 256)] from rfl) (Reps.none _ _))); intro v115 w5 ho6 hb hg_ hnew_; clear hg_ hnew_; (first | rw [← Ny114.out] at ho6 | (simp only [Int.reduceToNat] at ho6; rw [← Ny114.out] at ho6)); have n0_ := Aside0.mk (Kd.R_lower ho6 (below_size (by repeat (first | (with_reducible first | exact HB.out | apply below_alloc | apply pw_below_drewN | apply below_drew1 | refine below_set ?_ GE113.out) | exact HB.out)))); have n1_ := Aside0.mk (blk_below (g := gb113) (o := .cells #[.int .i64 a0_0, .int .i64 a0_1, .int .i64 a0_2] 51 (0, 0)) (by (with_reducible repeat (first | refine blk_drewN ?_ _ | refine blk_drew ?_ | refine blk_alloc ?_ _)); exact BK113.out) hb); have n2_ := Aside0.mk (below_step (by repeat (first | (with_reducible first | exact HB.out | apply below_alloc | apply pw_below_drewN | apply below_drew1 | refine below_set ?_ GE113.out) | exact HB.out)) hb); clear BK113; clear HB; have HO116 := n0_; have BK113 := n1_; have HB := n2_; clear n0_ n1_ n2_; clear hb ho6; have hcv7 := own_string (P := Tryd.prog) Tryd.underlying37 Tryd.underlying5 Tryd.underlying9 (Kd.own_of_R HO116.out))))
  go_loopg [6, 7] k (fun kq v6 v7 w' => ∃ (x6_1 : ByteArray) (x7_1 : Int), v6 = .string x6_1 ∧ v7 = .int .i64 x7_1 ∧ Aside0 (quillpenref09_Quoted.l0 kq a1 (strOfNums y114) x6_1 x7_1 a0_0 a0_1 a0_2 = some r) ∧ Aside0 (kq ≤ k) ∧ Aside0 (w'.heap[gb113]? = some (.cells #[.int .i64 a0_0, .int .i64 a0_1, .int .i64 a0_2] 51 (0, 0))) ∧ Aside0 (Below w.heap.size w w'))
  case atStart => exact ⟨(strOfNums y114), (0), (by first | rfl | (simp; done) | (simp [*]; done)), (by first | rfl | (simp; done) | (simp [*]; done)), H', ⟨Nat.le_refl _⟩, ⟨by (with_reducible repeat (first | refine blk_drewN ?_ _ | refine blk_drew ?_ | refine blk_alloc ?_ _)); exact BK113.out⟩, ⟨by repeat (first | (with_reducible first | exact HB.out | apply below_alloc | apply pw_below_drewN | apply below_drew1 | refine below_set ?_ GE113.out) | exact HB.out)⟩⟩
  case round =>
    clear H'
    try clear p2
    try clear c5
    try clear hcv7
    try clear hcz4_0
    try clear hcz4_1
    try clear hcz4_2
    try clear hfz4_0
    try clear hfz4_1
    try clear hfz4_2
    obtain ⟨x6_1, x7_1, rfl, rfl, HA, HK1, BK113, HB⟩ := hrel
    cases gk with
    | zero => exact absurd HA.out (by simp [quillpenref09_Quoted.l0])
    | succ k1 =>
      have H := HA.out
      clear HA
      simp only [quillpenref09_Quoted.l0] at H
      by_cases c8 : x7_1 < (a1.size : Int)
      · rw [if_pos c8] at H
        have c8b0 : decide (x7_1 < (a1.size : Int)) = true := decide_eq_true c8
        clear c8
        by_cases c9 : 0 ≤ x7_1
        · rw [if_pos c9] at H
          have c9b0 : decide (0 ≤ x7_1) = true := decide_eq_true c9
          clear c9
          by_cases c11 : (wrap64 (bt a1 x7_1)) = a0_1
          · rw [if_pos c11] at H
            have c11b0 : ((wrap64 (bt a1 x7_1)) == a0_1) = true := beq_iff_eq.mpr c11
            have c11b1 : ((wrap64 (bt a1 x7_1)) != a0_1) = false := bne_eq_false_iff_eq.mpr c11
            clear c11
            by_cases c12 : x6_1.size + (strOfNums y114).size ≤ 9223372036854775807
            · rw [if_pos c12] at H
              have c12b0 := eq_true c12
              have c12b1 : decide (x6_1.size + (strOfNums y114).size ≤ 9223372036854775807) = true := decide_eq_true c12
              try have c12b2 : (9223372036854775807 < x6_1.size + (strOfNums y114).size) = False := eq_false (Nat.not_lt.2 c12)
              have c13b0 := eq_true (of_decide_eq_true (by first | (with_reducible assumption) | assumption) : 0 ≤ x7_1)
              by_cases c14 : x7_1 ≤ (wrap64 (x7_1 + 1))
              · rw [if_pos c14] at H
                have c14b0 := eq_true c14
                have c14b1 : decide (x7_1 ≤ (wrap64 (x7_1 + 1))) = true := decide_eq_true c14
                by_cases c15 : (wrap64 (x7_1 + 1)) ≤ (a1.size : Int)
                · rw [if_pos c15] at H
                  have c15b0 := eq_true c15
                  have c15b1 : decide ((wrap64 (x7_1 + 1)) ≤ (a1.size : Int)) = true := decide_eq_true c15
                  by_cases c16 : (x6_1 ++ (strOfNums y114)).size + (a1.extract (x7_1 : Int).toNat ((wrap64 (x7_1 + 1)) : Int).toNat).size ≤ 9223372036854775807
                  · rw [if_pos c16] at H
                    have c16b0 := eq_true c16
                    have c16b1 : decide ((x6_1 ++ (strOfNums y114)).size + (a1.extract (x7_1 : Int).toNat ((wrap64 (x7_1 + 1)) : Int).toNat).size ≤ 9223372036854775807) = true := decide_eq_true c16
                    try have c16b2 : (9223372036854775807 < (x6_1 ++ (strOfNums y114)).size + (a1.extract (x7_1 : Int).toNat ((wrap64 (x7_1 + 1)) : Int).toNat).size) = False := eq_false (Nat.not_lt.2 c16)
                    have H' := Aside0.mk H
                    clear H
                    have p10 : 0 ≤ (x7_1 : Int) := of_decide_eq_true (by first | (with_reducible assumption) | assumption)
                    have q10 : x7_1 < (a1.size : Int) := of_decide_eq_true (by first | (with_reducible assumption) | assumption)
                    have hx10 := bt_at a1 x7_1
                    replace p10 := eq_true p10
                    replace q10 := eq_true q10
                    have hcz17_0 : wr.cell? ⟨gb113, 0, none⟩ = some (.int .i64 a0_0) := (blk_cell BK113.out 0).trans rfl
                    have hcz17_1 : wr.cell? ⟨gb113, 1, none⟩ = some (.int .i64 a0_1) := (blk_cell BK113.out 1).trans rfl
                    have hcz17_2 : wr.cell? ⟨gb113, 2, none⟩ = some (.int .i64 a0_2) := (blk_cell BK113.out 2).trans rfl
                    have hfz17_0 := blk_frozen BK113.out 0
                    have hfz17_1 := blk_frozen BK113.out 1
                    have hfz17_2 := blk_frozen BK113.out 2
                    go_wp2
                    repeat (go_quiet (fail); try go_wp2)
                    go_roundg k1
                    case measure => have := HK1.out; omega
                    case rel => exact ⟨((x6_1 ++ (strOfNums y114)) ++ (a1.extract (x7_1 : Int).toNat ((wrap64 (x7_1 + 1)) : Int).toNat)), (wrap64 (x7_1 + 1)), (by first | rfl | (simp; done) | (simp [*]; done)), (by first | rfl | (simp; done) | (simp [*]; done)), H', ⟨by have := HK1.out; omega⟩, ⟨by (with_reducible repeat (first | refine blk_drewN ?_ _ | refine blk_drew ?_ | refine blk_alloc ?_ _)); exact BK113.out⟩, ⟨by repeat (first | (with_reducible first | exact HB.out | apply below_alloc | apply pw_below_drewN | apply below_drew1 | refine below_set ?_ GE113.out) | exact HB.out)⟩⟩
                  · rw [if_neg c16] at H
                    exact absurd H (by simp)
                · rw [if_neg c15] at H
                  exact absurd H (by simp)
              · rw [if_neg c14] at H
                exact absurd H (by simp)
            · rw [if_neg c12] at H
              exact absurd H (by simp)
          · rw [if_neg c11] at H
            have c11b0 : ((wrap64 (bt a1 x7_1)) == a0_1) = false := beq_eq_false_iff_ne.mpr c11
            have c11b1 : ((wrap64 (bt a1 x7_1)) != a0_1) = true := bne_iff_ne.mpr c11
            have c18b0 := eq_true (of_decide_eq_true (by first | (with_reducible assumption) | assumption) : 0 ≤ x7_1)
            by_cases c19 : x7_1 ≤ (wrap64 (x7_1 + 1))
            · rw [if_pos c19] at H
              have c19b0 := eq_true c19
              have c19b1 : decide (x7_1 ≤ (wrap64 (x7_1 + 1))) = true := decide_eq_true c19
              by_cases c20 : (wrap64 (x7_1 + 1)) ≤ (a1.size : Int)
              · rw [if_pos c20] at H
                have c20b0 := eq_true c20
                have c20b1 : decide ((wrap64 (x7_1 + 1)) ≤ (a1.size : Int)) = true := decide_eq_true c20
                by_cases c21 : x6_1.size + (a1.extract (x7_1 : Int).toNat ((wrap64 (x7_1 + 1)) : Int).toNat).size ≤ 9223372036854775807
                · rw [if_pos c21] at H
                  have c21b0 := eq_true c21
                  have c21b1 : decide (x6_1.size + (a1.extract (x7_1 : Int).toNat ((wrap64 (x7_1 + 1)) : Int).toNat).size ≤ 9223372036854775807) = true := decide_eq_true c21
                  try have c21b2 : (9223372036854775807 < x6_1.size + (a1.extract (x7_1 : Int).toNat ((wrap64 (x7_1 + 1)) : Int).toNat).size) = False := eq_false (Nat.not_lt.2 c21)
                  have H' := Aside0.mk H
                  clear H
                  have p10 : 0 ≤ (x7_1 : Int) := of_decide_eq_true (by first | (with_reducible assumption) | assumption)
                  have q10 : x7_1 < (a1.size : Int) := of_decide_eq_true (by first | (with_reducible assumption) | assumption)
                  have hx10 := bt_at a1 x7_1
                  replace p10 := eq_true p10
                  replace q10 := eq_true q10
                  have hcz22_0 : wr.cell? ⟨gb113, 0, none⟩ = some (.int .i64 a0_0) := (blk_cell BK113.out 0).trans rfl
                  have hcz22_1 : wr.cell? ⟨gb113, 1, none⟩ = some (.int .i64 a0_1) := (blk_cell BK113.out 1).trans rfl
                  have hcz22_2 : wr.cell? ⟨gb113, 2, none⟩ = some (.int .i64 a0_2) := (blk_cell BK113.out 2).trans rfl
                  have hfz22_0 := blk_frozen BK113.out 0
                  have hfz22_1 := blk_frozen BK113.out 1
                  have hfz22_2 := blk_frozen BK113.out 2
                  go_wp2
                  repeat (go_quiet (fail); try go_wp2)
                  go_roundg k1
                  case measure => have := HK1.out; omega
                  case rel => exact ⟨(x6_1 ++ (a1.extract (x7_1 : Int).toNat ((wrap64 (x7_1 + 1)) : Int).toNat)), (wrap64 (x7_1 + 1)), (by first | rfl | (simp; done) | (simp [*]; done)), (by first | rfl | (simp; done) | (simp [*]; done)), H', ⟨by have := HK1.out; omega⟩, ⟨by (with_reducible repeat (first | refine blk_drewN ?_ _ | refine blk_drew ?_ | refine blk_alloc ?_ _)); exact BK113.out⟩, ⟨by repeat (first | (with_reducible first | exact HB.out | apply below_alloc | apply pw_below_drewN | apply below_drew1 | refine below_set ?_ GE113.out) | exact HB.out)⟩⟩
                · rw [if_neg c21] at H
                  exact absurd H (by simp)
              · rw [if_neg c20] at H
                exact absurd H (by simp)
            · rw [if_neg c19] at H
              exact absurd H (by simp)
        · rw [if_neg c9] at H
          exact absurd H (by simp)
      · rw [if_neg c8] at H
        have c8b0 : decide (x7_1 < (a1.size : Int)) = false := decide_eq_false c8
        clear c8
        by_cases c23 : x6_1.size + (strOfNums y114).size ≤ 9223372036854775807
        · rw [if_pos c23] at H
          have c23b0 := eq_true c23
          have c23b1 : decide (x6_1.size + (strOfNums y114).size ≤ 9223372036854775807) = true := decide_eq_true c23
          try have c23b2 : (9223372036854775807 < x6_1.size + (strOfNums y114).size) = False := eq_false (Nat.not_lt.2 c23)
          obtain rfl := Option.some.inj H
          go_wp2
          repeat (go_quiet (fail); try go_wp2)
          go_ret
          exact ⟨by first | rfl | (simp [errW_none, errW_some] <;> rfl) | (simp [*, errW_none, errW_some] <;> rfl), by repeat (first | (with_reducible first | exact HB.out | apply below_alloc | apply pw_below_drewN | apply below_drew1 | refine below_set ?_ GE113.out) | exact HB.out)⟩
        · rw [if_neg c23] at H
          exact absurd H (by simp)
def quillpenref09_Written.f (k : Nat) (a0_0 : Int) (a0_1 : Int) (a0_2 : Int) (a1 : ByteArray) (a2 : Int) (a3 : Int) : Option (ByteArray) := (quillpenref08_Why.f k a0_0 a0_1 a0_2 a1 a2 a3).bind fun t118 => (if t118 > 0 then ((quillpenref09_Quoted.f k a0_0 a0_1 a0_2 a1).bind fun t119 => (some t119)) else (some a1))
set_option maxHeartbeats 8000000 in
set_option maxRecDepth 100000 in
theorem quillpenref09_Written.calls (k : Nat) (a0_0 : Int) (a0_1 : Int) (a0_2 : Int) (a1 : ByteArray) (a2 : Int) (a3 : Int) (r : ByteArray) (w : World) (h : quillpenref09_Written.f k a0_0 a0_1 a0_2 a1 a2 a3 = some r) :
    Calls Tryd.prog 47 #[.agg #[.int .i64 a0_0, .int .i64 a0_1, .int .i64 a0_2], .string a1, .int .i64 a2, .int .i64 a3] w fun e w' => e = .returned (.string r) ∧ Below w.heap.size w w' := by
  have hu51 := Tryd.underlying51
  have HB := Aside0.mk (Below.refl w.heap.size w)
  have H : ((quillpenref08_Why.f k a0_0 a0_1 a0_2 a1 a2 a3).bind fun t118 => (if t118 > 0 then ((quillpenref09_Quoted.f k a0_0 a0_1 a0_2 a1).bind fun t119 => (some t119)) else (some a1))) = some r := h
  clear h
  replace H := Option.bind_eq_some_iff.mp H
  obtain ⟨t118, A50, H⟩ := H
  replace H : (if t118 > 0 then ((quillpenref09_Quoted.f k a0_0 a0_1 a0_2 a1).bind fun t119 => (some t119)) else (some a1)) = some r := H
  have A5 := Aside0.mk A50
  clear A50
  by_cases c6 : t118 > 0
  · rw [if_pos c6] at H
    have c6b0 : decide (0 < t118) = true := decide_eq_true c6
    clear c6
    replace H := Option.bind_eq_some_iff.mp H
    obtain ⟨t119, A70, H⟩ := H
    replace H : (some t119) = some r := H
    have A7 := Aside0.mk A70
    clear A70
    obtain rfl := Option.some.inj H
    go_enter Tryd.func47, Tryd.ntmps47
    go_wp2_with (first | ((with_reducible refine gate_dst (N := 4) rfl ?_); refine box_event ?hg (N := 4) ?hd (cs := #[.int .i64 a0_0, .int .i64 a0_1, .int .i64 a0_2]) (t := 51) ?hr ?_; (case hd => rfl); (case hg => rfl); (case hr => first | (go_simp; done) | (go_simp; rfl)); intro gb117 hg w8 hbox hb; have n0_ := Aside0.mk (below_step (by repeat (first | (with_reducible first | exact HB.out | apply below_alloc | apply pw_below_drewN | apply below_drew1) | exact HB.out)) hb); have n1_ := Aside0.mk (hbox); have n2_ := Aside0.mk ((by rw [hg]; exact (below_size (by repeat (first | (with_reducible first | exact HB.out | apply below_alloc | apply pw_below_drewN | apply below_drew1) | exact HB.out))) : w.heap.size ≤ gb117)); have n3_ := Aside0.mk ((by rw [hg]; exact (below_size (by repeat (first | (with_reducible first | exact HB.out | apply below_alloc | apply pw_below_drewN | apply below_drew1) | exact HB.out))) : w.heap.size ≤ gb117)); clear HB; have HB := n0_; have BK117 := n1_; have GW117 := n2_; have GE117 := n3_; clear n0_ n1_ n2_ n3_; clear hb hbox hg; have hcz9_0 : w8.cell? ⟨gb117, 0, none⟩ = some (.int .i64 a0_0) := (blk_cell BK117.out 0).trans rfl; have hcz9_1 : w8.cell? ⟨gb117, 1, none⟩ = some (.int .i64 a0_1) := (blk_cell BK117.out 1).trans rfl; have hcz9_2 : w8.cell? ⟨gb117, 2, none⟩ = some (.int .i64 a0_2) := (blk_cell BK117.out 2).trans rfl; have hfz9_0 := blk_frozen BK117.out 0; have hfz9_1 := blk_frozen BK117.out 1; have hfz9_2 := blk_frozen BK117.out 2) | ((with_reducible refine gate_callee (f := 55) rfl ?_); refine goesL_ (some 13) rfl rfl Tryd.func55 (by kernel_rfl) rfl #[.agg #[.int .i64 a0_0, .int .i64 a0_1, .int .i64 a0_2], .string a1, .int .i64 a2, .int .i64 a3] rfl (by (try simp only [List.map_toArray, List.map_cons, List.map_nil]); first | done | rfl | (simp only [List.length_drop, List.length_take]; rfl)) ?_; (with_reducible refine (quillpenref08_Why.calls k a0_0 a0_1 a0_2 a1 a2 a3 t118 _ A5.out).mono ?_); rintro e w10 ⟨rfl, hb⟩; refine ⟨_, rfl, ?_⟩; have n0_ := Aside0.mk (blk_below (g := gb117) (o := .cells #[.int .i64 a0_0, .int .i64 a0_1, .int .i64 a0_2] 51 (0, 0)) (by (with_reducible repeat (first | refine blk_drewN ?_ _ | refine blk_drew ?_ | refine blk_alloc ?_ _)); exact BK117.out) hb); have n1_ := Aside0.mk (below_step (by repeat (first | (with_reducible first | exact HB.out | apply below_alloc | apply pw_below_drewN | apply below_drew1 | refine below_set ?_ GE117.out) | exact HB.out)) hb); clear BK117; clear HB; have BK117 := n0_; have HB := n1_; clear n0_ n1_; (try clear hb); (try clear hb2); (try clear hk); (try clear hi); have hcz11_0 : w10.cell? ⟨gb117, 0, none⟩ = some (.int .i64 a0_0) := (blk_cell BK117.out 0).trans rfl; have hcz11_1 : w10.cell? ⟨gb117, 1, none⟩ = some (.int .i64 a0_1) := (blk_cell BK117.out 1).trans rfl; have hcz11_2 : w10.cell? ⟨gb117, 2, none⟩ = some (.int .i64 a0_2) := (blk_cell BK117.out 2).trans rfl; have hfz11_0 := blk_frozen BK117.out 0; have hfz11_1 := blk_frozen BK117.out 1; have hfz11_2 := blk_frozen BK117.out 2) | ((with_reducible refine gate_callee (f := 56) rfl ?_); refine goesL_ (some 17) rfl rfl Tryd.func56 (by kernel_rfl) rfl #[.agg #[.int .i64 a0_0, .int .i64 a0_1, .int .i64 a0_2], .string a1] rfl (by (try simp only [List.map_toArray, List.map_cons, List.map_nil]); first | done | rfl | (simp only [List.length_drop, List.length_take]; rfl)) ?_; (with_reducible refine (quillpenref09_Quoted.calls k a0_0 a0_1 a0_2 a1 t119 _ A7.out).mono ?_); rintro e w12 ⟨rfl, hb⟩; refine ⟨_, rfl, ?_⟩; have n0_ := Aside0.mk (blk_below (g := gb117) (o := .cells #[.int .i64 a0_0, .int .i64 a0_1, .int .i64 a0_2] 51 (0, 0)) (by (with_reducible repeat (first | refine blk_drewN ?_ _ | refine blk_drew ?_ | refine blk_alloc ?_ _)); exact BK117.out) hb); have n1_ := Aside0.mk (below_step (by repeat (first | (with_reducible first | exact HB.out | apply below_alloc | apply pw_below_drewN | apply below_drew1 | refine below_set ?_ GE117.out) | exact HB.out)) hb); clear BK117; clear HB; have BK117 := n0_; have HB := n1_; clear n0_ n1_; (try clear hb); (try clear hb2); (try clear hk); (try clear hi)))
    go_ret
    exact ⟨by first | rfl | (simp [errW_none, errW_some] <;> rfl) | (simp [*, errW_none, errW_some] <;> rfl), by repeat (first | (with_reducible first | exact HB.out | apply below_alloc | apply pw_below_drewN | apply below_drew1 | refine below_set ?_ GE117.out) | exact HB.out)⟩
  · rw [if_neg c6] at H
    have c6b0 : decide (0 < t118) = false := decide_eq_false c6
    clear c6
    obtain rfl := Option.some.inj H
    go_enter Tryd.func47, Tryd.ntmps47
    go_wp2_with (first | ((with_reducible refine gate_dst (N := 4) rfl ?_); refine box_event ?hg (N := 4) ?hd (cs := #[.int .i64 a0_0, .int .i64 a0_1, .int .i64 a0_2]) (t := 51) ?hr ?_; (case hd => rfl); (case hg => rfl); (case hr => first | (go_simp; done) | (go_simp; rfl)); intro gb117 hg w13 hbox hb; have n0_ := Aside0.mk (below_step (by repeat (first | (with_reducible first | exact HB.out | apply below_alloc | apply pw_below_drewN | apply below_drew1) | exact HB.out)) hb); have n1_ := Aside0.mk (hbox); have n2_ := Aside0.mk ((by rw [hg]; exact (below_size (by repeat (first | (with_reducible first | exact HB.out | apply below_alloc | apply pw_below_drewN | apply below_drew1) | exact HB.out))) : w.heap.size ≤ gb117)); have n3_ := Aside0.mk ((by rw [hg]; exact (below_size (by repeat (first | (with_reducible first | exact HB.out | apply below_alloc | apply pw_below_drewN | apply below_drew1) | exact HB.out))) : w.heap.size ≤ gb117)); clear HB; have HB := n0_; have BK117 := n1_; have GW117 := n2_; have GE117 := n3_; clear n0_ n1_ n2_ n3_; clear hb hbox hg; have hcz14_0 : w13.cell? ⟨gb117, 0, none⟩ = some (.int .i64 a0_0) := (blk_cell BK117.out 0).trans rfl; have hcz14_1 : w13.cell? ⟨gb117, 1, none⟩ = some (.int .i64 a0_1) := (blk_cell BK117.out 1).trans rfl; have hcz14_2 : w13.cell? ⟨gb117, 2, none⟩ = some (.int .i64 a0_2) := (blk_cell BK117.out 2).trans rfl; have hfz14_0 := blk_frozen BK117.out 0; have hfz14_1 := blk_frozen BK117.out 1; have hfz14_2 := blk_frozen BK117.out 2) | ((with_reducible refine gate_callee (f := 55) rfl ?_); refine goesL_ (some 13) rfl rfl Tryd.func55 (by kernel_rfl) rfl #[.agg #[.int .i64 a0_0, .int .i64 a0_1, .int .i64 a0_2], .string a1, .int .i64 a2, .int .i64 a3] rfl (by (try simp only [List.map_toArray, List.map_cons, List.map_nil]); first | done | rfl | (simp only [List.length_drop, List.length_take]; rfl)) ?_; (with_reducible refine (quillpenref08_Why.calls k a0_0 a0_1 a0_2 a1 a2 a3 t118 _ A5.out).mono ?_); rintro e w15 ⟨rfl, hb⟩; refine ⟨_, rfl, ?_⟩; have n0_ := Aside0.mk (blk_below (g := gb117) (o := .cells #[.int .i64 a0_0, .int .i64 a0_1, .int .i64 a0_2] 51 (0, 0)) (by (with_reducible repeat (first | refine blk_drewN ?_ _ | refine blk_drew ?_ | refine blk_alloc ?_ _)); exact BK117.out) hb); have n1_ := Aside0.mk (below_step (by repeat (first | (with_reducible first | exact HB.out | apply below_alloc | apply pw_below_drewN | apply below_drew1 | refine below_set ?_ GE117.out) | exact HB.out)) hb); clear BK117; clear HB; have BK117 := n0_; have HB := n1_; clear n0_ n1_; (try clear hb); (try clear hb2); (try clear hk); (try clear hi)))
    go_ret
    exact ⟨by first | rfl | (simp [errW_none, errW_some] <;> rfl) | (simp [*, errW_none, errW_some] <;> rfl), by repeat (first | (with_reducible first | exact HB.out | apply below_alloc | apply pw_below_drewN | apply below_drew1 | refine below_set ?_ GE117.out) | exact HB.out)⟩
def quillpenref01_End.f (a0_0 : Int) (a0_1 : Int) (a0_2 : Int) : Option (ByteArray) := if a0_2 = 2 then (some (⟨#[13, 10]⟩ : ByteArray)) else (some (⟨#[10]⟩ : ByteArray))
set_option maxHeartbeats 8000000 in
set_option maxRecDepth 100000 in
theorem quillpenref01_End.calls (a0_0 : Int) (a0_1 : Int) (a0_2 : Int) (r : ByteArray) (w : World) (h : quillpenref01_End.f a0_0 a0_1 a0_2 = some r) :
    Calls Tryd.prog 48 #[.agg #[.int .i64 a0_0, .int .i64 a0_1, .int .i64 a0_2]] w fun e w' => e = .returned (.string r) ∧ Below w.heap.size w w' := by
  have hu51 := Tryd.underlying51
  have HB := Aside0.mk (Below.refl w.heap.size w)
  have H : (if a0_2 = 2 then (some (⟨#[13, 10]⟩ : ByteArray)) else (some (⟨#[10]⟩ : ByteArray))) = some r := h
  clear h
  by_cases c2 : a0_2 = 2
  · rw [if_pos c2] at H
    have c2b0 : (a0_2 == 2) = true := beq_iff_eq.mpr c2
    have c2b1 : (a0_2 != 2) = false := bne_eq_false_iff_eq.mpr c2
    clear c2
    obtain rfl := Option.some.inj H
    go_enter Tryd.func48, Tryd.ntmps48
    go_wp2_with (first | ((with_reducible refine gate_dst (N := 1) rfl ?_); refine box_event ?hg (N := 1) ?hd (cs := #[.int .i64 a0_0, .int .i64 a0_1, .int .i64 a0_2]) (t := 51) ?hr ?_; (case hd => rfl); (case hg => rfl); (case hr => first | (go_simp; done) | (go_simp; rfl)); intro gb120 hg w3 hbox hb; have n0_ := Aside0.mk (below_step (by repeat (first | (with_reducible first | exact HB.out | apply below_alloc | apply pw_below_drewN | apply below_drew1) | exact HB.out)) hb); have n1_ := Aside0.mk (hbox); have n2_ := Aside0.mk ((by rw [hg]; exact (below_size (by repeat (first | (with_reducible first | exact HB.out | apply below_alloc | apply pw_below_drewN | apply below_drew1) | exact HB.out))) : w.heap.size ≤ gb120)); have n3_ := Aside0.mk ((by rw [hg]; exact (below_size (by repeat (first | (with_reducible first | exact HB.out | apply below_alloc | apply pw_below_drewN | apply below_drew1) | exact HB.out))) : w.heap.size ≤ gb120)); clear HB; have HB := n0_; have BK120 := n1_; have GW120 := n2_; have GE120 := n3_; clear n0_ n1_ n2_ n3_; clear hb hbox hg; have hcz4_0 : w3.cell? ⟨gb120, 0, none⟩ = some (.int .i64 a0_0) := (blk_cell BK120.out 0).trans rfl; have hcz4_1 : w3.cell? ⟨gb120, 1, none⟩ = some (.int .i64 a0_1) := (blk_cell BK120.out 1).trans rfl; have hcz4_2 : w3.cell? ⟨gb120, 2, none⟩ = some (.int .i64 a0_2) := (blk_cell BK120.out 2).trans rfl; have hfz4_0 := blk_frozen BK120.out 0; have hfz4_1 := blk_frozen BK120.out 1; have hfz4_2 := blk_frozen BK120.out 2))
    go_ret
    exact ⟨by first | rfl | (simp [errW_none, errW_some] <;> rfl) | (simp [*, errW_none, errW_some] <;> rfl), by repeat (first | (with_reducible first | exact HB.out | apply below_alloc | apply pw_below_drewN | apply below_drew1 | refine below_set ?_ GE120.out) | exact HB.out)⟩
  · rw [if_neg c2] at H
    have c2b0 : (a0_2 == 2) = false := beq_eq_false_iff_ne.mpr c2
    have c2b1 : (a0_2 != 2) = true := bne_iff_ne.mpr c2
    obtain rfl := Option.some.inj H
    go_enter Tryd.func48, Tryd.ntmps48
    go_wp2_with (first | ((with_reducible refine gate_dst (N := 1) rfl ?_); refine box_event ?hg (N := 1) ?hd (cs := #[.int .i64 a0_0, .int .i64 a0_1, .int .i64 a0_2]) (t := 51) ?hr ?_; (case hd => rfl); (case hg => rfl); (case hr => first | (go_simp; done) | (go_simp; rfl)); intro gb120 hg w5 hbox hb; have n0_ := Aside0.mk (below_step (by repeat (first | (with_reducible first | exact HB.out | apply below_alloc | apply pw_below_drewN | apply below_drew1) | exact HB.out)) hb); have n1_ := Aside0.mk (hbox); have n2_ := Aside0.mk ((by rw [hg]; exact (below_size (by repeat (first | (with_reducible first | exact HB.out | apply below_alloc | apply pw_below_drewN | apply below_drew1) | exact HB.out))) : w.heap.size ≤ gb120)); have n3_ := Aside0.mk ((by rw [hg]; exact (below_size (by repeat (first | (with_reducible first | exact HB.out | apply below_alloc | apply pw_below_drewN | apply below_drew1) | exact HB.out))) : w.heap.size ≤ gb120)); clear HB; have HB := n0_; have BK120 := n1_; have GW120 := n2_; have GE120 := n3_; clear n0_ n1_ n2_ n3_; clear hb hbox hg; have hcz6_0 : w5.cell? ⟨gb120, 0, none⟩ = some (.int .i64 a0_0) := (blk_cell BK120.out 0).trans rfl; have hcz6_1 : w5.cell? ⟨gb120, 1, none⟩ = some (.int .i64 a0_1) := (blk_cell BK120.out 1).trans rfl; have hcz6_2 : w5.cell? ⟨gb120, 2, none⟩ = some (.int .i64 a0_2) := (blk_cell BK120.out 2).trans rfl; have hfz6_0 := blk_frozen BK120.out 0; have hfz6_1 := blk_frozen BK120.out 1; have hfz6_2 := blk_frozen BK120.out 2))
    go_ret
    exact ⟨by first | rfl | (simp [errW_none, errW_some] <;> rfl) | (simp [*, errW_none, errW_some] <;> rfl), by repeat (first | (with_reducible first | exact HB.out | apply below_alloc | apply pw_below_drewN | apply below_drew1 | refine below_set ?_ GE120.out) | exact HB.out)⟩
end Go.Proofs.YtmignbhpofmgeaaDoor.XTopOther
namespace Go.Proofs.YtmignbhpofmgeaaDoor.XTopOther
open Go.RowKit Go.Proofs.YtmignbhpofmgeaaDoorW.PrintWords Go.Proofs.YtmignbhpofmgeaaDoorW.PrintLast Go.Proofs.YtmignbhpofmgeaaDoorW.PrintMore
attribute [local go_sem] max2_int min2_int max_two min_two max_three min_three max_four min_four   -- for this text's walks alone
set_option linter.unusedVariables false
set_option linter.unusedSimpArgs false
def quillpenref10_Line.l0 : Nat → List ByteArray → Int → ByteArray → List ByteArray → Int → Int → Int → Int → Int → Option (ByteArray)
  | 0, _, _, _, _, _, _, _, _, _ => none
  | k + 1, x1, x2, x7, x10, x11, x12, x122000, x122001, x122002 => if x12 < x11 then (if 0 ≤ x12 then (if x12 < (x10.length : Int) then (if x12 > 0 then ((some (([(x122000) % 256] : List Int) : List Int)).bind fun y124 => (if x7.size + (strOfNums y124).size ≤ 9223372036854775807 then ((quillpenref10_one.f ((x1.length : Int) == 1)).bind fun t127 => (if x2 = 1 then ((quillpenref10_one.f (x12 == 0)).bind fun t128 => ((quillpenref09_Written.f k x122000 x122001 x122002 (rdOf ByteArray.empty x10 x12) t127 t128).bind fun t129 => (if (x7 ++ (strOfNums y124)).size + t129.size ≤ 9223372036854775807 then (quillpenref10_Line.l0 k x1 x2 ((x7 ++ (strOfNums y124)) ++ t129) x10 x11 (wrap64 (x12 + 1)) x122000 x122001 x122002) else (none)))) else ((quillpenref10_one.f false).bind fun t130 => ((quillpenref09_Written.f k x122000 x122001 x122002 (rdOf ByteArray.empty x10 x12) t127 t130).bind fun t131 => (if (x7 ++ (strOfNums y124)).size + t131.size ≤ 9223372036854775807 then (quillpenref10_Line.l0 k x1 x2 ((x7 ++ (strOfNums y124)) ++ t131) x10 x11 (wrap64 (x12 + 1)) x122000 x122001 x122002) else (none)))))) else (none))) else ((quillpenref10_one.f ((x1.length : Int) == 1)).bind fun t132 => (if x2 = 1 then ((quillpenref10_one.f (x12 == 0)).bind fun t133 => ((quillpenref09_Written.f k x122000 x122001 x122002 (rdOf ByteArray.empty x10 x12) t132 t133).bind fun t134 => (if x7.size + t134.size ≤ 9223372036854775807 then (quillpenref10_Line.l0 k x1 x2 (x7 ++ t134) x10 x11 (wrap64 (x12 + 1)) x122000 x122001 x122002) else (none)))) else ((quillpenref10_one.f false).bind fun t135 => ((quillpenref09_Written.f k x122000 x122001 x122002 (rdOf ByteArray.empty x10 x12) t132 t135).bind fun t136 => (if x7.size + t136.size ≤ 9223372036854775807 then (quillpenref10_Line.l0 k x1 x2 (x7 ++ t136) x10 x11 (wrap64 (x12 + 1)) x122000 x122001 x122002) else (none))))))) else (none)) else (none)) else ((quillpenref01_End.f x122000 x122001 x122002).bind fun t122 => (if x7.size + t122.size ≤ 9223372036854775807 then (some (x7 ++ t122)) else (none)))
def quillpenref10_Line.f (k : Nat) (a0_0 : Int) (a0_1 : Int) (a0_2 : Int) (l1 : List ByteArray) (a2 : Int) : Option (ByteArray) := quillpenref10_Line.l0 k l1 a2 (⟨#[]⟩ : ByteArray) l1 (l1.length : Int) 0 a0_0 a0_1 a0_2
def quillpenref10_Line.T7 : Bool × List (List Nat × List Nat) := (true, [([], []), ([], []), ([], []), ([], []), ([3], [3]), ([4], [4]), ([5], [5]), ([], []), ([7], [7]), ([8, 6], [8]), ([9], [9]), ([10, 9], [9, 10]), ([9, 11], [9, 11]), ([12, 9], [12]), ([1, 2, 6, 13, 13], [1, 2, 6, 13]), ([0, 14], [0, 14]), ([15, 14, 0, 1, 2, 3, 4, 5, 6, 7, 8, 9, 10, 11, 12, 13, 14, 15], [0, 15])])
def quillpenref10_Line.B7 : List Nat := [0, 0, 0, 0, 8, 24, 56, 0, 128, 504, 1016, 2040, 4088, 8184, 16382, 32767, 65535]
theorem quillpenref10_Line.tab7 : rtab .any (opsOf Tryd.f36 7) = quillpenref10_Line.T7 := by kernel_rfl
theorem quillpenref10_Line.bits7 : waitsOk quillpenref10_Line.T7.2 quillpenref10_Line.B7 = true := by kernel_rfl
set_option maxHeartbeats 8000000 in
set_option maxRecDepth 100000 in
theorem quillpenref10_Line.calls (k : Nat) (a0_0 : Int) (a0_1 : Int) (a0_2 : Int) (A1 : Option Addr) (c1 : Nat) (l1 : List ByteArray) (a2 : Int) (r : ByteArray) (w : World) (hr1 : Kd.C Kd.string w A1 l1.length l1) (hc1 : l1.length ≤ c1) (h : quillpenref10_Line.f k a0_0 a0_1 a0_2 l1 a2 = some r) :
    Calls Tryd.prog 36 #[.agg #[.int .i64 a0_0, .int .i64 a0_1, .int .i64 a0_2], .slice A1 l1.length c1, .int .i64 a2] w fun e w' => e = .returned (.string r) ∧ Below w.heap.size w w' := by
  have hu51 := Tryd.underlying51
  have HR1 := Aside0.mk hr1
  have HC1 := Aside0.mk hc1
  clear hr1 hc1
  have HB := Aside0.mk (Below.refl w.heap.size w)
  have H : (quillpenref10_Line.l0 k l1 a2 (⟨#[]⟩ : ByteArray) l1 (l1.length : Int) 0 a0_0 a0_1 a0_2) = some r := h
  clear h
  have H' := Aside0.mk H
  clear H
  go_enter Tryd.func36, Tryd.ntmps36
  go_wp2_with (first | ((with_reducible refine gate_dst (N := 3) rfl ?_); refine box_event ?hg (N := 3) ?hd (cs := #[.int .i64 a0_0, .int .i64 a0_1, .int .i64 a0_2]) (t := 51) ?hr ?_; (case hd => rfl); (case hg => rfl); (case hr => first | (go_simp; done) | (go_simp; rfl)); intro gb121 hg w4 hbox hb; have n0_ := Aside0.mk (below_step (by repeat (first | (with_reducible first | exact HB.out | apply below_alloc | apply pw_below_drewN | apply below_drew1) | exact HB.out)) hb); have n1_ := Aside0.mk (hbox); have n2_ := Aside0.mk ((by rw [hg]; exact (below_size (by repeat (first | (with_reducible first | exact HB.out | apply below_alloc | apply pw_below_drewN | apply below_drew1) | exact HB.out))) : w.heap.size ≤ gb121)); have n3_ := Aside0.mk ((by rw [hg]; exact (below_size (by repeat (first | (with_reducible first | exact HB.out | apply below_alloc | apply pw_below_drewN | apply below_drew1) | exact HB.out))) : w.heap.size ≤ gb121)); clear HB; have HB := n0_; have BK121 := n1_; have GW121 := n2_; have GE121 := n3_; clear n0_ n1_ n2_ n3_; clear hb hbox hg))
  go_loopg [7, 12] k (fun kq v7 v12 w' => ∃ (x7_1 : ByteArray) (x12_1 : Int), v7 = .string x7_1 ∧ v12 = .int .i64 x12_1 ∧ Aside0 (quillpenref10_Line.l0 kq l1 a2 x7_1 l1 (l1.length : Int) x12_1 a0_0 a0_1 a0_2 = some r) ∧ Aside0 (kq ≤ k) ∧ Aside0 (w'.heap[gb121]? = some (.cells #[.int .i64 a0_0, .int .i64 a0_1, .int .i64 a0_2] 51 (0, 0))) ∧ Aside0 (Below w.heap.size w w'))
  case atStart => exact ⟨((⟨#[]⟩ : ByteArray)), (0), (by first | rfl | (simp; done) | (simp [*]; done)), (by first | rfl | (simp; done) | (simp [*]; done)), H', ⟨Nat.le_refl _⟩, ⟨by (with_reducible repeat (first | refine blk_drewN ?_ _ | refine blk_drew ?_ | refine blk_alloc ?_ _)); exact BK121.out⟩, ⟨by repeat (first | (with_reducible first | exact HB.out | apply below_alloc | apply pw_below_drewN | apply below_drew1 | refine below_set ?_ GE121.out) | exact HB.out)⟩⟩
  case round =>
    clear H'
    try clear c1
    try clear p2
    try clear c3
    obtain ⟨x7_1, x12_1, rfl, rfl, HA, HK1, BK121, HB⟩ := hrel
    cases gk with
    | zero => exact absurd HA.out (by simp [quillpenref10_Line.l0])
    | succ k1 =>
      have H := HA.out
      clear HA
      simp only [quillpenref10_Line.l0] at H
      by_cases c5 : x12_1 < (l1.length : Int)
      · rw [if_pos c5] at H
        have c5b0 : decide (x12_1 < (l1.length : Int)) = true := decide_eq_true c5
        clear c5
        by_cases c6 : 0 ≤ x12_1
        · rw [if_pos c6] at H
          have c6b0 : decide (0 ≤ x12_1) = true := decide_eq_true c6
          clear c6
          by_cases c7 : x12_1 < (l1.length : Int)
          · rw [if_pos c7] at H
            have c7b0 : decide (x12_1 < (l1.length : Int)) = true := decide_eq_true c7
            clear c7
            by_cases c8 : x12_1 > 0
            · rw [if_pos c8] at H
              have c8b0 : decide (0 < x12_1) = true := decide_eq_true c8
              clear c8
              obtain ⟨y124, hy124⟩ : ∃ y_ : List Int, y_ = (([(a0_0) % 256] : List Int)) := ⟨_, rfl⟩
              replace H : (if x7_1.size + (strOfNums y124).size ≤ 9223372036854775807 then ((quillpenref10_one.f ((l1.length : Int) == 1)).bind fun t127 => (if a2 = 1 then ((quillpenref10_one.f (x12_1 == 0)).bind fun t128 => ((quillpenref09_Written.f k1 a0_0 a0_1 a0_2 (rdOf ByteArray.empty l1 x12_1) t127 t128).bind fun t129 => (if (x7_1 ++ (strOfNums y124)).size + t129.size ≤ 9223372036854775807 then (quillpenref10_Line.l0 k1 l1 a2 ((x7_1 ++ (strOfNums y124)) ++ t129) l1 (l1.length : Int) (wrap64 (x12_1 + 1)) a0_0 a0_1 a0_2) else (none)))) else ((quillpenref10_one.f false).bind fun t130 => ((quillpenref09_Written.f k1 a0_0 a0_1 a0_2 (rdOf ByteArray.empty l1 x12_1) t127 t130).bind fun t131 => (if (x7_1 ++ (strOfNums y124)).size + t131.size ≤ 9223372036854775807 then (quillpenref10_Line.l0 k1 l1 a2 ((x7_1 ++ (strOfNums y124)) ++ t131) l1 (l1.length : Int) (wrap64 (x12_1 + 1)) a0_0 a0_1 a0_2) else (none)))))) else (none)) = some r := by first | (rw [hy124]; with_reducible exact H) | (have H2_ := (Option.bind_some _ _).symm.trans H; rw [hy124]; with_reducible exact H2_) | (have H2_ := (Option.bind_some _ _).symm.trans H; with_reducible exact H2_) | with_reducible exact H | (rw [hy124]; exact H) | exact H
              have Ny124 := Aside0.mk hy124
              clear hy124
              by_cases c9 : x7_1.size + (strOfNums y124).size ≤ 9223372036854775807
              · rw [if_pos c9] at H
                have c9b0 := eq_true c9
                have c9b1 : decide (x7_1.size + (strOfNums y124).size ≤ 9223372036854775807) = true := decide_eq_true c9
                try have c9b2 : (9223372036854775807 < x7_1.size + (strOfNums y124).size) = False := eq_false (Nat.not_lt.2 c9)
                replace H := Option.bind_eq_some_iff.mp H
                obtain ⟨t127, A100, H⟩ := H
                replace H : (if a2 = 1 then ((quillpenref10_one.f (x12_1 == 0)).bind fun t128 => ((quillpenref09_Written.f k1 a0_0 a0_1 a0_2 (rdOf ByteArray.empty l1 x12_1) t127 t128).bind fun t129 => (if (x7_1 ++ (strOfNums y124)).size + t129.size ≤ 9223372036854775807 then (quillpenref10_Line.l0 k1 l1 a2 ((x7_1 ++ (strOfNums y124)) ++ t129) l1 (l1.length : Int) (wrap64 (x12_1 + 1)) a0_0 a0_1 a0_2) else (none)))) else ((quillpenref10_one.f false).bind fun t130 => ((quillpenref09_Written.f k1 a0_0 a0_1 a0_2 (rdOf ByteArray.empty l1 x12_1) t127 t130).bind fun t131 => (if (x7_1 ++ (strOfNums y124)).size + t131.size ≤ 9223372036854775807 then (quillpenref10_Line.l0 k1 l1 a2 ((x7_1 ++ (strOfNums y124)) ++ t131) l1 (l1.length : Int) (wrap64 (x12_1 + 1)) a0_0 a0_1 a0_2) else (none))))) = some r := H
                have A10 := Aside0.mk A100
                clear A100
                by_cases c11 : a2 = 1
                · rw [if_pos c11] at H
                  have c11b0 : (a2 == 1) = true := beq_iff_eq.mpr c11
                  have c11b1 : (a2 != 1) = false := bne_eq_false_iff_eq.mpr c11
                  clear c11
                  replace H := Option.bind_eq_some_iff.mp H
                  obtain ⟨t128, A120, H⟩ := H
                  replace H : ((quillpenref09_Written.f k1 a0_0 a0_1 a0_2 (rdOf ByteArray.empty l1 x12_1) t127 t128).bind fun t129 => (if (x7_1 ++ (strOfNums y124)).size + t129.size ≤ 9223372036854775807 then (quillpenref10_Line.l0 k1 l1 a2 ((x7_1 ++ (strOfNums y124)) ++ t129) l1 (l1.length : Int) (wrap64 (x12_1 + 1)) a0_0 a0_1 a0_2) else (none))) = some r := H
                  have A12 := Aside0.mk A120
                  clear A120
                  replace H := Option.bind_eq_some_iff.mp H
                  obtain ⟨t129, A130, H⟩ := H
                  replace H : (if (x7_1 ++ (strOfNums y124)).size + t129.size ≤ 9223372036854775807 then (quillpenref10_Line.l0 k1 l1 a2 ((x7_1 ++ (strOfNums y124)) ++ t129) l1 (l1.length : Int) (wrap64 (x12_1 + 1)) a0_0 a0_1 a0_2) else (none)) = some r := H
                  have A13 := Aside0.mk A130
                  clear A130
                  by_cases c14 : (x7_1 ++ (strOfNums y124)).size + t129.size ≤ 9223372036854775807
                  · rw [if_pos c14] at H
                    have c14b0 := eq_true c14
                    have c14b1 : decide ((x7_1 ++ (strOfNums y124)).size + t129.size ≤ 9223372036854775807) = true := decide_eq_true c14
                    try have c14b2 : (9223372036854775807 < (x7_1 ++ (strOfNums y124)).size + t129.size) = False := eq_false (Nat.not_lt.2 c14)
                    have c14b3 : (9223372036854775807 < x7_1.size + (strOfNums y124).size + t129.size) = False := by have := c14b2; rwa [ByteArray.size_append] at this
                    have H' := Aside0.mk H
                    clear H
                    have p123 : 0 ≤ (x12_1 : Int) := of_decide_eq_true (by first | (with_reducible assumption) | assumption)
                    have q123 : x12_1 < (l1.length : Int) := of_decide_eq_true (by first | (with_reducible assumption) | assumption)
                    obtain ⟨ad123, e123, hx123_0⟩ := Kd.at_string HR1.out x12_1 p123 q123
                    cases e123
                    replace hx123_0 := (HB.out.cell (World.block_lt_of_cell? w _ hx123_0)).trans hx123_0
                    replace p123 := eq_true p123
                    replace q123 := eq_true q123
                    have hcz15_0 : wr.cell? ⟨gb121, 0, none⟩ = some (.int .i64 a0_0) := (blk_cell BK121.out 0).trans rfl
                    have hcz15_1 : wr.cell? ⟨gb121, 1, none⟩ = some (.int .i64 a0_1) := (blk_cell BK121.out 1).trans rfl
                    have hcz15_2 : wr.cell? ⟨gb121, 2, none⟩ = some (.int .i64 a0_2) := (blk_cell BK121.out 2).trans rfl
                    have hfz15_0 := blk_frozen BK121.out 0
                    have hfz15_1 := blk_frozen BK121.out 1
                    have hfz15_2 := blk_frozen BK121.out 2
                    try go_wp2_with (first | ((with_reducible refine gate_dst (N := 23) rfl ?_); refine Kd.R_lit (Kd.int .u8) _ 5 ?hg (N := 23) ?hd (xs := ([(a0_0) % 256] : List Int)) (inner := [.int .u8 ((a0_0) % 256)]) (ok := fun _ => True) (okp := fun _ => True) ?hr ?hp (fun _ hk => hk) trivial (Below.refl _ _) (Nat.le_refl _) (by simp) ?_; (case hd => rfl); (case hg => rfl); (case hr => first | (go_simp; done) | (go_simp; rfl)); (case hp => exact (Reps.one (show Kd.M (Kd.int .u8) _ _ _ ((a0_0) % 256) [.int .u8 ((a0_0) % 256)] from rfl) (Reps.none _ _))); intro v125 w16 ho17 hb hg_ hnew_; clear hg_ hnew_; (first | rw [← Ny124.out] at ho17 | (simp only [Int.reduceToNat] at ho17; rw [← Ny124.out] at ho17)); have n0_ := Aside0.mk (Kd.R_lower ho17 (below_size (by repeat (first | (with_reducible first | exact HB.out | apply below_alloc | apply pw_below_drewN | apply below_drew1 | refine below_set ?_ GE121.out) | exact HB.out)))); have n1_ := Aside0.mk (blk_below (g := gb121) (o := .cells #[.int .i64 a0_0, .int .i64 a0_1, .int .i64 a0_2] 51 (0, 0)) (by (with_reducible repeat (first | refine blk_drewN ?_ _ | refine blk_drew ?_ | refine blk_alloc ?_ _)); exact BK121.out) hb); have n2_ := Aside0.mk (below_step (by repeat (first | (with_reducible first | exact HB.out | apply below_alloc | apply pw_below_drewN | apply below_drew1 | refine below_set ?_ GE121.out) | exact HB.out)) hb); clear BK121; clear HB; have HO126 := n0_; have BK121 := n1_; have HB := n2_; clear n0_ n1_ n2_; clear hb ho17; have hcv18 := own_string (P := Tryd.prog) Tryd.underlying37 Tryd.underlying5 Tryd.underlying9 (Kd.own_of_R HO126.out)))
                    have n0_ := Aside0.mk (Kd.R_drew HO126.out)
                    have n1_ := Aside0.mk (blk_drew BK121.out)
                    have n2_ := Aside0.mk (below_drew1 HB.out)
                    clear HO126
                    clear BK121
                    clear HB
                    have HO126 := n0_
                    have BK121 := n1_
                    have HB := n2_
                    clear n0_ n1_ n2_
                    refine start_ (n := 17) (S := fun w' => w'.cell? ⟨gb121, 0, none⟩ = some (.int .i64 a0_0) ∧ w'.cell? ⟨gb121, 1, none⟩ = some (.int .i64 a0_1) ∧ w'.cell? ⟨gb121, 2, none⟩ = some (.int .i64 a0_2)) (ds := []) #[false, false, false, false, false, false, false, false, false, false, false, false, false, false, false, false, false] (by kernel_rfl) rfl rfl ⟨(blk_cell BK121.out 0).trans rfl, (blk_cell BK121.out 1).trans rfl, (blk_cell BK121.out 2).trans rfl⟩ (fun hHeld => ?_); refine with_tabW quillpenref10_Line.tab7 quillpenref10_Line.bits7 (fun HT_ HW_ => ?_)
                    generalize w16.drew = w19 at HO126 BK121 HB hHeld ⊢
                    refine pure_ (i := 0) (N := some 26) (v := ?_) (a' := ?_) #[true, false, false, false, false, false, false, false, false, false, false, false, false, false, false, false, false] rfl rfl (any_of HT_.out (by kernel_rfl)) (fun _ _ _ h => h) (Or.inl ⟨by rfl, ?_⟩) ?_ ?_
                    rotate_left
                    · intro w'
                      go_simp
                      with_reducible rfl
                    rotate_left
                    · simp only [Act.put, List.setIfInBounds_toArray, List.set_cons_zero, List.set_cons_succ, i64_w, i32_w]
                      rfl
                    refine pure_ (i := 2) (N := some 28) (v := ?_) (a' := ?_) #[true, false, true, false, false, false, false, false, false, false, false, false, false, false, false, false, false] rfl rfl (any_of HT_.out (by kernel_rfl)) (fun _ _ _ h => h) (Or.inl ⟨by rfl, ?_⟩) ?_ ?_
                    rotate_left
                    · intro w'
                      go_simp
                      with_reducible rfl
                    rotate_left
                    · simp only [Act.put, List.setIfInBounds_toArray, List.set_cons_zero, List.set_cons_succ, i64_w, i32_w]
                      rfl
                    refine pure_ (i := 3) (N := some 29) (v := ?_) (a' := ?_) #[true, false, true, true, false, false, false, false, false, false, false, false, false, false, false, false, false] rfl rfl (any_of HT_.out (by kernel_rfl)) (fun _ _ _ h => h) (Or.inl ⟨by rfl, ?_⟩) ?_ ?_
                    rotate_left
                    · intro w'
                      go_simp
                      with_reducible rfl
                    rotate_left
                    · simp only [Act.put, List.setIfInBounds_toArray, List.set_cons_zero, List.set_cons_succ, i64_w, i32_w]
                      rfl
                    refine pure_ (i := 4) (N := some 30) (v := ?_) (a' := ?_) #[true, false, true, true, true, false, false, false, false, false, false, false, false, false, false, false, false] rfl rfl (any_of HT_.out (by kernel_rfl)) (fun _ _ _ h => h) (Or.inl ⟨by rfl, ?_⟩) ?_ ?_
                    rotate_left
                    · intro w'
                      go_simp
                      with_reducible rfl
                    rotate_left
                    · simp only [Act.put, List.setIfInBounds_toArray, List.set_cons_zero, List.set_cons_succ, i64_w, i32_w]
                      rfl
                    refine pure_ (i := 5) (N := some 31) (v := ?_) (a' := ?_) #[true, false, true, true, true, true, false, false, false, false, false, false, false, false, false, false, false] rfl rfl (any_of HT_.out (by kernel_rfl)) (fun _ _ _ h => h) (Or.inl ⟨by rfl, ?_⟩) ?_ ?_
                    rotate_left
                    · intro w'
                      go_simp
                      with_reducible rfl
                    rotate_left
                    · simp only [Act.put, List.setIfInBounds_toArray, List.set_cons_zero, List.set_cons_succ, i64_w, i32_w]
                      rfl
                    refine pure_ (i := 7) (N := some 33) (v := ?_) (a' := ?_) #[true, false, true, true, true, true, false, true, false, false, false, false, false, false, false, false, false] rfl rfl (any_of HT_.out (by kernel_rfl)) (fun _ _ _ h => h) (Or.inl ⟨by rfl, ?_⟩) ?_ ?_
                    rotate_left
                    · intro w'
                      go_simp
                      with_reducible rfl
                    rotate_left
                    · simp only [Act.put, List.setIfInBounds_toArray, List.set_cons_zero, List.set_cons_succ, i64_w, i32_w]
                      rfl
                    refine pure_ (i := 8) (N := some 34) (v := ?_) (a' := ?_) #[true, false, true, true, true, true, false, true, true, false, false, false, false, false, false, false, false] rfl rfl (any_of HT_.out (by kernel_rfl)) (fun _ _ _ h => h) (Or.inl ⟨by rfl, ?_⟩) ?_ ?_
                    rotate_left
                    · intro w'
                      go_simp
                      with_reducible rfl
                    rotate_left
                    · simp only [Act.put, List.setIfInBounds_toArray, List.set_cons_zero, List.set_cons_succ, i64_w, i32_w]
                      rfl
                    refine take_ (i := 1) (N := some 27) (v := ?_) (a' := ?_) #[true, true, true, true, true, true, false, true, true, false, false, false, false, false, false, false, false] rfl rfl (take_ofW HT_.out HW_.out (by kernel_rfl)) (fun _ _ _ h => h) (Or.inl ⟨by rfl, ?_⟩) hHeld ?_ ?_
                    rotate_left
                    · rintro w' ⟨s0, s1, s2⟩
                      go_simp
                      with_reducible rfl
                    rotate_left
                    · simp only [Act.put, List.setIfInBounds_toArray, List.set_cons_zero, List.set_cons_succ, i64_w, i32_w]
                      rfl
                    refine one_ (i := 6) (N := some 32) #[true, true, true, true, true, true, true, true, true, false, false, false, false, false, false, false, false] rfl rfl (one_of HT_.out (by kernel_rfl)) (by decide) (fun K hK => ?_)
                    refine goes_ Tryd.func37 (by kernel_rfl) rfl #[.bool ((l1.length : Int) == 1)] (by rfl) rfl rfl (by (try simp only [List.map_toArray, List.map_cons, List.map_nil]); first | done | rfl | (simp only [List.length_drop, List.length_take]; rfl)) ?_
                    with_reducible refine (quillpenref10_one.calls ((l1.length : Int) == 1) t127 _ A10.out).mono ?_
                    rintro e w' ⟨rfl, ⟨nd, rfl⟩⟩
                    refine ⟨_, rfl, ?_⟩
                    refine hK.out _ _ ⟨(blk_cell BK121.out 0).trans rfl, (blk_cell BK121.out 1).trans rfl, (blk_cell BK121.out 2).trans rfl⟩ (fun hHeld => ?_)
                    clear hK K
                    refine norm_ (a' := ?_) ?_ ?_
                    rotate_left
                    · show Act.put _ (some 32) _ = _
                      simp only [Act.put, List.setIfInBounds_toArray, List.set_cons_zero, List.set_cons_succ, i64_w, i32_w]
                      rfl
                    refine pure_ (i := 9) (N := some 35) (v := ?_) (a' := ?_) #[true, true, true, true, true, true, true, true, true, true, false, false, false, false, false, false, false] rfl rfl (any_of HT_.out (by kernel_rfl)) (fun _ _ _ h => h) (Or.inl ⟨by rfl, ?_⟩) ?_ ?_
                    rotate_left
                    · intro w'
                      go_simp
                      with_reducible rfl
                    rotate_left
                    · simp only [Act.put, List.setIfInBounds_toArray, List.set_cons_zero, List.set_cons_succ, i64_w, i32_w]
                      rfl
                    refine pure_ (i := 10) (N := some 36) (v := ?_) (a' := ?_) #[true, true, true, true, true, true, true, true, true, true, true, false, false, false, false, false, false] rfl rfl (any_of HT_.out (by kernel_rfl)) (fun _ _ _ h => h) (Or.inl ⟨by rfl, ?_⟩) ?_ ?_
                    rotate_left
                    · intro w'
                      go_simp
                      with_reducible rfl
                    rotate_left
                    · simp only [Act.put, List.setIfInBounds_toArray, List.set_cons_zero, List.set_cons_succ, i64_w, i32_w]
                      rfl
                    refine pure_ (i := 11) (N := some 37) (v := ?_) (a' := ?_) #[true, true, true, true, true, true, true, true, true, true, true, true, false, false, false, false, false] rfl rfl (any_of HT_.out (by kernel_rfl)) (fun _ _ _ h => h) (Or.inl ⟨by rfl, ?_⟩) ?_ ?_
                    rotate_left
                    · intro w'
                      go_simp
                      with_reducible rfl
                    rotate_left
                    · simp only [Act.put, List.setIfInBounds_toArray, List.set_cons_zero, List.set_cons_succ, i64_w, i32_w]
                      rfl
                    refine pure_ (i := 12) (N := some 38) (v := ?_) (a' := ?_) #[true, true, true, true, true, true, true, true, true, true, true, true, true, false, false, false, false] rfl rfl (any_of HT_.out (by kernel_rfl)) (fun _ _ _ h => h) (Or.inl ⟨by rfl, ?_⟩) ?_ ?_
                    rotate_left
                    · intro w'
                      go_simp
                      with_reducible rfl
                    rotate_left
                    · simp only [Act.put, List.setIfInBounds_toArray, List.set_cons_zero, List.set_cons_succ, i64_w, i32_w]
                      rfl
                    refine one_ (i := 13) (N := some 39) #[true, true, true, true, true, true, true, true, true, true, true, true, true, true, false, false, false] rfl rfl (one_of HT_.out (by kernel_rfl)) (by decide) (fun K hK => ?_)
                    refine goes_ Tryd.func37 (by kernel_rfl) rfl #[.bool (x12_1 == 0)] (by rfl) rfl rfl (by (try simp only [List.map_toArray, List.map_cons, List.map_nil]); first | done | rfl | (simp only [List.length_drop, List.length_take]; rfl)) ?_
                    with_reducible refine (quillpenref10_one.calls (x12_1 == 0) t128 _ A12.out).mono ?_
                    rintro e w' ⟨rfl, ⟨nd, rfl⟩⟩
                    refine ⟨_, rfl, ?_⟩
                    refine hK.out _ _ ⟨(blk_cell BK121.out 0).trans rfl, (blk_cell BK121.out 1).trans rfl, (blk_cell BK121.out 2).trans rfl⟩ (fun hHeld => ?_)
                    clear hK K
                    refine norm_ (a' := ?_) ?_ ?_
                    rotate_left
                    · show Act.put _ (some 39) _ = _
                      simp only [Act.put, List.setIfInBounds_toArray, List.set_cons_zero, List.set_cons_succ, i64_w, i32_w]
                      rfl
                    refine one_ (i := 14) (N := some 40) #[true, true, true, true, true, true, true, true, true, true, true, true, true, true, true, false, false] rfl rfl (one_of HT_.out (by kernel_rfl)) (by decide) (fun K hK => ?_)
                    refine goes_ Tryd.func47 (by kernel_rfl) rfl #[.agg #[.int .i64 a0_0, .int .i64 a0_1, .int .i64 a0_2], .string (rdOf ByteArray.empty l1 x12_1), .int .i64 t127, .int .i64 t128] (by rfl) rfl rfl (by (try simp only [List.map_toArray, List.map_cons, List.map_nil]); first | done | rfl | (simp only [List.length_drop, List.length_take]; rfl)) ?_
                    with_reducible refine (quillpenref09_Written.calls k1 a0_0 a0_1 a0_2 (rdOf ByteArray.empty l1 x12_1) t127 t128 t129 _ A13.out).mono ?_
                    rintro e w20 ⟨rfl, hb⟩
                    refine ⟨_, rfl, ?_⟩
                    have n0_ := Aside0.mk (Kd.R_below (by (with_reducible repeat (first | apply Kd.R_alloc | apply Kd.R_drewN | apply Kd.R_drew)); exact HO126.out) hb)
                    have n1_ := Aside0.mk (blk_below (g := gb121) (o := .cells #[.int .i64 a0_0, .int .i64 a0_1, .int .i64 a0_2] 51 (0, 0)) (by (with_reducible repeat (first | refine blk_drewN ?_ _ | refine blk_drew ?_ | refine blk_alloc ?_ _)); exact BK121.out) hb)
                    have n2_ := Aside0.mk (below_step (by repeat (first | (with_reducible first | exact HB.out | apply below_alloc | apply pw_below_drewN | apply below_drew1 | refine below_set ?_ GE121.out) | exact HB.out)) hb)
                    clear HO126
                    clear BK121
                    clear HB
                    have HO126 := n0_
                    have BK121 := n1_
                    have HB := n2_
                    clear n0_ n1_ n2_
                    (try clear hb)
                    (try clear hb2)
                    (try clear hk)
                    (try clear hi)
                    refine hK.out _ _ ⟨(blk_cell BK121.out 0).trans rfl, (blk_cell BK121.out 1).trans rfl, (blk_cell BK121.out 2).trans rfl⟩ (fun hHeld => ?_)
                    clear hK K
                    refine norm_ (a' := ?_) ?_ ?_
                    rotate_left
                    · show Act.put _ (some 40) _ = _
                      simp only [Act.put, List.setIfInBounds_toArray, List.set_cons_zero, List.set_cons_succ, i64_w, i32_w]
                      rfl
                    refine pure_ (i := 15) (N := some 41) (v := ?_) (a' := ?_) #[true, true, true, true, true, true, true, true, true, true, true, true, true, true, true, true, false] rfl rfl (any_of HT_.out (by kernel_rfl)) (fun _ _ _ h => h) (Or.inl ⟨by rfl, ?_⟩) ?_ ?_
                    rotate_left
                    · intro w'
                      go_simp
                      with_reducible rfl
                    rotate_left
                    · simp only [Act.put, List.setIfInBounds_toArray, List.set_cons_zero, List.set_cons_succ, i64_w, i32_w]
                      rfl
                    refine pure_ (i := 16) (N := some 7) (v := ?_) (a' := ?_) #[true, true, true, true, true, true, true, true, true, true, true, true, true, true, true, true, true] rfl rfl (any_of HT_.out (by kernel_rfl)) (fun _ _ _ h => h) (Or.inl ⟨by rfl, ?_⟩) ?_ ?_
                    rotate_left
                    · intro w'
                      go_simp
                      with_reducible rfl
                    rotate_left
                    · simp only [Act.put, List.setIfInBounds_toArray, List.set_cons_zero, List.set_cons_succ, i64_w, i32_w]
                      rfl
                    refine done_ (done_of HT_.out (by kernel_rfl)) ?_
                    try go_wp2
                    go_roundg k1
                    case measure => have := HK1.out; omega
                    case rel => exact ⟨((x7_1 ++ (strOfNums y124)) ++ t129), (wrap64 (x12_1 + 1)), (by first | rfl | (simp; done) | (simp [*]; done)), (by first | rfl | (simp; done) | (simp [*]; done)), H', ⟨by have := HK1.out; omega⟩, ⟨by (with_reducible repeat (first | refine blk_drewN ?_ _ | refine blk_drew ?_ | refine blk_alloc ?_ _)); exact BK121.out⟩, ⟨by repeat (first | (with_reducible first | exact HB.out | apply below_alloc | apply pw_below_drewN | apply below_drew1 | refine below_set ?_ GE121.out) | exact HB.out)⟩⟩
                  · rw [if_neg c14] at H
                    exact absurd H (by simp)
                · rw [if_neg c11] at H
                  have c11b0 : (a2 == 1) = false := beq_eq_false_iff_ne.mpr c11
                  have c11b1 : (a2 != 1) = true := bne_iff_ne.mpr c11
                  replace H := Option.bind_eq_some_iff.mp H
                  obtain ⟨t130, A210, H⟩ := H
                  replace H : ((quillpenref09_Written.f k1 a0_0 a0_1 a0_2 (rdOf ByteArray.empty l1 x12_1) t127 t130).bind fun t131 => (if (x7_1 ++ (strOfNums y124)).size + t131.size ≤ 9223372036854775807 then (quillpenref10_Line.l0 k1 l1 a2 ((x7_1 ++ (strOfNums y124)) ++ t131) l1 (l1.length : Int) (wrap64 (x12_1 + 1)) a0_0 a0_1 a0_2) else (none))) = some r := H
                  have A21 := Aside0.mk A210
                  clear A210
                  replace H := Option.bind_eq_some_iff.mp H
                  obtain ⟨t131, A220, H⟩ := H
                  replace H : (if (x7_1 ++ (strOfNums y124)).size + t131.size ≤ 9223372036854775807 then (quillpenref10_Line.l0 k1 l1 a2 ((x7_1 ++ (strOfNums y124)) ++ t131) l1 (l1.length : Int) (wrap64 (x12_1 + 1)) a0_0 a0_1 a0_2) else (none)) = some r := H
                  have A22 := Aside0.mk A220
                  clear A220
                  by_cases c23 : (x7_1 ++ (strOfNums y124)).size + t131.size ≤ 9223372036854775807
                  · rw [if_pos c23] at H
                    have c23b0 := eq_true c23
                    have c23b1 : decide ((x7_1 ++ (strOfNums y124)).size + t131.size ≤ 9223372036854775807) = true := decide_eq_true c23
                    try have c23b2 : (9223372036854775807 < (x7_1 ++ (strOfNums y124)).size + t131.size) = False := eq_false (Nat.not_lt.2 c23)
                    have c23b3 : (9223372036854775807 < x7_1.size + (strOfNums y124).size + t131.size) = False := by have := c23b2; rwa [ByteArray.size_append] at this
                    have H' := Aside0.mk H
                    clear H
                    have p123 : 0 ≤ (x12_1 : Int) := of_decide_eq_true (by first | (with_reducible assumption) | assumption)
                    have q123 : x12_1 < (l1.length : Int) := of_decide_eq_true (by first | (with_reducible assumption) | assumption)
                    obtain ⟨ad123, e123, hx123_0⟩ := Kd.at_string HR1.out x12_1 p123 q123
                    cases e123
                    replace hx123_0 := (HB.out.cell (World.block_lt_of_cell? w _ hx123_0)).trans hx123_0
                    replace p123 := eq_true p123
                    replace q123 := eq_true q123
                    have hcz24_0 : wr.cell? ⟨gb121, 0, none⟩ = some (.int .i64 a0_0) := (blk_cell BK121.out 0).trans rfl
                    have hcz24_1 : wr.cell? ⟨gb121, 1, none⟩ = some (.int .i64 a0_1) := (blk_cell BK121.out 1).trans rfl
                    have hcz24_2 : wr.cell? ⟨gb121, 2, none⟩ = some (.int .i64 a0_2) := (blk_cell BK121.out 2).trans rfl
                    have hfz24_0 := blk_frozen BK121.out 0
                    have hfz24_1 := blk_frozen BK121.out 1
                    have hfz24_2 := blk_frozen BK121.out 2
                    try go_wp2_with (first | ((with_reducible refine gate_dst (N := 23) rfl ?_); refine Kd.R_lit (Kd.int .u8) _ 5 ?hg (N := 23) ?hd (xs := ([(a0_0) % 256] : List Int)) (inner := [.int .u8 ((a0_0) % 256)]) (ok := fun _ => True) (okp := fun _ => True) ?hr ?hp (fun _ hk => hk) trivial (Below.refl _ _) (Nat.le_refl _) (by simp) ?_; (case hd => rfl); (case hg => rfl); (case hr => first | (go_simp; done) | (go_simp; rfl)); (case hp => exact (Reps.one (show Kd.M (Kd.int .u8) _ _ _ ((a0_0) % 256) [.int .u8 ((a0_0) % 256)] from rfl) (Reps.none _ _))); intro v125 w25 ho26 hb hg_ hnew_; clear hg_ hnew_; (first | rw [← Ny124.out] at ho26 | (simp only [Int.reduceToNat] at ho26; rw [← Ny124.out] at ho26)); have n0_ := Aside0.mk (Kd.R_lower ho26 (below_size (by repeat (first | (with_reducible first | exact HB.out | apply below_alloc | apply pw_below_drewN | apply below_drew1 | refine below_set ?_ GE121.out) | exact HB.out)))); have n1_ := Aside0.mk (blk_below (g := gb121) (o := .cells #[.int .i64 a0_0, .int .i64 a0_1, .int .i64 a0_2] 51 (0, 0)) (by (with_reducible repeat (first | refine blk_drewN ?_ _ | refine blk_drew ?_ | refine blk_alloc ?_ _)); exact BK121.out) hb); have n2_ := Aside0.mk (below_step (by repeat (first | (with_reducible first | exact HB.out | apply below_alloc | apply pw_below_drewN | apply below_drew1 | refine below_set ?_ GE121.out) | exact HB.out)) hb); clear BK121; clear HB; have HO126 := n0_; have BK121 := n1_; have HB := n2_; clear n0_ n1_ n2_; clear hb ho26; have hcv27 := own_string (P := Tryd.prog) Tryd.underlying37 Tryd.underlying5 Tryd.underlying9 (Kd.own_of_R HO126.out)))
                    have n0_ := Aside0.mk (Kd.R_drew HO126.out)
                    have n1_ := Aside0.mk (blk_drew BK121.out)
                    have n2_ := Aside0.mk (below_drew1 HB.out)
                    clear HO126
                    clear BK121
                    clear HB
                    have HO126 := n0_
                    have BK121 := n1_
                    have HB := n2_
                    clear n0_ n1_ n2_
                    refine start_ (n := 17) (S := fun w' => w'.cell? ⟨gb121, 0, none⟩ = some (.int .i64 a0_0) ∧ w'.cell? ⟨gb121, 1, none⟩ = some (.int .i64 a0_1) ∧ w'.cell? ⟨gb121, 2, none⟩ = some (.int .i64 a0_2)) (ds := []) #[false, false, false, false, false, false, false, false, false, false, false, false, false, false, false, false, false] (by kernel_rfl) rfl rfl ⟨(blk_cell BK121.out 0).trans rfl, (blk_cell BK121.out 1).trans rfl, (blk_cell BK121.out 2).trans rfl⟩ (fun hHeld => ?_); refine with_tabW quillpenref10_Line.tab7 quillpenref10_Line.bits7 (fun HT_ HW_ => ?_)
                    generalize w25.drew = w28 at HO126 BK121 HB hHeld ⊢
                    refine pure_ (i := 0) (N := some 26) (v := ?_) (a' := ?_) #[true, false, false, false, false, false, false, false, false, false, false, false, false, false, false, false, false] rfl rfl (any_of HT_.out (by kernel_rfl)) (fun _ _ _ h => h) (Or.inl ⟨by rfl, ?_⟩) ?_ ?_
                    rotate_left
                    · intro w'
                      go_simp
                      with_reducible rfl
                    rotate_left
                    · simp only [Act.put, List.setIfInBounds_toArray, List.set_cons_zero, List.set_cons_succ, i64_w, i32_w]
                      rfl
                    refine pure_ (i := 2) (N := some 28) (v := ?_) (a' := ?_) #[true, false, true, false, false, false, false, false, false, false, false, false, false, false, false, false, false] rfl rfl (any_of HT_.out (by kernel_rfl)) (fun _ _ _ h => h) (Or.inl ⟨by rfl, ?_⟩) ?_ ?_
                    rotate_left
                    · intro w'
                      go_simp
                      with_reducible rfl
                    rotate_left
                    · simp only [Act.put, List.setIfInBounds_toArray, List.set_cons_zero, List.set_cons_succ, i64_w, i32_w]
                      rfl
                    refine pure_ (i := 3) (N := some 29) (v := ?_) (a' := ?_) #[true, false, true, true, false, false, false, false, false, false, false, false, false, false, false, false, false] rfl rfl (any_of HT_.out (by kernel_rfl)) (fun _ _ _ h => h) (Or.inl ⟨by rfl, ?_⟩) ?_ ?_
                    rotate_left
                    · intro w'
                      go_simp
                      with_reducible rfl
                    rotate_left
                    · simp only [Act.put, List.setIfInBounds_toArray, List.set_cons_zero, List.set_cons_succ, i64_w, i32_w]
                      rfl
                    refine pure_ (i := 4) (N := some 30) (v := ?_) (a' := ?_) #[true, false, true, true, true, false, false, false, false, false, false, false, false, false, false, false, false] rfl rfl (any_of HT_.out (by kernel_rfl)) (fun _ _ _ h => h) (Or.inl ⟨by rfl, ?_⟩) ?_ ?_
                    rotate_left
                    · intro w'
                      go_simp
                      with_reducible rfl
                    rotate_left
                    · simp only [Act.put, List.setIfInBounds_toArray, List.set_cons_zero, List.set_cons_succ, i64_w, i32_w]
                      rfl
                    refine pure_ (i := 5) (N := some 31) (v := ?_) (a' := ?_) #[true, false, true, true, true, true, false, false, false, false, false, false, false, false, false, false, false] rfl rfl (any_of HT_.out (by kernel_rfl)) (fun _ _ _ h => h) (Or.inl ⟨by rfl, ?_⟩) ?_ ?_
                    rotate_left
                    · intro w'
                      go_simp
                      with_reducible rfl
                    rotate_left
                    · simp only [Act.put, List.setIfInBounds_toArray, List.set_cons_zero, List.set_cons_succ, i64_w, i32_w]
                      rfl
                    refine pure_ (i := 7) (N := some 33) (v := ?_) (a' := ?_) #[true, false, true, true, true, true, false, true, false, false, false, false, false, false, false, false, false] rfl rfl (any_of HT_.out (by kernel_rfl)) (fun _ _ _ h => h) (Or.inl ⟨by rfl, ?_⟩) ?_ ?_
                    rotate_left
                    · intro w'
                      go_simp
                      with_reducible rfl
                    rotate_left
                    · simp only [Act.put, List.setIfInBounds_toArray, List.set_cons_zero, List.set_cons_succ, i64_w, i32_w]
                      rfl
                    refine pure_ (i := 8) (N := some 34) (v := ?_) (a' := ?_) #[true, false, true, true, true, true, false, true, true, false, false, false, false, false, false, false, false] rfl rfl (any_of HT_.out (by kernel_rfl)) (fun _ _ _ h => h) (Or.inl ⟨by rfl, ?_⟩) ?_ ?_
                    rotate_left
                    · intro w'
                      go_simp
                      with_reducible rfl
                    rotate_left
                    · simp only [Act.put, List.setIfInBounds_toArray, List.set_cons_zero, List.set_cons_succ, i64_w, i32_w]
                      rfl
                    refine take_ (i := 1) (N := some 27) (v := ?_) (a' := ?_) #[true, true, true, true, true, true, false, true, true, false, false, false, false, false, false, false, false] rfl rfl (take_ofW HT_.out HW_.out (by kernel_rfl)) (fun _ _ _ h => h) (Or.inl ⟨by rfl, ?_⟩) hHeld ?_ ?_
                    rotate_left
                    · rintro w' ⟨s0, s1, s2⟩
                      go_simp
                      with_reducible rfl
                    rotate_left
                    · simp only [Act.put, List.setIfInBounds_toArray, List.set_cons_zero, List.set_cons_succ, i64_w, i32_w]
                      rfl
                    refine one_ (i := 6) (N := some 32) #[true, true, true, true, true, true, true, true, true, false, false, false, false, false, false, false, false] rfl rfl (one_of HT_.out (by kernel_rfl)) (by decide) (fun K hK => ?_)
                    refine goes_ Tryd.func37 (by kernel_rfl) rfl #[.bool ((l1.length : Int) == 1)] (by rfl) rfl rfl (by (try simp only [List.map_toArray, List.map_cons, List.map_nil]); first | done | rfl | (simp only [List.length_drop, List.length_take]; rfl)) ?_
                    with_reducible refine (quillpenref10_one.calls ((l1.length : Int) == 1) t127 _ A10.out).mono ?_
                    rintro e w' ⟨rfl, ⟨nd, rfl⟩⟩
                    refine ⟨_, rfl, ?_⟩
                    refine hK.out _ _ ⟨(blk_cell BK121.out 0).trans rfl, (blk_cell BK121.out 1).trans rfl, (blk_cell BK121.out 2).trans rfl⟩ (fun hHeld => ?_)
                    clear hK K
                    refine norm_ (a' := ?_) ?_ ?_
                    rotate_left
                    · show Act.put _ (some 32) _ = _
                      simp only [Act.put, List.setIfInBounds_toArray, List.set_cons_zero, List.set_cons_succ, i64_w, i32_w]
                      rfl
                    refine pure_ (i := 9) (N := some 35) (v := ?_) (a' := ?_) #[true, true, true, true, true, true, true, true, true, true, false, false, false, false, false, false, false] rfl rfl (any_of HT_.out (by kernel_rfl)) (fun _ _ _ h => h) (Or.inl ⟨by rfl, ?_⟩) ?_ ?_
                    rotate_left
                    · intro w'
                      go_simp
                      with_reducible rfl
                    rotate_left
                    · simp only [Act.put, List.setIfInBounds_toArray, List.set_cons_zero, List.set_cons_succ, i64_w, i32_w]
                      rfl
                    refine pure_ (i := 10) (N := some 36) (v := undef) (a' := ?_) #[true, true, true, true, true, true, true, true, true, true, true, false, false, false, false, false, false] rfl rfl (any_of HT_.out (by kernel_rfl)) (fun _ _ _ h => h) (Or.inr ⟨by rfl, rfl⟩) ?_ ?_
                    rotate_left
                    · simp only [Act.put, List.setIfInBounds_toArray, List.set_cons_zero, List.set_cons_succ, i64_w, i32_w]
                      rfl
                    refine pure_ (i := 11) (N := some 37) (v := undef) (a' := ?_) #[true, true, true, true, true, true, true, true, true, true, true, true, false, false, false, false, false] rfl rfl (any_of HT_.out (by kernel_rfl)) (fun _ _ _ h => h) (Or.inr ⟨by rfl, rfl⟩) ?_ ?_
                    rotate_left
                    · simp only [Act.put, List.setIfInBounds_toArray, List.set_cons_zero, List.set_cons_succ, i64_w, i32_w]
                      rfl
                    refine pure_ (i := 12) (N := some 38) (v := ?_) (a' := ?_) #[true, true, true, true, true, true, true, true, true, true, true, true, true, false, false, false, false] rfl rfl (any_of HT_.out (by kernel_rfl)) (fun _ _ _ h => h) (Or.inl ⟨by rfl, ?_⟩) ?_ ?_
                    rotate_left
                    · intro w'
                      go_simp
                      with_reducible rfl
                    rotate_left
                    · simp only [Act.put, List.setIfInBounds_toArray, List.set_cons_zero, List.set_cons_succ, i64_w, i32_w]
                      rfl
                    refine one_ (i := 13) (N := some 39) #[true, true, true, true, true, true, true, true, true, true, true, true, true, true, false, false, false] rfl rfl (one_of HT_.out (by kernel_rfl)) (by decide) (fun K hK => ?_)
                    refine goes_ Tryd.func37 (by kernel_rfl) rfl #[.bool false] (by rfl) rfl rfl (by (try simp only [List.map_toArray, List.map_cons, List.map_nil]); first | done | rfl | (simp only [List.length_drop, List.length_take]; rfl)) ?_
                    with_reducible refine (quillpenref10_one.calls false t130 _ A21.out).mono ?_
                    rintro e w' ⟨rfl, ⟨nd, rfl⟩⟩
                    refine ⟨_, rfl, ?_⟩
                    refine hK.out _ _ ⟨(blk_cell BK121.out 0).trans rfl, (blk_cell BK121.out 1).trans rfl, (blk_cell BK121.out 2).trans rfl⟩ (fun hHeld => ?_)
                    clear hK K
                    refine norm_ (a' := ?_) ?_ ?_
                    rotate_left
                    · show Act.put _ (some 39) _ = _
                      simp only [Act.put, List.setIfInBounds_toArray, List.set_cons_zero, List.set_cons_succ, i64_w, i32_w]
                      rfl
                    refine one_ (i := 14) (N := some 40) #[true, true, true, true, true, true, true, true, true, true, true, true, true, true, true, false, false] rfl rfl (one_of HT_.out (by kernel_rfl)) (by decide) (fun K hK => ?_)
                    refine goes_ Tryd.func47 (by kernel_rfl) rfl #[.agg #[.int .i64 a0_0, .int .i64 a0_1, .int .i64 a0_2], .string (rdOf ByteArray.empty l1 x12_1), .int .i64 t127, .int .i64 t130] (by rfl) rfl rfl (by (try simp only [List.map_toArray, List.map_cons, List.map_nil]); first | done | rfl | (simp only [List.length_drop, List.length_take]; rfl)) ?_
                    with_reducible refine (quillpenref09_Written.calls k1 a0_0 a0_1 a0_2 (rdOf ByteArray.empty l1 x12_1) t127 t130 t131 _ A22.out).mono ?_
                    rintro e w29 ⟨rfl, hb⟩
                    refine ⟨_, rfl, ?_⟩
                    have n0_ := Aside0.mk (Kd.R_below (by (with_reducible repeat (first | apply Kd.R_alloc | apply Kd.R_drewN | apply Kd.R_drew)); exact HO126.out) hb)
                    have n1_ := Aside0.mk (blk_below (g := gb121) (o := .cells #[.int .i64 a0_0, .int .i64 a0_1, .int .i64 a0_2] 51 (0, 0)) (by (with_reducible repeat (first | refine blk_drewN ?_ _ | refine blk_drew ?_ | refine blk_alloc ?_ _)); exact BK121.out) hb)
                    have n2_ := Aside0.mk (below_step (by repeat (first | (with_reducible first | exact HB.out | apply below_alloc | apply pw_below_drewN | apply below_drew1 | refine below_set ?_ GE121.out) | exact HB.out)) hb)
                    clear HO126
                    clear BK121
                    clear HB
                    have HO126 := n0_
                    have BK121 := n1_
                    have HB := n2_
                    clear n0_ n1_ n2_
                    (try clear hb)
                    (try clear hb2)
                    (try clear hk)
                    (try clear hi)
                    refine hK.out _ _ ⟨(blk_cell BK121.out 0).trans rfl, (blk_cell BK121.out 1).trans rfl, (blk_cell BK121.out 2).trans rfl⟩ (fun hHeld => ?_)
                    clear hK K
                    refine norm_ (a' := ?_) ?_ ?_
                    rotate_left
                    · show Act.put _ (some 40) _ = _
                      simp only [Act.put, List.setIfInBounds_toArray, List.set_cons_zero, List.set_cons_succ, i64_w, i32_w]
                      rfl
                    refine pure_ (i := 15) (N := some 41) (v := ?_) (a' := ?_) #[true, true, true, true, true, true, true, true, true, true, true, true, true, true, true, true, false] rfl rfl (any_of HT_.out (by kernel_rfl)) (fun _ _ _ h => h) (Or.inl ⟨by rfl, ?_⟩) ?_ ?_
                    rotate_left
                    · intro w'
                      go_simp
                      with_reducible rfl
                    rotate_left
                    · simp only [Act.put, List.setIfInBounds_toArray, List.set_cons_zero, List.set_cons_succ, i64_w, i32_w]
                      rfl
                    refine pure_ (i := 16) (N := some 7) (v := ?_) (a' := ?_) #[true, true, true, true, true, true, true, true, true, true, true, true, true, true, true, true, true] rfl rfl (any_of HT_.out (by kernel_rfl)) (fun _ _ _ h => h) (Or.inl ⟨by rfl, ?_⟩) ?_ ?_
                    rotate_left
                    · intro w'
                      go_simp
                      with_reducible rfl
                    rotate_left
                    · simp only [Act.put, List.setIfInBounds_toArray, List.set_cons_zero, List.set_cons_succ, i64_w, i32_w]
                      rfl
                    refine done_ (done_of HT_.out (by kernel_rfl)) ?_
                    try go_wp2
                    go_roundg k1
                    case measure => have := HK1.out; omega
                    case rel => exact ⟨((x7_1 ++ (strOfNums y124)) ++ t131), (wrap64 (x12_1 + 1)), (by first | rfl | (simp; done) | (simp [*]; done)), (by first | rfl | (simp; done) | (simp [*]; done)), H', ⟨by have := HK1.out; omega⟩, ⟨by (with_reducible repeat (first | refine blk_drewN ?_ _ | refine blk_drew ?_ | refine blk_alloc ?_ _)); exact BK121.out⟩, ⟨by repeat (first | (with_reducible first | exact HB.out | apply below_alloc | apply pw_below_drewN | apply below_drew1 | refine below_set ?_ GE121.out) | exact HB.out)⟩⟩
                  · rw [if_neg c23] at H
                    exact absurd H (by simp)
              · rw [if_neg c9] at H
                exact absurd H (by simp)
            · rw [if_neg c8] at H
              have c8b0 : decide (0 < x12_1) = false := decide_eq_false c8
              clear c8
              replace H := Option.bind_eq_some_iff.mp H
              obtain ⟨t132, A300, H⟩ := H
              replace H : (if a2 = 1 then ((quillpenref10_one.f (x12_1 == 0)).bind fun t133 => ((quillpenref09_Written.f k1 a0_0 a0_1 a0_2 (rdOf ByteArray.empty l1 x12_1) t132 t133).bind fun t134 => (if x7_1.size + t134.size ≤ 9223372036854775807 then (quillpenref10_Line.l0 k1 l1 a2 (x7_1 ++ t134) l1 (l1.length : Int) (wrap64 (x12_1 + 1)) a0_0 a0_1 a0_2) else (none)))) else ((quillpenref10_one.f false).bind fun t135 => ((quillpenref09_Written.f k1 a0_0 a0_1 a0_2 (rdOf ByteArray.empty l1 x12_1) t132 t135).bind fun t136 => (if x7_1.size + t136.size ≤ 9223372036854775807 then (quillpenref10_Line.l0 k1 l1 a2 (x7_1 ++ t136) l1 (l1.length : Int) (wrap64 (x12_1 + 1)) a0_0 a0_1 a0_2) else (none))))) = some r := H
              have A30 := Aside0.mk A300
              clear A300
              by_cases c31 : a2 = 1
              · rw [if_pos c31] at H
                have c31b0 : (a2 == 1) = true := beq_iff_eq.mpr c31
                have c31b1 : (a2 != 1) = false := bne_eq_false_iff_eq.mpr c31
                clear c31
                replace H := Option.bind_eq_some_iff.mp H
                obtain ⟨t133, A320, H⟩ := H
                replace H : ((quillpenref09_Written.f k1 a0_0 a0_1 a0_2 (rdOf ByteArray.empty l1 x12_1) t132 t133).bind fun t134 => (if x7_1.size + t134.size ≤ 9223372036854775807 then (quillpenref10_Line.l0 k1 l1 a2 (x7_1 ++ t134) l1 (l1.length : Int) (wrap64 (x12_1 + 1)) a0_0 a0_1 a0_2) else (none))) = some r := H
                have A32 := Aside0.mk A320
                clear A320
                replace H := Option.bind_eq_some_iff.mp H
                obtain ⟨t134, A330, H⟩ := H
                replace H : (if x7_1.size + t134.size ≤ 9223372036854775807 then (quillpenref10_Line.l0 k1 l1 a2 (x7_1 ++ t134) l1 (l1.length : Int) (wrap64 (x12_1 + 1)) a0_0 a0_1 a0_2) else (none)) = some r := H
                have A33 := Aside0.mk A330
                clear A330
                by_cases c34 : x7_1.size + t134.size ≤ 9223372036854775807
                · rw [if_pos c34] at H
                  have c34b0 := eq_true c34
                  have c34b1 : decide (x7_1.size + t134.size ≤ 9223372036854775807) = true := decide_eq_true c34
                  try have c34b2 : (9223372036854775807 < x7_1.size + t134.size) = False := eq_false (Nat.not_lt.2 c34)
                  have H' := Aside0.mk H
                  clear H
                  have p123 : 0 ≤ (x12_1 : Int) := of_decide_eq_true (by first | (with_reducible assumption) | assumption)
                  have q123 : x12_1 < (l1.length : Int) := of_decide_eq_true (by first | (with_reducible assumption) | assumption)
                  obtain ⟨ad123, e123, hx123_0⟩ := Kd.at_string HR1.out x12_1 p123 q123
                  cases e123
                  replace hx123_0 := (HB.out.cell (World.block_lt_of_cell? w _ hx123_0)).trans hx123_0
                  replace p123 := eq_true p123
                  replace q123 := eq_true q123
                  try go_wp2
                  have n0_ := Aside0.mk (blk_drew BK121.out)
                  have n1_ := Aside0.mk (below_drew1 HB.out)
                  clear BK121
                  clear HB
                  have BK121 := n0_
                  have HB := n1_
                  clear n0_ n1_
                  refine start_ (n := 17) (S := fun w' => w'.cell? ⟨gb121, 0, none⟩ = some (.int .i64 a0_0) ∧ w'.cell? ⟨gb121, 1, none⟩ = some (.int .i64 a0_1) ∧ w'.cell? ⟨gb121, 2, none⟩ = some (.int .i64 a0_2)) (ds := []) #[false, false, false, false, false, false, false, false, false, false, false, false, false, false, false, false, false] (by kernel_rfl) rfl rfl ⟨(blk_cell BK121.out 0).trans rfl, (blk_cell BK121.out 1).trans rfl, (blk_cell BK121.out 2).trans rfl⟩ (fun hHeld => ?_); refine with_tabW quillpenref10_Line.tab7 quillpenref10_Line.bits7 (fun HT_ HW_ => ?_)
                  generalize wr.drew = w35 at BK121 HB hHeld ⊢
                  refine pure_ (i := 0) (N := some 26) (v := ?_) (a' := ?_) #[true, false, false, false, false, false, false, false, false, false, false, false, false, false, false, false, false] rfl rfl (any_of HT_.out (by kernel_rfl)) (fun _ _ _ h => h) (Or.inl ⟨by rfl, ?_⟩) ?_ ?_
                  rotate_left
                  · intro w'
                    go_simp
                    with_reducible rfl
                  rotate_left
                  · simp only [Act.put, List.setIfInBounds_toArray, List.set_cons_zero, List.set_cons_succ, i64_w, i32_w]
                    rfl
                  refine pure_ (i := 2) (N := some 28) (v := ?_) (a' := ?_) #[true, false, true, false, false, false, false, false, false, false, false, false, false, false, false, false, false] rfl rfl (any_of HT_.out (by kernel_rfl)) (fun _ _ _ h => h) (Or.inl ⟨by rfl, ?_⟩) ?_ ?_
                  rotate_left
                  · intro w'
                    go_simp
                    with_reducible rfl
                  rotate_left
                  · simp only [Act.put, List.setIfInBounds_toArray, List.set_cons_zero, List.set_cons_succ, i64_w, i32_w]
                    rfl
                  refine pure_ (i := 3) (N := some 29) (v := ?_) (a' := ?_) #[true, false, true, true, false, false, false, false, false, false, false, false, false, false, false, false, false] rfl rfl (any_of HT_.out (by kernel_rfl)) (fun _ _ _ h => h) (Or.inl ⟨by rfl, ?_⟩) ?_ ?_
                  rotate_left
                  · intro w'
                    go_simp
                    with_reducible rfl
                  rotate_left
                  · simp only [Act.put, List.setIfInBounds_toArray, List.set_cons_zero, List.set_cons_succ, i64_w, i32_w]
                    rfl
                  refine pure_ (i := 4) (N := some 30) (v := ?_) (a' := ?_) #[true, false, true, true, true, false, false, false, false, false, false, false, false, false, false, false, false] rfl rfl (any_of HT_.out (by kernel_rfl)) (fun _ _ _ h => h) (Or.inl ⟨by rfl, ?_⟩) ?_ ?_
                  rotate_left
                  · intro w'
                    go_simp
                    with_reducible rfl
                  rotate_left
                  · simp only [Act.put, List.setIfInBounds_toArray, List.set_cons_zero, List.set_cons_succ, i64_w, i32_w]
                    rfl
                  refine pure_ (i := 5) (N := some 31) (v := ?_) (a' := ?_) #[true, false, true, true, true, true, false, false, false, false, false, false, false, false, false, false, false] rfl rfl (any_of HT_.out (by kernel_rfl)) (fun _ _ _ h => h) (Or.inl ⟨by rfl, ?_⟩) ?_ ?_
                  rotate_left
                  · intro w'
                    go_simp
                    with_reducible rfl
                  rotate_left
                  · simp only [Act.put, List.setIfInBounds_toArray, List.set_cons_zero, List.set_cons_succ, i64_w, i32_w]
                    rfl
                  refine pure_ (i := 7) (N := some 33) (v := ?_) (a' := ?_) #[true, false, true, true, true, true, false, true, false, false, false, false, false, false, false, false, false] rfl rfl (any_of HT_.out (by kernel_rfl)) (fun _ _ _ h => h) (Or.inl ⟨by rfl, ?_⟩) ?_ ?_
                  rotate_left
                  · intro w'
                    go_simp
                    with_reducible rfl
                  rotate_left
                  · simp only [Act.put, List.setIfInBounds_toArray, List.set_cons_zero, List.set_cons_succ, i64_w, i32_w]
                    rfl
                  refine pure_ (i := 8) (N := some 34) (v := ?_) (a' := ?_) #[true, false, true, true, true, true, false, true, true, false, false, false, false, false, false, false, false] rfl rfl (any_of HT_.out (by kernel_rfl)) (fun _ _ _ h => h) (Or.inl ⟨by rfl, ?_⟩) ?_ ?_
                  rotate_left
                  · intro w'
                    go_simp
                    with_reducible rfl
                  rotate_left
                  · simp only [Act.put, List.setIfInBounds_toArray, List.set_cons_zero, List.set_cons_succ, i64_w, i32_w]
                    rfl
                  refine take_ (i := 1) (N := some 27) (v := ?_) (a' := ?_) #[true, true, true, true, true, true, false, true, true, false, false, false, false, false, false, false, false] rfl rfl (take_ofW HT_.out HW_.out (by kernel_rfl)) (fun _ _ _ h => h) (Or.inl ⟨by rfl, ?_⟩) hHeld ?_ ?_
                  rotate_left
                  · rintro w' ⟨s0, s1, s2⟩
                    go_simp
                    with_reducible rfl
                  rotate_left
                  · simp only [Act.put, List.setIfInBounds_toArray, List.set_cons_zero, List.set_cons_succ, i64_w, i32_w]
                    rfl
                  refine one_ (i := 6) (N := some 32) #[true, true, true, true, true, true, true, true, true, false, false, false, false, false, false, false, false] rfl rfl (one_of HT_.out (by kernel_rfl)) (by decide) (fun K hK => ?_)
                  refine goes_ Tryd.func37 (by kernel_rfl) rfl #[.bool ((l1.length : Int) == 1)] (by rfl) rfl rfl (by (try simp only [List.map_toArray, List.map_cons, List.map_nil]); first | done | rfl | (simp only [List.length_drop, List.length_take]; rfl)) ?_
                  with_reducible refine (quillpenref10_one.calls ((l1.length : Int) == 1) t132 _ A30.out).mono ?_
                  rintro e w' ⟨rfl, ⟨nd, rfl⟩⟩
                  refine ⟨_, rfl, ?_⟩
                  refine hK.out _ _ ⟨(blk_cell BK121.out 0).trans rfl, (blk_cell BK121.out 1).trans rfl, (blk_cell BK121.out 2).trans rfl⟩ (fun hHeld => ?_)
                  clear hK K
                  refine norm_ (a' := ?_) ?_ ?_
                  rotate_left
                  · show Act.put _ (some 32) _ = _
                    simp only [Act.put, List.setIfInBounds_toArray, List.set_cons_zero, List.set_cons_succ, i64_w, i32_w]
                    rfl
                  refine pure_ (i := 9) (N := some 35) (v := ?_) (a' := ?_) #[true, true, true, true, true, true, true, true, true, true, false, false, false, false, false, false, false] rfl rfl (any_of HT_.out (by kernel_rfl)) (fun _ _ _ h => h) (Or.inl ⟨by rfl, ?_⟩) ?_ ?_
                  rotate_left
                  · intro w'
                    go_simp
                    with_reducible rfl
                  rotate_left
                  · simp only [Act.put, List.setIfInBounds_toArray, List.set_cons_zero, List.set_cons_succ, i64_w, i32_w]
                    rfl
                  refine pure_ (i := 10) (N := some 36) (v := ?_) (a' := ?_) #[true, true, true, true, true, true, true, true, true, true, true, false, false, false, false, false, false] rfl rfl (any_of HT_.out (by kernel_rfl)) (fun _ _ _ h => h) (Or.inl ⟨by rfl, ?_⟩) ?_ ?_
                  rotate_left
                  · intro w'
                    go_simp
                    with_reducible rfl
                  rotate_left
                  · simp only [Act.put, List.setIfInBounds_toArray, List.set_cons_zero, List.set_cons_succ, i64_w, i32_w]
                    rfl
                  refine pure_ (i := 11) (N := some 37) (v := ?_) (a' := ?_) #[true, true, true, true, true, true, true, true, true, true, true, true, false, false, false, false, false] rfl rfl (any_of HT_.out (by kernel_rfl)) (fun _ _ _ h => h) (Or.inl ⟨by rfl, ?_⟩) ?_ ?_
                  rotate_left
                  · intro w'
                    go_simp
                    with_reducible rfl
                  rotate_left
                  · simp only [Act.put, List.setIfInBounds_toArray, List.set_cons_zero, List.set_cons_succ, i64_w, i32_w]
                    rfl
                  refine pure_ (i := 12) (N := some 38) (v := ?_) (a' := ?_) #[true, true, true, true, true, true, true, true, true, true, true, true, true, false, false, false, false] rfl rfl (any_of HT_.out (by kernel_rfl)) (fun _ _ _ h => h) (Or.inl ⟨by rfl, ?_⟩) ?_ ?_
                  rotate_left
                  · intro w'
                    go_simp
                    with_reducible rfl
                  rotate_left
                  · simp only [Act.put, List.setIfInBounds_toArray, List.set_cons_zero, List.set_cons_succ, i64_w, i32_w]
                    rfl
                  refine one_ (i := 13) (N := some 39) #[true, true, true, true, true, true, true, true, true, true, true, true, true, true, false, false, false] rfl rfl (one_of HT_.out (by kernel_rfl)) (by decide) (fun K hK => ?_)
                  refine goes_ Tryd.func37 (by kernel_rfl) rfl #[.bool (x12_1 == 0)] (by rfl) rfl rfl (by (try simp only [List.map_toArray, List.map_cons, List.map_nil]); first | done | rfl | (simp only [List.length_drop, List.length_take]; rfl)) ?_
                  with_reducible refine (quillpenref10_one.calls (x12_1 == 0) t133 _ A32.out).mono ?_
                  rintro e w' ⟨rfl, ⟨nd, rfl⟩⟩
                  refine ⟨_, rfl, ?_⟩
                  refine hK.out _ _ ⟨(blk_cell BK121.out 0).trans rfl, (blk_cell BK121.out 1).trans rfl, (blk_cell BK121.out 2).trans rfl⟩ (fun hHeld => ?_)
                  clear hK K
                  refine norm_ (a' := ?_) ?_ ?_
                  rotate_left
                  · show Act.put _ (some 39) _ = _
                    simp only [Act.put, List.setIfInBounds_toArray, List.set_cons_zero, List.set_cons_succ, i64_w, i32_w]
                    rfl
                  refine one_ (i := 14) (N := some 40) #[true, true, true, true, true, true, true, true, true, true, true, true, true, true, true, false, false] rfl rfl (one_of HT_.out (by kernel_rfl)) (by decide) (fun K hK => ?_)
                  refine goes_ Tryd.func47 (by kernel_rfl) rfl #[.agg #[.int .i64 a0_0, .int .i64 a0_1, .int .i64 a0_2], .string (rdOf ByteArray.empty l1 x12_1), .int .i64 t132, .int .i64 t133] (by rfl) rfl rfl (by (try simp only [List.map_toArray, List.map_cons, List.map_nil]); first | done | rfl | (simp only [List.length_drop, List.length_take]; rfl)) ?_
                  with_reducible refine (quillpenref09_Written.calls k1 a0_0 a0_1 a0_2 (rdOf ByteArray.empty l1 x12_1) t132 t133 t134 _ A33.out).mono ?_
                  rintro e w36 ⟨rfl, hb⟩
                  refine ⟨_, rfl, ?_⟩
                  have n0_ := Aside0.mk (blk_below (g := gb121) (o := .cells #[.int .i64 a0_0, .int .i64 a0_1, .int .i64 a0_2] 51 (0, 0)) (by (with_reducible repeat (first | refine blk_drewN ?_ _ | refine blk_drew ?_ | refine blk_alloc ?_ _)); exact BK121.out) hb)
                  have n1_ := Aside0.mk (below_step (by repeat (first | (with_reducible first | exact HB.out | apply below_alloc | apply pw_below_drewN | apply below_drew1 | refine below_set ?_ GE121.out) | exact HB.out)) hb)
                  clear BK121
                  clear HB
                  have BK121 := n0_
                  have HB := n1_
                  clear n0_ n1_
                  (try clear hb)
                  (try clear hb2)
                  (try clear hk)
                  (try clear hi)
                  refine hK.out _ _ ⟨(blk_cell BK121.out 0).trans rfl, (blk_cell BK121.out 1).trans rfl, (blk_cell BK121.out 2).trans rfl⟩ (fun hHeld => ?_)
                  clear hK K
                  refine norm_ (a' := ?_) ?_ ?_
                  rotate_left
                  · show Act.put _ (some 40) _ = _
                    simp only [Act.put, List.setIfInBounds_toArray, List.set_cons_zero, List.set_cons_succ, i64_w, i32_w]
                    rfl
                  refine pure_ (i := 15) (N := some 41) (v := ?_) (a' := ?_) #[true, true, true, true, true, true, true, true, true, true, true, true, true, true, true, true, false] rfl rfl (any_of HT_.out (by kernel_rfl)) (fun _ _ _ h => h) (Or.inl ⟨by rfl, ?_⟩) ?_ ?_
                  rotate_left
                  · intro w'
                    go_simp
                    with_reducible rfl
                  rotate_left
                  · simp only [Act.put, List.setIfInBounds_toArray, List.set_cons_zero, List.set_cons_succ, i64_w, i32_w]
                    rfl
                  refine pure_ (i := 16) (N := some 7) (v := ?_) (a' := ?_) #[true, true, true, true, true, true, true, true, true, true, true, true, true, true, true, true, true] rfl rfl (any_of HT_.out (by kernel_rfl)) (fun _ _ _ h => h) (Or.inl ⟨by rfl, ?_⟩) ?_ ?_
                  rotate_left
                  · intro w'
                    go_simp
                    with_reducible rfl
                  rotate_left
                  · simp only [Act.put, List.setIfInBounds_toArray, List.set_cons_zero, List.set_cons_succ, i64_w, i32_w]
                    rfl
                  refine done_ (done_of HT_.out (by kernel_rfl)) ?_
                  try go_wp2
                  go_roundg k1
                  case measure => have := HK1.out; omega
                  case rel => exact ⟨(x7_1 ++ t134), (wrap64 (x12_1 + 1)), (by first | rfl | (simp; done) | (simp [*]; done)), (by first | rfl | (simp; done) | (simp [*]; done)), H', ⟨by have := HK1.out; omega⟩, ⟨by (with_reducible repeat (first | refine blk_drewN ?_ _ | refine blk_drew ?_ | refine blk_alloc ?_ _)); exact BK121.out⟩, ⟨by repeat (first | (with_reducible first | exact HB.out | apply below_alloc | apply pw_below_drewN | apply below_drew1 | refine below_set ?_ GE121.out) | exact HB.out)⟩⟩
                · rw [if_neg c34] at H
                  exact absurd H (by simp)
              · rw [if_neg c31] at H
                have c31b0 : (a2 == 1) = false := beq_eq_false_iff_ne.mpr c31
                have c31b1 : (a2 != 1) = true := bne_iff_ne.mpr c31
                replace H := Option.bind_eq_some_iff.mp H
                obtain ⟨t135, A370, H⟩ := H
                replace H : ((quillpenref09_Written.f k1 a0_0 a0_1 a0_2 (rdOf ByteArray.empty l1 x12_1) t132 t135).bind fun t136 => (if x7_1.size + t136.size ≤ 9223372036854775807 then (quillpenref10_Line.l0 k1 l1 a2 (x7_1 ++ t136) l1 (l1.length : Int) (wrap64 (x12_1 + 1)) a0_0 a0_1 a0_2) else (none))) = some r := H
                have A37 := Aside0.mk A370
                clear A370
                replace H := Option.bind_eq_some_iff.mp H
                obtain ⟨t136, A380, H⟩ := H
                replace H : (if x7_1.size + t136.size ≤ 9223372036854775807 then (quillpenref10_Line.l0 k1 l1 a2 (x7_1 ++ t136) l1 (l1.length : Int) (wrap64 (x12_1 + 1)) a0_0 a0_1 a0_2) else (none)) = some r := H
                have A38 := Aside0.mk A380
                clear A380
                by_cases c39 : x7_1.size + t136.size ≤ 9223372036854775807
                · rw [if_pos c39] at H
                  have c39b0 := eq_true c39
                  have c39b1 : decide (x7_1.size + t136.size ≤ 9223372036854775807) = true := decide_eq_true c39
                  try have c39b2 : (9223372036854775807 < x7_1.size + t136.size) = False := eq_false (Nat.not_lt.2 c39)
                  have H' := Aside0.mk H
                  clear H
                  have p123 : 0 ≤ (x12_1 : Int) := of_decide_eq_true (by first | (with_reducible assumption) | assumption)
                  have q123 : x12_1 < (l1.length : Int) := of_decide_eq_true (by first | (with_reducible assumption) | assumption)
                  obtain ⟨ad123, e123, hx123_0⟩ := Kd.at_string HR1.out x12_1 p123 q123
                  cases e123
                  replace hx123_0 := (HB.out.cell (World.block_lt_of_cell? w _ hx123_0)).trans hx123_0
                  replace p123 := eq_true p123
                  replace q123 := eq_true q123
                  try go_wp2
                  have n0_ := Aside0.mk (blk_drew BK121.out)
                  have n1_ := Aside0.mk (below_drew1 HB.out)
                  clear BK121
                  clear HB
                  have BK121 := n0_
                  have HB := n1_
                  clear n0_ n1_
                  refine start_ (n := 17) (S := fun w' => w'.cell? ⟨gb121, 0, none⟩ = some (.int .i64 a0_0) ∧ w'.cell? ⟨gb121, 1, none⟩ = some (.int .i64 a0_1) ∧ w'.cell? ⟨gb121, 2, none⟩ = some (.int .i64 a0_2)) (ds := []) #[false, false, false, false, false, false, false, false, false, false, false, false, false, false, false, false, false] (by kernel_rfl) rfl rfl ⟨(blk_cell BK121.out 0).trans rfl, (blk_cell BK121.out 1).trans rfl, (blk_cell BK121.out 2).trans rfl⟩ (fun hHeld => ?_); refine with_tabW quillpenref10_Line.tab7 quillpenref10_Line.bits7 (fun HT_ HW_ => ?_)
                  generalize wr.drew = w40 at BK121 HB hHeld ⊢
                  refine pure_ (i := 0) (N := some 26) (v := ?_) (a' := ?_) #[true, false, false, false, false, false, false, false, false, false, false, false, false, false, false, false, false] rfl rfl (any_of HT_.out (by kernel_rfl)) (fun _ _ _ h => h) (Or.inl ⟨by rfl, ?_⟩) ?_ ?_
                  rotate_left
                  · intro w'
                    go_simp
                    with_reducible rfl
                  rotate_left
                  · simp only [Act.put, List.setIfInBounds_toArray, List.set_cons_zero, List.set_cons_succ, i64_w, i32_w]
                    rfl
                  refine pure_ (i := 2) (N := some 28) (v := ?_) (a' := ?_) #[true, false, true, false, false, false, false, false, false, false, false, false, false, false, false, false, false] rfl rfl (any_of HT_.out (by kernel_rfl)) (fun _ _ _ h => h) (Or.inl ⟨by rfl, ?_⟩) ?_ ?_
                  rotate_left
                  · intro w'
                    go_simp
                    with_reducible rfl
                  rotate_left
                  · simp only [Act.put, List.setIfInBounds_toArray, List.set_cons_zero, List.set_cons_succ, i64_w, i32_w]
                    rfl
                  refine pure_ (i := 3) (N := some 29) (v := ?_) (a' := ?_) #[true, false, true, true, false, false, false, false, false, false, false, false, false, false, false, false, false] rfl rfl (any_of HT_.out (by kernel_rfl)) (fun _ _ _ h => h) (Or.inl ⟨by rfl, ?_⟩) ?_ ?_
                  rotate_left
                  · intro w'
                    go_simp
                    with_reducible rfl
                  rotate_left
                  · simp only [Act.put, List.setIfInBounds_toArray, List.set_cons_zero, List.set_cons_succ, i64_w, i32_w]
                    rfl
                  refine pure_ (i := 4) (N := some 30) (v := ?_) (a' := ?_) #[true, false, true, true, true, false, false, false, false, false, false, false, false, false, false, false, false] rfl rfl (any_of HT_.out (by kernel_rfl)) (fun _ _ _ h => h) (Or.inl ⟨by rfl, ?_⟩) ?_ ?_
                  rotate_left
                  · intro w'
                    go_simp
                    with_reducible rfl
                  rotate_left
                  · simp only [Act.put, List.setIfInBounds_toArray, List.set_cons_zero, List.set_cons_succ, i64_w, i32_w]
                    rfl
                  refine pure_ (i := 5) (N := some 31) (v := ?_) (a' := ?_) #[true, false, true, true, true, true, false, false, false, false, false, false, false, false, false, false, false] rfl rfl (any_of HT_.out (by kernel_rfl)) (fun _ _ _ h => h) (Or.inl ⟨by rfl, ?_⟩) ?_ ?_
                  rotate_left
                  · intro w'
                    go_simp
                    with_reducible rfl
                  rotate_left
                  · simp only [Act.put, List.setIfInBounds_toArray, List.set_cons_zero, List.set_cons_succ, i64_w, i32_w]
                    rfl
                  refine pure_ (i := 7) (N := some 33) (v := ?_) (a' := ?_) #[true, false, true, true, true, true, false, true, false, false, false, false, false, false, false, false, false] rfl rfl (any_of HT_.out (by kernel_rfl)) (fun _ _ _ h => h) (Or.inl ⟨by rfl, ?_⟩) ?_ ?_
                  rotate_left
                  · intro w'
                    go_simp
                    with_reducible rfl
                  rotate_left
                  · simp only [Act.put, List.setIfInBounds_toArray, List.set_cons_zero, List.set_cons_succ, i64_w, i32_w]
                    rfl
                  refine pure_ (i := 8) (N := some 34) (v := ?_) (a' := ?_) #[true, false, true, true, true, true, false, true, true, false, false, false, false, false, false, false, false] rfl rfl (any_of HT_.out (by kernel_rfl)) (fun _ _ _ h => h) (Or.inl ⟨by rfl, ?_⟩) ?_ ?_
                  rotate_left
                  · intro w'
                    go_simp
                    with_reducible rfl
                  rotate_left
                  · simp only [Act.put, List.setIfInBounds_toArray, List.set_cons_zero, List.set_cons_succ, i64_w, i32_w]
                    rfl
                  refine take_ (i := 1) (N := some 27) (v := ?_) (a' := ?_) #[true, true, true, true, true, true, false, true, true, false, false, false, false, false, false, false, false] rfl rfl (take_ofW HT_.out HW_.out (by kernel_rfl)) (fun _ _ _ h => h) (Or.inl ⟨by rfl, ?_⟩) hHeld ?_ ?_
                  rotate_left
                  · rintro w' ⟨s0, s1, s2⟩
                    go_simp
                    with_reducible rfl
                  rotate_left
                  · simp only [Act.put, List.setIfInBounds_toArray, List.set_cons_zero, List.set_cons_succ, i64_w, i32_w]
                    rfl
                  refine one_ (i := 6) (N := some 32) #[true, true, true, true, true, true, true, true, true, false, false, false, false, false, false, false, false] rfl rfl (one_of HT_.out (by kernel_rfl)) (by decide) (fun K hK => ?_)
                  refine goes_ Tryd.func37 (by kernel_rfl) rfl #[.bool ((l1.length : Int) == 1)] (by rfl) rfl rfl (by (try simp only [List.map_toArray, List.map_cons, List.map_nil]); first | done | rfl | (simp only [List.length_drop, List.length_take]; rfl)) ?_
                  with_reducible refine (quillpenref10_one.calls ((l1.length : Int) == 1) t132 _ A30.out).mono ?_
                  rintro e w' ⟨rfl, ⟨nd, rfl⟩⟩
                  refine ⟨_, rfl, ?_⟩
                  refine hK.out _ _ ⟨(blk_cell BK121.out 0).trans rfl, (blk_cell BK121.out 1).trans rfl, (blk_cell BK121.out 2).trans rfl⟩ (fun hHeld => ?_)
                  clear hK K
                  refine norm_ (a' := ?_) ?_ ?_
                  rotate_left
                  · show Act.put _ (some 32) _ = _
                    simp only [Act.put, List.setIfInBounds_toArray, List.set_cons_zero, List.set_cons_succ, i64_w, i32_w]
                    rfl
                  refine pure_ (i := 9) (N := some 35) (v := ?_) (a' := ?_) #[true, true, true, true, true, true, true, true, true, true, false, false, false, false, false, false, false] rfl rfl (any_of HT_.out (by kernel_rfl)) (fun _ _ _ h => h) (Or.inl ⟨by rfl, ?_⟩) ?_ ?_
                  rotate_left
                  · intro w'
                    go_simp
                    with_reducible rfl
                  rotate_left
                  · simp only [Act.put, List.setIfInBounds_toArray, List.set_cons_zero, List.set_cons_succ, i64_w, i32_w]
                    rfl
                  refine pure_ (i := 10) (N := some 36) (v := undef) (a' := ?_) #[true, true, true, true, true, true, true, true, true, true, true, false, false, false, false, false, false] rfl rfl (any_of HT_.out (by kernel_rfl)) (fun _ _ _ h => h) (Or.inr ⟨by rfl, rfl⟩) ?_ ?_
                  rotate_left
                  · simp only [Act.put, List.setIfInBounds_toArray, List.set_cons_zero, List.set_cons_succ, i64_w, i32_w]
                    rfl
                  refine pure_ (i := 11) (N := some 37) (v := undef) (a' := ?_) #[true, true, true, true, true, true, true, true, true, true, true, true, false, false, false, false, false] rfl rfl (any_of HT_.out (by kernel_rfl)) (fun _ _ _ h => h) (Or.inr ⟨by rfl, rfl⟩) ?_ ?_
                  rotate_left
                  · simp only [Act.put, List.setIfInBounds_toArray, List.set_cons_zero, List.set_cons_succ, i64_w, i32_w]
                    rfl
                  refine pure_ (i := 12) (N := some 38) (v := ?_) (a' := ?_) #[true, true, true, true, true, true, true, true, true, true, true, true, true, false, false, false, false] rfl rfl (any_of HT_.out (by kernel_rfl)) (fun _ _ _ h => h) (Or.inl ⟨by rfl, ?_⟩) ?_ ?_
                  rotate_left
                  · intro w'
                    go_simp
                    with_reducible rfl
                  rotate_left
                  · simp only [Act.put, List.setIfInBounds_toArray, List.set_cons_zero, List.set_cons_succ, i64_w, i32_w]
                    rfl
                  refine one_ (i := 13) (N := some 39) #[true, true, true, true, true, true, true, true, true, true, true, true, true, true, false, false, false] rfl rfl (one_of HT_.out (by kernel_rfl)) (by decide) (fun K hK => ?_)
                  refine goes_ Tryd.func37 (by kernel_rfl) rfl #[.bool false] (by rfl) rfl rfl (by (try simp only [List.map_toArray, List.map_cons, List.map_nil]); first | done | rfl | (simp only [List.length_drop, List.length_take]; rfl)) ?_
                  with_reducible refine (quillpenref10_one.calls false t135 _ A37.out).mono ?_
                  rintro e w' ⟨rfl, ⟨nd, rfl⟩⟩
                  refine ⟨_, rfl, ?_⟩
                  refine hK.out _ _ ⟨(blk_cell BK121.out 0).trans rfl, (blk_cell BK121.out 1).trans rfl, (blk_cell BK121.out 2).trans rfl⟩ (fun hHeld => ?_)
                  clear hK K
                  refine norm_ (a' := ?_) ?_ ?_
                  rotate_left
                  · show Act.put _ (some 39) _ = _
                    simp only [Act.put, List.setIfInBounds_toArray, List.set_cons_zero, List.set_cons_succ, i64_w, i32_w]
                    rfl
                  refine one_ (i := 14) (N := some 40) #[true, true, true, true, true, true, true, true, true, true, true, true, true, true, true, false, false] rfl rfl (one_of HT_.out (by kernel_rfl)) (by decide) (fun K hK => ?_)
                  refine goes_ Tryd.func47 (by kernel_rfl) rfl #[.agg #[.int .i64 a0_0, .int .i64 a0_1, .int .i64 a0_2], .string (rdOf ByteArray.empty l1 x12_1), .int .i64 t132, .int .i64 t135] (by rfl) rfl rfl (by (try simp only [List.map_toArray, List.map_cons, List.map_nil]); first | done | rfl | (simp only [List.length_drop, List.length_take]; rfl)) ?_
                  with_reducible refine (quillpenref09_Written.calls k1 a0_0 a0_1 a0_2 (rdOf ByteArray.empty l1 x12_1) t132 t135 t136 _ A38.out).mono ?_
                  rintro e w41 ⟨rfl, hb⟩
                  refine ⟨_, rfl, ?_⟩
                  have n0_ := Aside0.mk (blk_below (g := gb121) (o := .cells #[.int .i64 a0_0, .int .i64 a0_1, .int .i64 a0_2] 51 (0, 0)) (by (with_reducible repeat (first | refine blk_drewN ?_ _ | refine blk_drew ?_ | refine blk_alloc ?_ _)); exact BK121.out) hb)
                  have n1_ := Aside0.mk (below_step (by repeat (first | (with_reducible first | exact HB.out | apply below_alloc | apply pw_below_drewN | apply below_drew1 | refine below_set ?_ GE121.out) | exact HB.out)) hb)
                  clear BK121
                  clear HB
                  have BK121 := n0_
                  have HB := n1_
                  clear n0_ n1_
                  (try clear hb)
                  (try clear hb2)
                  (try clear hk)
                  (try clear hi)
                  refine hK.out _ _ ⟨(blk_cell BK121.out 0).trans rfl, (blk_cell BK121.out 1).trans rfl, (blk_cell BK121.out 2).trans rfl⟩ (fun hHeld => ?_)
                  clear hK K
                  refine norm_ (a' := ?_) ?_ ?_
                  rotate_left
                  · show Act.put _ (some 40) _ = _
                    simp only [Act.put, List.setIfInBounds_toArray, List.set_cons_zero, List.set_cons_succ, i64_w, i32_w]
                    rfl
                  refine pure_ (i := 15) (N := some 41) (v := ?_) (a' := ?_) #[true, true, true, true, true, true, true, true, true, true, true, true, true, true, true, true, false] rfl rfl (any_of HT_.out (by kernel_rfl)) (fun _ _ _ h => h) (Or.inl ⟨by rfl, ?_⟩) ?_ ?_
                  rotate_left
                  · intro w'
                    go_simp
                    with_reducible rfl
                  rotate_left
                  · simp only [Act.put, List.setIfInBounds_toArray, List.set_cons_zero, List.set_cons_succ, i64_w, i32_w]
                    rfl
                  refine pure_ (i := 16) (N := some 7) (v := ?_) (a' := ?_) #[true, true, true, true, true, true, true, true, true, true, true, true, true, true, true, true, true] rfl rfl (any_of HT_.out (by kernel_rfl)) (fun _ _ _ h => h) (Or.inl ⟨by rfl, ?_⟩) ?_ ?_
                  rotate_left
                  · intro w'
                    go_simp
                    with_reducible rfl
                  rotate_left
                  · simp only [Act.put, List.setIfInBounds_toArray, List.set_cons_zero, List.set_cons_succ, i64_w, i32_w]
                    rfl
                  refine done_ (done_of HT_.out (by kernel_rfl)) ?_
                  try go_wp2
                  go_roundg k1
                  case measure => have := HK1.out; omega
                  case rel => exact ⟨(x7_1 ++ t136), (wrap64 (x12_1 + 1)), (by first | rfl | (simp; done) | (simp [*]; done)), (by first | rfl | (simp; done) | (simp [*]; done)), H', ⟨by have := HK1.out; omega⟩, ⟨by (with_reducible repeat (first | refine blk_drewN ?_ _ | refine blk_drew ?_ | refine blk_alloc ?_ _)); exact BK121.out⟩, ⟨by repeat (first | (with_reducible first | exact HB.out | apply below_alloc | apply pw_below_drewN | apply below_drew1 | refine below_set ?_ GE121.out) | exact HB.out)⟩⟩
                · rw [if_neg c39] at H
                  exact absurd H (by simp)
          · rw [if_neg c7] at H
            exact absurd H (by simp)
        · rw [if_neg c6] at H
          exact absurd H (by simp)
      · rw [if_neg c5] at H
        have c5b0 : decide (x12_1 < (l1.length : Int)) = false := decide_eq_false c5
        clear c5
        replace H := Option.bind_eq_some_iff.mp H
        obtain ⟨t122, A420, H⟩ := H
        replace H : (if x7_1.size + t122.size ≤ 9223372036854775807 then (some (x7_1 ++ t122)) else (none)) = some r := H
        have A42 := Aside0.mk A420
        clear A420
        by_cases c43 : x7_1.size + t122.size ≤ 9223372036854775807
        · rw [if_pos c43] at H
          have c43b0 := eq_true c43
          have c43b1 : decide (x7_1.size + t122.size ≤ 9223372036854775807) = true := decide_eq_true c43
          try have c43b2 : (9223372036854775807 < x7_1.size + t122.size) = False := eq_false (Nat.not_lt.2 c43)
          obtain rfl := Option.some.inj H
          have hcz44_0 : wr.cell? ⟨gb121, 0, none⟩ = some (.int .i64 a0_0) := (blk_cell BK121.out 0).trans rfl
          have hcz44_1 : wr.cell? ⟨gb121, 1, none⟩ = some (.int .i64 a0_1) := (blk_cell BK121.out 1).trans rfl
          have hcz44_2 : wr.cell? ⟨gb121, 2, none⟩ = some (.int .i64 a0_2) := (blk_cell BK121.out 2).trans rfl
          have hfz44_0 := blk_frozen BK121.out 0
          have hfz44_1 := blk_frozen BK121.out 1
          have hfz44_2 := blk_frozen BK121.out 2
          go_wp2_with (first | ((with_reducible refine gate_callee (f := 48) rfl ?_); refine goesL_ (some 45) rfl rfl Tryd.func48 (by kernel_rfl) rfl #[.agg #[.int .i64 a0_0, .int .i64 a0_1, .int .i64 a0_2]] rfl (by (try simp only [List.map_toArray, List.map_cons, List.map_nil]); first | done | rfl | (simp only [List.length_drop, List.length_take]; rfl)) ?_; (with_reducible refine (quillpenref01_End.calls a0_0 a0_1 a0_2 t122 _ A42.out).mono ?_); rintro e w45 ⟨rfl, hb⟩; refine ⟨_, rfl, ?_⟩; have n0_ := Aside0.mk (blk_below (g := gb121) (o := .cells #[.int .i64 a0_0, .int .i64 a0_1, .int .i64 a0_2] 51 (0, 0)) (by (with_reducible repeat (first | refine blk_drewN ?_ _ | refine blk_drew ?_ | refine blk_alloc ?_ _)); exact BK121.out) hb); have n1_ := Aside0.mk (below_step (by repeat (first | (with_reducible first | exact HB.out | apply below_alloc | apply pw_below_drewN | apply below_drew1 | refine below_set ?_ GE121.out) | exact HB.out)) hb); clear BK121; clear HB; have BK121 := n0_; have HB := n1_; clear n0_ n1_; (try clear hb); (try clear hb2); (try clear hk); (try clear hi)))
          go_ret
          exact ⟨by first | rfl | (simp [errW_none, errW_some] <;> rfl) | (simp [*, errW_none, errW_some] <;> rfl), by repeat (first | (with_reducible first | exact HB.out | apply below_alloc | apply pw_below_drewN | apply below_drew1 | refine below_set ?_ GE121.out) | exact HB.out)⟩
        · rw [if_neg c43] at H
          exact absurd H (by simp)
end Go.Proofs.YtmignbhpofmgeaaDoor.XTopOther
namespace Go.Proofs.YtmignbhpofmgeaaDoor.XTopOther
open Go.RowKit Go.Proofs.YtmignbhpofmgeaaDoorW.PrintWords Go.Proofs.YtmignbhpofmgeaaDoorW.PrintLast Go.Proofs.YtmignbhpofmgeaaDoorW.PrintMore
attribute [local go_sem] max2_int min2_int max_two min_two max_three min_three max_four min_four   -- for this text's walks alone
set_option linter.unusedVariables false
set_option linter.unusedSimpArgs false
def quillpenref10_Text.l0 : Nat → List (List ByteArray) → ByteArray → Int → Int → Int → Int → Option (ByteArray)
  | 0, _, _, _, _, _, _ => none
  | k + 1, x1, x5, x6, x138000, x138001, x138002 => (quillpenref10_Front.f k x1).bind fun t138 => (if x6 < t138 then (if 0 ≤ x6 then (if x6 < (x1.length : Int) then ((quillpenref10_one.f (x6 == 0)).bind fun t140 => ((quillpenref10_Line.f k x138000 x138001 x138002 (rd_L2 x1 x6) t140).bind fun t141 => (if x5.size + t141.size ≤ 9223372036854775807 then (quillpenref10_Text.l0 k x1 (x5 ++ t141) (wrap64 (x6 + 1)) x138000 x138001 x138002) else (none)))) else (none)) else (none)) else (some x5))
def quillpenref10_Text.f (k : Nat) (a0_0 : Int) (a0_1 : Int) (a0_2 : Int) (l1 : List (List ByteArray)) : Option (ByteArray) := quillpenref10_Text.l0 k l1 (⟨#[]⟩ : ByteArray) 0 a0_0 a0_1 a0_2
def quillpenref10_Text.T5 : Bool × List (List Nat × List Nat) := (true, [([], []), ([], []), ([], []), ([], []), ([2, 3], [2, 3]), ([4], [4]), ([], []), ([6], [6]), ([7], [7]), ([1, 5, 8, 8], [1, 5, 8]), ([0, 9], [0, 9]), ([10, 9, 0, 1, 2, 3, 4, 5, 6, 7, 8, 9, 10], [0, 10])])
def quillpenref10_Text.B5 : List Nat := [0, 0, 0, 0, 12, 28, 0, 64, 192, 510, 1023, 2047]
theorem quillpenref10_Text.tab5 : rtab .any (opsOf Tryd.f18 5) = quillpenref10_Text.T5 := by kernel_rfl
theorem quillpenref10_Text.bits5 : waitsOk quillpenref10_Text.T5.2 quillpenref10_Text.B5 = true := by kernel_rfl
set_option maxHeartbeats 8000000 in
set_option maxRecDepth 100000 in
theorem quillpenref10_Text.calls (k : Nat) (a0_0 : Int) (a0_1 : Int) (a0_2 : Int) (A1 : Option Addr) (c1 : Nat) (l1 : List (List ByteArray)) (r : ByteArray) (w : World) (hr1 : Kd.C (Kd.slice 9 Kd.string) w A1 l1.length l1) (hc1 : l1.length ≤ c1) (h : quillpenref10_Text.f k a0_0 a0_1 a0_2 l1 = some r) :
    Calls Tryd.prog 18 #[.agg #[.int .i64 a0_0, .int .i64 a0_1, .int .i64 a0_2], .slice A1 l1.length c1] w fun e w' => e = .returned (.string r) ∧ Below w.heap.size w w' := by
  have hu51 := Tryd.underlying51
  have HR1 := Aside0.mk hr1
  have HC1 := Aside0.mk hc1
  clear hr1 hc1
  have HB := Aside0.mk (Below.refl w.heap.size w)
  have H : (quillpenref10_Text.l0 k l1 (⟨#[]⟩ : ByteArray) 0 a0_0 a0_1 a0_2) = some r := h
  clear h
  have H' := Aside0.mk H
  clear H
  go_enter Tryd.func18, Tryd.ntmps18
  go_wp2_with (first | ((with_reducible refine gate_dst (N := 2) rfl ?_); refine box_event ?hg (N := 2) ?hd (cs := #[.int .i64 a0_0, .int .i64 a0_1, .int .i64 a0_2]) (t := 51) ?hr ?_; (case hd => rfl); (case hg => rfl); (case hr => first | (go_simp; done) | (go_simp; rfl)); intro gb137 hg w3 hbox hb; have n0_ := Aside0.mk (below_step (by repeat (first | (with_reducible first | exact HB.out | apply below_alloc | apply pw_below_drewN | apply below_drew1) | exact HB.out)) hb); have n1_ := Aside0.mk (hbox); have n2_ := Aside0.mk ((by rw [hg]; exact (below_size (by repeat (first | (with_reducible first | exact HB.out | apply below_alloc | apply pw_below_drewN | apply below_drew1) | exact HB.out))) : w.heap.size ≤ gb137)); have n3_ := Aside0.mk ((by rw [hg]; exact (below_size (by repeat (first | (with_reducible first | exact HB.out | apply below_alloc | apply pw_below_drewN | apply below_drew1) | exact HB.out))) : w.heap.size ≤ gb137)); clear HB; have HB := n0_; have BK137 := n1_; have GW137 := n2_; have GE137 := n3_; clear n0_ n1_ n2_ n3_; clear hb hbox hg))
  go_loopg [5, 6] k (fun kq v5 v6 w' => ∃ (x5_1 : ByteArray) (x6_1 : Int), v5 = .string x5_1 ∧ v6 = .int .i64 x6_1 ∧ Aside0 (quillpenref10_Text.l0 kq l1 x5_1 x6_1 a0_0 a0_1 a0_2 = some r) ∧ Aside0 (kq ≤ k) ∧ Aside0 (w'.heap[gb137]? = some (.cells #[.int .i64 a0_0, .int .i64 a0_1, .int .i64 a0_2] 51 (0, 0))) ∧ Aside0 (Below w.heap.size w w'))
  case atStart => exact ⟨((⟨#[]⟩ : ByteArray)), (0), (by first | rfl | (simp; done) | (simp [*]; done)), (by first | rfl | (simp; done) | (simp [*]; done)), H', ⟨Nat.le_refl _⟩, ⟨by (with_reducible repeat (first | refine blk_drewN ?_ _ | refine blk_drew ?_ | refine blk_alloc ?_ _)); exact BK137.out⟩, ⟨by repeat (first | (with_reducible first | exact HB.out | apply below_alloc | apply pw_below_drewN | apply below_drew1 | refine below_set ?_ GE137.out) | exact HB.out)⟩⟩
  case round =>
    clear H'
    try clear c1
    try clear p2
    obtain ⟨x5_1, x6_1, rfl, rfl, HA, HK1, BK137, HB⟩ := hrel
    cases gk with
    | zero => exact absurd HA.out (by simp [quillpenref10_Text.l0])
    | succ k1 =>
      have H := HA.out
      clear HA
      simp only [quillpenref10_Text.l0] at H
      replace H := Option.bind_eq_some_iff.mp H
      obtain ⟨t138, A40, H⟩ := H
      replace H : (if x6_1 < t138 then (if 0 ≤ x6_1 then (if x6_1 < (l1.length : Int) then ((quillpenref10_one.f (x6_1 == 0)).bind fun t140 => ((quillpenref10_Line.f k1 a0_0 a0_1 a0_2 (rd_L2 l1 x6_1) t140).bind fun t141 => (if x5_1.size + t141.size ≤ 9223372036854775807 then (quillpenref10_Text.l0 k1 l1 (x5_1 ++ t141) (wrap64 (x6_1 + 1)) a0_0 a0_1 a0_2) else (none)))) else (none)) else (none)) else (some x5_1)) = some r := H
      have A4 := Aside0.mk A40
      clear A40
      by_cases c5 : x6_1 < t138
      · rw [if_pos c5] at H
        have c5b0 : decide (x6_1 < t138) = true := decide_eq_true c5
        clear c5
        by_cases c6 : 0 ≤ x6_1
        · rw [if_pos c6] at H
          have c6b0 : decide (0 ≤ x6_1) = true := decide_eq_true c6
          clear c6
          by_cases c7 : x6_1 < (l1.length : Int)
          · rw [if_pos c7] at H
            have c7b0 : decide (x6_1 < (l1.length : Int)) = true := decide_eq_true c7
            clear c7
            replace H := Option.bind_eq_some_iff.mp H
            obtain ⟨t140, A80, H⟩ := H
            replace H : ((quillpenref10_Line.f k1 a0_0 a0_1 a0_2 (rd_L2 l1 x6_1) t140).bind fun t141 => (if x5_1.size + t141.size ≤ 9223372036854775807 then (quillpenref10_Text.l0 k1 l1 (x5_1 ++ t141) (wrap64 (x6_1 + 1)) a0_0 a0_1 a0_2) else (none))) = some r := H
            have A8 := Aside0.mk A80
            clear A80
            replace H := Option.bind_eq_some_iff.mp H
            obtain ⟨t141, A90, H⟩ := H
            replace H : (if x5_1.size + t141.size ≤ 9223372036854775807 then (quillpenref10_Text.l0 k1 l1 (x5_1 ++ t141) (wrap64 (x6_1 + 1)) a0_0 a0_1 a0_2) else (none)) = some r := H
            have A9 := Aside0.mk A90
            clear A90
            by_cases c10 : x5_1.size + t141.size ≤ 9223372036854775807
            · rw [if_pos c10] at H
              have c10b0 := eq_true c10
              have c10b1 : decide (x5_1.size + t141.size ≤ 9223372036854775807) = true := decide_eq_true c10
              try have c10b2 : (9223372036854775807 < x5_1.size + t141.size) = False := eq_false (Nat.not_lt.2 c10)
              have H' := Aside0.mk H
              clear H
              try go_wp2_with (first | ((with_reducible refine gate_callee (f := 35) rfl ?_); refine goesL_ (some 9) rfl rfl Tryd.func35 (by kernel_rfl) rfl #[.slice A1 l1.length c1] rfl (by (try simp only [List.map_toArray, List.map_cons, List.map_nil]); first | done | rfl | (simp only [List.length_drop, List.length_take]; rfl)) ?_; (with_reducible refine (quillpenref10_Front.calls k1 _ _ l1 t138 _ ?side1 ?side2 A4.out).mono ?_); (case side1 => repeat (first | exact (Kd.C_below HR1.out HB.out) | (with_reducible refine Kd.C_alloc ?_ _) | (with_reducible refine Kd.C_drewN ?_ _) | (with_reducible refine Kd.C_drew ?_))); (case side2 => exact HC1.out); rintro e w11 ⟨rfl, hb⟩; refine ⟨_, rfl, ?_⟩; have n0_ := Aside0.mk (blk_below (g := gb137) (o := .cells #[.int .i64 a0_0, .int .i64 a0_1, .int .i64 a0_2] 51 (0, 0)) (by (with_reducible repeat (first | refine blk_drewN ?_ _ | refine blk_drew ?_ | refine blk_alloc ?_ _)); exact BK137.out) hb); have n1_ := Aside0.mk (below_step (by repeat (first | (with_reducible first | exact HB.out | apply below_alloc | apply pw_below_drewN | apply below_drew1 | refine below_set ?_ GE137.out) | exact HB.out)) hb); clear BK137; clear HB; have BK137 := n0_; have HB := n1_; clear n0_ n1_; (try clear hb); (try clear hb2); (try clear hk); (try clear hi)))
              have n0_ := Aside0.mk (blk_drew BK137.out)
              have n1_ := Aside0.mk (below_drew1 HB.out)
              clear BK137
              clear HB
              have BK137 := n0_
              have HB := n1_
              clear n0_ n1_
              have p139 : 0 ≤ (x6_1 : Int) := of_decide_eq_true (by first | (with_reducible assumption) | assumption)
              have q139 : x6_1 < (l1.length : Int) := of_decide_eq_true (by first | (with_reducible assumption) | assumption)
              obtain ⟨ad139, A139_0, c139_0, e139, hx139_0, hl139_0, hi139_0⟩ := at_L2 HR1.out x6_1 p139 q139
              have hw139_0 := hx139_0
              cases e139
              replace hx139_0 := (HB.out.cell (World.block_lt_of_cell? w _ hx139_0)).trans hx139_0
              have HR139_0 := Aside0.mk hi139_0
              have HC139_0 := Aside0.mk hl139_0
              clear hi139_0 hl139_0
              replace p139 := eq_true p139
              replace q139 := eq_true q139
              refine start_ (n := 12) (S := fun w' => w'.cell? ⟨gb137, 0, none⟩ = some (.int .i64 a0_0) ∧ w'.cell? ⟨gb137, 1, none⟩ = some (.int .i64 a0_1) ∧ w'.cell? ⟨gb137, 2, none⟩ = some (.int .i64 a0_2) ∧ w'.cell? (ad139.add (x6_1).toNat) = some (.slice A139_0 (rd_L2 l1 x6_1).length c139_0)) (ds := []) #[false, false, false, false, false, false, false, false, false, false, false, false] (by kernel_rfl) rfl rfl ⟨(blk_cell BK137.out 0).trans rfl, (blk_cell BK137.out 1).trans rfl, (blk_cell BK137.out 2).trans rfl, ((HB.out.cell (World.block_lt_of_cell? w _ hw139_0)).trans hw139_0)⟩ (fun hHeld => ?_); refine with_tabW quillpenref10_Text.tab5 quillpenref10_Text.bits5 (fun HT_ HW_ => ?_)
              generalize w11.drew = w12 at BK137 HB HR139_0 hx139_0 hHeld ⊢
              refine pure_ (i := 0) (N := some 13) (v := ?_) (a' := ?_) #[true, false, false, false, false, false, false, false, false, false, false, false] rfl rfl (any_of HT_.out (by kernel_rfl)) (fun _ _ _ h => h) (Or.inl ⟨by rfl, ?_⟩) ?_ ?_
              rotate_left
              · intro w'
                go_simp
                with_reducible rfl
              rotate_left
              · simp only [Act.put, List.setIfInBounds_toArray, List.set_cons_zero, List.set_cons_succ, i64_w, i32_w]
                rfl
              refine pure_ (i := 2) (N := some 15) (v := ?_) (a' := ?_) #[true, false, true, false, false, false, false, false, false, false, false, false] rfl rfl (any_of HT_.out (by kernel_rfl)) (fun _ _ _ h => h) (Or.inl ⟨by rfl, ?_⟩) ?_ ?_
              rotate_left
              · intro w'
                go_simp
                with_reducible rfl
              rotate_left
              · simp only [Act.put, List.setIfInBounds_toArray, List.set_cons_zero, List.set_cons_succ, i64_w, i32_w]
                rfl
              refine pure_ (i := 3) (N := some 16) (v := ?_) (a' := ?_) #[true, false, true, true, false, false, false, false, false, false, false, false] rfl rfl (any_of HT_.out (by kernel_rfl)) (fun _ _ _ h => h) (Or.inl ⟨by rfl, ?_⟩) ?_ ?_
              rotate_left
              · intro w'
                go_simp
                with_reducible rfl
              rotate_left
              · simp only [Act.put, List.setIfInBounds_toArray, List.set_cons_zero, List.set_cons_succ, i64_w, i32_w]
                rfl
              refine pure_ (i := 4) (N := some 17) (v := ?_) (a' := ?_) #[true, false, true, true, true, false, false, false, false, false, false, false] rfl rfl (any_of HT_.out (by kernel_rfl)) (fun _ _ _ h => h) (Or.inl ⟨by rfl, ?_⟩) ?_ ?_
              rotate_left
              · intro w'
                go_simp
                with_reducible rfl
              rotate_left
              · simp only [Act.put, List.setIfInBounds_toArray, List.set_cons_zero, List.set_cons_succ, i64_w, i32_w]
                rfl
              refine pure_ (i := 6) (N := some 19) (v := ?_) (a' := ?_) #[true, false, true, true, true, false, true, false, false, false, false, false] rfl rfl (any_of HT_.out (by kernel_rfl)) (fun _ _ _ h => h) (Or.inl ⟨by rfl, ?_⟩) ?_ ?_
              rotate_left
              · intro w'
                go_simp
                with_reducible rfl
              rotate_left
              · simp only [Act.put, List.setIfInBounds_toArray, List.set_cons_zero, List.set_cons_succ, i64_w, i32_w]
                rfl
              refine pure_ (i := 7) (N := some 20) (v := ?_) (a' := ?_) #[true, false, true, true, true, false, true, true, false, false, false, false] rfl rfl (any_of HT_.out (by kernel_rfl)) (fun _ _ _ h => h) (Or.inl ⟨by rfl, ?_⟩) ?_ ?_
              rotate_left
              · intro w'
                go_simp
                with_reducible rfl
              rotate_left
              · simp only [Act.put, List.setIfInBounds_toArray, List.set_cons_zero, List.set_cons_succ, i64_w, i32_w]
                rfl
              refine take_ (i := 1) (N := some 14) (v := ?_) (a' := ?_) #[true, true, true, true, true, false, true, true, false, false, false, false] rfl rfl (take_ofW HT_.out HW_.out (by kernel_rfl)) (fun _ _ _ h => h) (Or.inl ⟨by rfl, ?_⟩) hHeld ?_ ?_
              rotate_left
              · rintro w' ⟨s0, s1, s2, s3⟩
                go_simp
                with_reducible rfl
              rotate_left
              · simp only [Act.put, List.setIfInBounds_toArray, List.set_cons_zero, List.set_cons_succ, i64_w, i32_w]
                rfl
              refine take_ (i := 5) (N := some 18) (v := ?_) (a' := ?_) #[true, true, true, true, true, true, true, true, false, false, false, false] rfl rfl (take_ofW HT_.out HW_.out (by kernel_rfl)) (fun _ _ _ h => h) (Or.inl ⟨by rfl, ?_⟩) hHeld ?_ ?_
              rotate_left
              · rintro w' ⟨s0, s1, s2, s3⟩
                go_simp
                with_reducible rfl
              rotate_left
              · simp only [Act.put, List.setIfInBounds_toArray, List.set_cons_zero, List.set_cons_succ, i64_w, i32_w]
                rfl
              refine one_ (i := 8) (N := some 21) #[true, true, true, true, true, true, true, true, true, false, false, false] rfl rfl (one_of HT_.out (by kernel_rfl)) (by decide) (fun K hK => ?_)
              refine goes_ Tryd.func37 (by kernel_rfl) rfl #[.bool (x6_1 == 0)] (by rfl) rfl rfl (by (try simp only [List.map_toArray, List.map_cons, List.map_nil]); first | done | rfl | (simp only [List.length_drop, List.length_take]; rfl)) ?_
              with_reducible refine (quillpenref10_one.calls (x6_1 == 0) t140 _ A8.out).mono ?_
              rintro e w' ⟨rfl, ⟨nd, rfl⟩⟩
              refine ⟨_, rfl, ?_⟩
              refine hK.out _ _ ⟨(blk_cell BK137.out 0).trans rfl, (blk_cell BK137.out 1).trans rfl, (blk_cell BK137.out 2).trans rfl, ((HB.out.cell (World.block_lt_of_cell? w _ hw139_0)).trans hw139_0)⟩ (fun hHeld => ?_)
              clear hK K
              refine norm_ (a' := ?_) ?_ ?_
              rotate_left
              · show Act.put _ (some 21) _ = _
                simp only [Act.put, List.setIfInBounds_toArray, List.set_cons_zero, List.set_cons_succ, i64_w, i32_w]
                rfl
              refine one_ (i := 9) (N := some 22) #[true, true, true, true, true, true, true, true, true, true, false, false] rfl rfl (one_of HT_.out (by kernel_rfl)) (by decide) (fun K hK => ?_)
              refine goes_ Tryd.func36 (by kernel_rfl) rfl #[.agg #[.int .i64 a0_0, .int .i64 a0_1, .int .i64 a0_2], .slice A139_0 (rd_L2 l1 x6_1).length c139_0, .int .i64 t140] (by rfl) rfl rfl (by (try simp only [List.map_toArray, List.map_cons, List.map_nil]); first | done | rfl | (simp only [List.length_drop, List.length_take]; rfl)) ?_
              with_reducible refine (quillpenref10_Line.calls k1 a0_0 a0_1 a0_2 _ _ (rd_L2 l1 x6_1) t140 t141 _ ?side1 ?side2 A9.out).mono ?_
              (case side1 => repeat (first | exact (Kd.C_below HR139_0.out (by repeat (first | (with_reducible first | exact HB.out | apply below_alloc | apply pw_below_drewN | apply below_drew1 | refine below_set ?_ GE137.out) | exact HB.out))) | (with_reducible refine Kd.C_alloc ?_ _) | (with_reducible refine Kd.C_drewN ?_ _) | (with_reducible refine Kd.C_drew ?_)))
              (case side2 => exact HC139_0.out)
              rintro e w13 ⟨rfl, hb⟩
              refine ⟨_, rfl, ?_⟩
              have n0_ := Aside0.mk (blk_below (g := gb137) (o := .cells #[.int .i64 a0_0, .int .i64 a0_1, .int .i64 a0_2] 51 (0, 0)) (by (with_reducible repeat (first | refine blk_drewN ?_ _ | refine blk_drew ?_ | refine blk_alloc ?_ _)); exact BK137.out) hb)
              have n1_ := Aside0.mk (below_step (by repeat (first | (with_reducible first | exact HB.out | apply below_alloc | apply pw_below_drewN | apply below_drew1 | refine below_set ?_ GE137.out) | exact HB.out)) hb)
              clear BK137
              clear HB
              have BK137 := n0_
              have HB := n1_
              clear n0_ n1_
              (try clear hb)
              (try clear hb2)
              (try clear hk)
              (try clear hi)
              refine hK.out _ _ ⟨(blk_cell BK137.out 0).trans rfl, (blk_cell BK137.out 1).trans rfl, (blk_cell BK137.out 2).trans rfl, ((HB.out.cell (World.block_lt_of_cell? w _ hw139_0)).trans hw139_0)⟩ (fun hHeld => ?_)
              clear hK K
              refine norm_ (a' := ?_) ?_ ?_
              rotate_left
              · show Act.put _ (some 22) _ = _
                simp only [Act.put, List.setIfInBounds_toArray, List.set_cons_zero, List.set_cons_succ, i64_w, i32_w]
                rfl
              refine pure_ (i := 10) (N := some 23) (v := ?_) (a' := ?_) #[true, true, true, true, true, true, true, true, true, true, true, false] rfl rfl (any_of HT_.out (by kernel_rfl)) (fun _ _ _ h => h) (Or.inl ⟨by rfl, ?_⟩) ?_ ?_
              rotate_left
              · intro w'
                go_simp
                with_reducible rfl
              rotate_left
              · simp only [Act.put, List.setIfInBounds_toArray, List.set_cons_zero, List.set_cons_succ, i64_w, i32_w]
                rfl
              refine pure_ (i := 11) (N := some 5) (v := ?_) (a' := ?_) #[true, true, true, true, true, true, true, true, true, true, true, true] rfl rfl (any_of HT_.out (by kernel_rfl)) (fun _ _ _ h => h) (Or.inl ⟨by rfl, ?_⟩) ?_ ?_
              rotate_left
              · intro w'
                go_simp
                with_reducible rfl
              rotate_left
              · simp only [Act.put, List.setIfInBounds_toArray, List.set_cons_zero, List.set_cons_succ, i64_w, i32_w]
                rfl
              refine done_ (done_of HT_.out (by kernel_rfl)) ?_
              try go_wp2
              go_roundg k1
              case measure => have := HK1.out; omega
              case rel => exact ⟨(x5_1 ++ t141), (wrap64 (x6_1 + 1)), (by first | rfl | (simp; done) | (simp [*]; done)), (by first | rfl | (simp; done) | (simp [*]; done)), H', ⟨by have := HK1.out; omega⟩, ⟨by (with_reducible repeat (first | refine blk_drewN ?_ _ | refine blk_drew ?_ | refine blk_alloc ?_ _)); exact BK137.out⟩, ⟨by repeat (first | (with_reducible first | exact HB.out | apply below_alloc | apply pw_below_drewN | apply below_drew1 | refine below_set ?_ GE137.out) | exact HB.out)⟩⟩
            · rw [if_neg c10] at H
              exact absurd H (by simp)
          · rw [if_neg c7] at H
            exact absurd H (by simp)
        · rw [if_neg c6] at H
          exact absurd H (by simp)
      · rw [if_neg c5] at H
        have c5b0 : decide (x6_1 < t138) = false := decide_eq_false c5
        clear c5
        obtain rfl := Option.some.inj H
        go_wp2_with (first | ((with_reducible refine gate_callee (f := 35) rfl ?_); refine goesL_ (some 9) rfl rfl Tryd.func35 (by kernel_rfl) rfl #[.slice A1 l1.length c1] rfl (by (try simp only [List.map_toArray, List.map_cons, List.map_nil]); first | done | rfl | (simp only [List.length_drop, List.length_take]; rfl)) ?_; (with_reducible refine (quillpenref10_Front.calls k1 _ _ l1 t138 _ ?side1 ?side2 A4.out).mono ?_); (case side1 => repeat (first | exact (Kd.C_below HR1.out HB.out) | (with_reducible refine Kd.C_alloc ?_ _) | (with_reducible refine Kd.C_drewN ?_ _) | (with_reducible refine Kd.C_drew ?_))); (case side2 => exact HC1.out); rintro e w14 ⟨rfl, hb⟩; refine ⟨_, rfl, ?_⟩; have n0_ := Aside0.mk (blk_below (g := gb137) (o := .cells #[.int .i64 a0_0, .int .i64 a0_1, .int .i64 a0_2] 51 (0, 0)) (by (with_reducible repeat (first | refine blk_drewN ?_ _ | refine blk_drew ?_ | refine blk_alloc ?_ _)); exact BK137.out) hb); have n1_ := Aside0.mk (below_step (by repeat (first | (with_reducible first | exact HB.out | apply below_alloc | apply pw_below_drewN | apply below_drew1 | refine below_set ?_ GE137.out) | exact HB.out)) hb); clear BK137; clear HB; have BK137 := n0_; have HB := n1_; clear n0_ n1_; (try clear hb); (try clear hb2); (try clear hk); (try clear hi)))
        go_ret
        exact ⟨by first | rfl | (simp [errW_none, errW_some] <;> rfl) | (simp [*, errW_none, errW_some] <;> rfl), by repeat (first | (with_reducible first | exact HB.out | apply below_alloc | apply pw_below_drewN | apply below_drew1 | refine below_set ?_ GE137.out) | exact HB.out)⟩
end Go.Proofs.YtmignbhpofmgeaaDoor.XTopOther
namespace Go.Proofs.YtmignbhpofmgeaaDoor.Top
open Go.RowKit Go.Proofs.YtmignbhpofmgeaaDoorW.PrintWords Go.Proofs.YtmignbhpofmgeaaDoorW.PrintLast Go.Proofs.YtmignbhpofmgeaaDoorW.PrintMore Go.Proofs.YtmignbhpofmgeaaDoor.Iter
set_option linter.unusedVariables false
set_option linter.unusedSimpArgs false
theorem wrap_id {x : Int} (h1 : -1000000000000 ≤ x) (h2 : x ≤ 1000000000000) : wrap64 x = x := by unfold wrap64; omega
theorem bt_get (s : ByteArray) (i : Nat) : bt s (i : Int) = (Top.bytesOf s).getD i 0 := by
  unfold bt Top.bytesOf
  rw [Int.toNat_natCast, List.getD_eq_getElem?_getD, List.getElem?_map]
  by_cases h : i < s.size
  · rw [dif_pos h, Array.getElem?_toList, Array.getElem?_eq_getElem (by exact h)]
    rfl
  · rw [dif_neg h, Array.getElem?_toList, Array.getElem?_eq_none (by have : s.data.size = s.size := rfl; omega)]
    rfl
theorem extract_bytes (s : ByteArray) (a b : Nat) : Top.bytesOf (s.extract a b) = ((Top.bytesOf s).take b).drop a := by
  unfold Top.bytesOf
  rw [ByteArray.data_extract, Array.toList_extract, List.extract_eq_take_drop, List.map_take, List.map_drop, List.drop_take]
theorem extract_str (s : ByteArray) (a b : Nat) : s.extract a b = strOfNums (((Top.bytesOf s).take b).drop a) := by
  rw [← extract_bytes, strOf_bytes]
theorem put1 {c : Int} (h0 : 0 ≤ c) (h1 : c < 128) : XOther.quillpenref02_put.f c = some (strOfNums [c]) := by
  unfold XOther.quillpenref02_put.f
  rw [if_pos h1, show c % 256 = c by omega]
theorem put2 {c : Int} (h0 : 128 ≤ c) (h1 : c < 2048) : XOther.quillpenref02_put.f c = some (strOfNums [192 + c / 64, 128 + c % 64]) := by
  unfold XOther.quillpenref02_put.f
  rw [if_neg (by omega), if_pos h1]
  simp only [Int.tdiv_eq_ediv_of_nonneg (show 0 ≤ c by omega), Int.tmod_eq_emod_of_nonneg (show 0 ≤ c by omega), wrap_id (show -1000000000000 ≤ c / 64 by omega) (by omega),
    wrap_id (show -1000000000000 ≤ 192 + c / 64 by omega) (by omega), wrap_id (show -1000000000000 ≤ 128 + c % 64 by omega) (by omega)]
  rw [show (192 + c / 64) % 256 = 192 + c / 64 by omega, show (128 + c % 64) % 256 = 128 + c % 64 by omega]
theorem put3 {c : Int} (h0 : 2048 ≤ c) (h1 : c < 65536) : XOther.quillpenref02_put.f c = some (strOfNums [224 + c / 4096, 128 + c / 64 % 64, 128 + c % 64]) := by
  unfold XOther.quillpenref02_put.f
  rw [if_neg (by omega), if_neg (by omega), if_pos h1]
  simp only [Int.tdiv_eq_ediv_of_nonneg (show 0 ≤ c by omega), Int.tmod_eq_emod_of_nonneg (show 0 ≤ c by omega), wrap_id (show -1000000000000 ≤ c / 64 by omega) (by omega), wrap_id (show -1000000000000 ≤ c / 4096 by omega) (by omega), Int.tmod_eq_emod_of_nonneg (show 0 ≤ c / 64 by omega),
    wrap_id (show -1000000000000 ≤ 224 + c / 4096 by omega) (by omega), wrap_id (show -1000000000000 ≤ 128 + c / 64 % 64 by omega) (by omega), wrap_id (show -1000000000000 ≤ 128 + c % 64 by omega) (by omega)]
  rw [show (224 + c / 4096) % 256 = 224 + c / 4096 by omega, show (128 + c / 64 % 64) % 256 = 128 + c / 64 % 64 by omega, show (128 + c % 64) % 256 = 128 + c % 64 by omega]
theorem put4 {c : Int} (h0 : 65536 ≤ c) (h1 : c ≤ 1114111) : XOther.quillpenref02_put.f c = some (strOfNums [240 + c / 262144, 128 + c / 4096 % 64, 128 + c / 64 % 64, 128 + c % 64]) := by
  unfold XOther.quillpenref02_put.f
  rw [if_neg (by omega), if_neg (by omega), if_neg (by omega)]
  simp only [Int.tdiv_eq_ediv_of_nonneg (show 0 ≤ c by omega), Int.tmod_eq_emod_of_nonneg (show 0 ≤ c by omega), wrap_id (show -1000000000000 ≤ c / 64 by omega) (by omega), wrap_id (show -1000000000000 ≤ c / 4096 by omega) (by omega), wrap_id (show -1000000000000 ≤ c / 262144 by omega) (by omega), Int.tmod_eq_emod_of_nonneg (show 0 ≤ c / 64 by omega), Int.tmod_eq_emod_of_nonneg (show 0 ≤ c / 4096 by omega),
    wrap_id (show -1000000000000 ≤ 240 + c / 262144 by omega) (by omega), wrap_id (show -1000000000000 ≤ 128 + c / 4096 % 64 by omega) (by omega), wrap_id (show -1000000000000 ≤ 128 + c / 64 % 64 by omega) (by omega), wrap_id (show -1000000000000 ≤ 128 + c % 64 by omega) (by omega)]
  rw [show (240 + c / 262144) % 256 = 240 + c / 262144 by omega, show (128 + c / 4096 % 64) % 256 = 128 + c / 4096 % 64 by omega, show (128 + c / 64 % 64) % 256 = 128 + c / 64 % 64 by omega, show (128 + c % 64) % 256 = 128 + c % 64 by omega]
theorem toList_ne {xs : List Int} {s : ByteArray} {n : Nat} (hn : n ≤ (Top.bytesOf s).length) (h : xs.length ≠ n) : ¬ (strOfNums xs).toList = (s.extract 0 n).toList := by
  intro e
  rw [extract_str, Lib.strOfNums_toList, Lib.strOfNums_toList] at e
  have := congrArg List.length e
  simp [Lib.bytesOf] at this
  omega
theorem toList_eq {xs : List Int} {s : ByteArray} {n : Nat} (h : xs = (Top.bytesOf s).take n) : (strOfNums xs).toList = (s.extract 0 n).toList := by
  rw [extract_str, h, List.drop_zero]
/-- One round of Size that goes on. -/
theorem size_on {k : Nat} {s : ByteArray} {n : Nat} {c : Int} {xs : List Int} (h1 : n ≤ 4) (h2 : n ≤ (Top.bytesOf s).length) (hc : XOther.quillpenref02_Size.c s (n : Int) = c) (hr : 0 ≤ c ∧ c ≤ 1114111 ∧ (c < 55296 ∨ 57343 < c)) (hp : XOther.quillpenref02_put.f c = some (strOfNums xs)) (hx : xs.length ≠ n) :
    XOther.quillpenref02_Size.l0 (k + 1) s (n : Int) = XOther.quillpenref02_Size.l0 k s ((n + 1 : Nat) : Int) := by
  have hs := bytesOf_len s
  rw [XOther.quillpenref02_Size.l0, if_pos ⟨by omega, by omega⟩, hc, if_pos hr, hp, Option.bind_some, Int.toNat_natCast, if_neg (toList_ne h2 hx), wrap_id (by omega) (by omega)]
  rfl
theorem size_hit {k : Nat} {s : ByteArray} {n : Nat} {c : Int} {xs : List Int} (h1 : n ≤ 4) (h2 : n ≤ (Top.bytesOf s).length) (hc : XOther.quillpenref02_Size.c s (n : Int) = c) (hr : 0 ≤ c ∧ c ≤ 1114111 ∧ (c < 55296 ∨ 57343 < c)) (hp : XOther.quillpenref02_put.f c = some (strOfNums xs)) (hx : xs = (Top.bytesOf s).take n) :
    XOther.quillpenref02_Size.l0 (k + 1) s (n : Int) = some (n : Int) := by
  have hs := bytesOf_len s
  rw [XOther.quillpenref02_Size.l0, if_pos ⟨by omega, by omega⟩, hc, if_pos hr, hp, Option.bind_some, Int.toNat_natCast, if_pos (toList_eq hx)]
theorem run_state {u : Nat} {xs : List Int} {lo hi : Int} {v : Nat} (hu : ∀ b, (stepU u b).2 = true → lo ≤ b ∧ b ≤ hi ∧ (stepU u b).1 = v) (h0 : u ≠ 0) (h : runU u xs = some 0) : ∃ b bs, xs = b :: bs ∧ lo ≤ b ∧ b ≤ hi ∧ runU v bs = some 0 := by
  match xs with
  | [] => rw [runU] at h; exact absurd (Option.some.inj h) h0
  | b :: bs =>
    rw [runU] at h
    split at h
    · rename_i hs
      obtain ⟨h1, h2, h3⟩ := hu b hs
      rw [h3] at h
      exact ⟨b, bs, rfl, h1, h2, h⟩
    · cases h
theorem step_one {u : Nat} {lo hi : Int} {v : Int} (e : utfTab.getD u [] = [(lo, hi, v)]) (b : Int) (h : (stepU u b).2 = true) : lo ≤ b ∧ b ≤ hi ∧ (stepU u b).1 = v := by
  unfold stepU at h ⊢
  rw [e] at h ⊢
  by_cases hb : lo ≤ b ∧ b ≤ hi
  · exact ⟨hb.1, hb.2, by simp [stepIn, goesOn, hb.1, hb.2]⟩
  · have : (decide (lo ≤ b) && decide (b ≤ hi)) = false := by
      rw [Bool.and_eq_false_iff]
      rcases Classical.not_and_iff_not_or_not.1 hb with h | h
      · exact .inl (decide_eq_false h)
      · exact .inr (decide_eq_false h)
    simp [stepIn, goesOn, this] at h
theorem run1 {xs : List Int} (h : runU 1 xs = some 0) : ∃ b bs, xs = b :: bs ∧ (128 : Int) ≤ b ∧ b ≤ 191 ∧ runU 0 bs = some 0 := run_state (v := 0) (step_one rfl) (by decide) h
theorem run2 {xs : List Int} (h : runU 2 xs = some 0) : ∃ b bs, xs = b :: bs ∧ (128 : Int) ≤ b ∧ b ≤ 191 ∧ runU 1 bs = some 0 := run_state (v := 1) (step_one rfl) (by decide) h
theorem run3 {xs : List Int} (h : runU 3 xs = some 0) : ∃ b bs, xs = b :: bs ∧ (128 : Int) ≤ b ∧ b ≤ 191 ∧ runU 2 bs = some 0 := run_state (v := 2) (step_one rfl) (by decide) h
theorem run4 {xs : List Int} (h : runU 4 xs = some 0) : ∃ b bs, xs = b :: bs ∧ (160 : Int) ≤ b ∧ b ≤ 191 ∧ runU 1 bs = some 0 := run_state (v := 1) (step_one rfl) (by decide) h
theorem run5 {xs : List Int} (h : runU 5 xs = some 0) : ∃ b bs, xs = b :: bs ∧ (128 : Int) ≤ b ∧ b ≤ 159 ∧ runU 1 bs = some 0 := run_state (v := 1) (step_one rfl) (by decide) h
theorem run6 {xs : List Int} (h : runU 6 xs = some 0) : ∃ b bs, xs = b :: bs ∧ (144 : Int) ≤ b ∧ b ≤ 191 ∧ runU 2 bs = some 0 := run_state (v := 2) (step_one rfl) (by decide) h
theorem run7 {xs : List Int} (h : runU 7 xs = some 0) : ∃ b bs, xs = b :: bs ∧ (128 : Int) ≤ b ∧ b ≤ 143 ∧ runU 2 bs = some 0 := run_state (v := 2) (step_one rfl) (by decide) h
/-- A whole sequence ahead. -/
theorem run_whole {b0 : Int} {xs : List Int} (h0 : 0 ≤ b0 ∧ b0 ≤ 255) (h : runU 0 (b0 :: xs) = some 0) :
    (b0 ≤ 127 ∧ runU 0 xs = some 0) ∨
    (∃ b1 ys, xs = b1 :: ys ∧ 194 ≤ b0 ∧ b0 ≤ 223 ∧ 128 ≤ b1 ∧ b1 ≤ 191 ∧ runU 0 ys = some 0) ∨
    (∃ b1 b2 ys, xs = b1 :: b2 :: ys ∧ 224 ≤ b0 ∧ b0 ≤ 239 ∧ 128 ≤ b1 ∧ b1 ≤ 191 ∧ (b0 = 224 → 160 ≤ b1) ∧ (b0 = 237 → b1 ≤ 159) ∧ 128 ≤ b2 ∧ b2 ≤ 191 ∧ runU 0 ys = some 0) ∨
    (∃ b1 b2 b3 ys, xs = b1 :: b2 :: b3 :: ys ∧ 240 ≤ b0 ∧ b0 ≤ 244 ∧ 128 ≤ b1 ∧ b1 ≤ 191 ∧ (b0 = 240 → 144 ≤ b1) ∧ (b0 = 244 → b1 ≤ 143) ∧ 128 ≤ b2 ∧ b2 ≤ 191 ∧ 128 ≤ b3 ∧ b3 ≤ 191 ∧ runU 0 ys = some 0) := by
  rw [runU] at h
  split at h
  rotate_left
  · cases h
  rename_i hs
  have hcase : (b0 ≤ 127 ∧ (stepU 0 b0).1 = 0) ∨ (194 ≤ b0 ∧ b0 ≤ 223 ∧ (stepU 0 b0).1 = 1) ∨ (b0 = 224 ∧ (stepU 0 b0).1 = 4) ∨ (b0 = 237 ∧ (stepU 0 b0).1 = 5) ∨ (225 ≤ b0 ∧ b0 ≤ 239 ∧ b0 ≠ 237 ∧ (stepU 0 b0).1 = 2) ∨ (b0 = 240 ∧ (stepU 0 b0).1 = 6) ∨ (b0 = 244 ∧ (stepU 0 b0).1 = 7) ∨ (241 ≤ b0 ∧ b0 ≤ 243 ∧ (stepU 0 b0).1 = 3) := by
    have k1 : ∀ n : Nat, n < 256 → (stepU 0 (n : Int)).2 = true → (n ≤ 127 ∨ 194 ≤ n) ∧ n ≤ 244 := by decide +kernel
    have k2 : ∀ n : Nat, n < 256 → (stepU 0 (n : Int)).2 = true → (stepU 0 (n : Int)).1 = if n ≤ 127 then 0 else if n ≤ 223 then 1 else if n = 224 then 4 else if n = 237 then 5 else if n ≤ 239 then 2 else if n = 240 then 6 else if n ≤ 243 then 3 else 7 := by decide +kernel
    have l1 := k1 b0.toNat (by omega)
    have l2 := k2 b0.toNat (by omega)
    rw [Int.toNat_of_nonneg h0.1] at l1 l2
    have m1 := l1 hs
    have m2 := l2 hs
    clear l1 l2 k1 k2
    rw [m2]
    clear m2
    split
    · exact .inl ⟨by omega, rfl⟩
    split
    · exact .inr (.inl ⟨by omega, by omega, rfl⟩)
    split
    · exact .inr (.inr (.inl ⟨by omega, rfl⟩))
    split
    · exact .inr (.inr (.inr (.inl ⟨by omega, rfl⟩)))
    split
    · exact .inr (.inr (.inr (.inr (.inl ⟨by omega, by omega, by omega, rfl⟩))))
    split
    · exact .inr (.inr (.inr (.inr (.inr (.inl ⟨by omega, rfl⟩)))))
    split
    · exact .inr (.inr (.inr (.inr (.inr (.inr (.inr ⟨by omega, by omega, rfl⟩))))))
    · exact .inr (.inr (.inr (.inr (.inr (.inr (.inl ⟨by omega, rfl⟩))))))
  rcases hcase with ⟨a, e⟩ | ⟨a, a2, e⟩ | ⟨a, e⟩ | ⟨a, e⟩ | ⟨a, a2, a3, e⟩ | ⟨a, e⟩ | ⟨a, e⟩ | ⟨a, a2, e⟩ <;> rw [e] at h
  · exact .inl ⟨a, h⟩
  · obtain ⟨b1, ys, rfl, c1, c2, r1⟩ := run1 h
    exact .inr (.inl ⟨b1, ys, rfl, a, a2, c1, c2, r1⟩)
  · obtain ⟨b1, ys, rfl, c1, c2, r1⟩ := run4 h
    obtain ⟨b2, zs, rfl, d1, d2, r2⟩ := run1 r1
    exact .inr (.inr (.inl ⟨b1, b2, zs, rfl, by omega, by omega, by omega, c2, fun _ => c1, by omega, d1, d2, r2⟩))
  · obtain ⟨b1, ys, rfl, c1, c2, r1⟩ := run5 h
    obtain ⟨b2, zs, rfl, d1, d2, r2⟩ := run1 r1
    exact .inr (.inr (.inl ⟨b1, b2, zs, rfl, by omega, by omega, c1, by omega, by omega, fun _ => c2, d1, d2, r2⟩))
  · obtain ⟨b1, ys, rfl, c1, c2, r1⟩ := run2 h
    obtain ⟨b2, zs, rfl, d1, d2, r2⟩ := run1 r1
    exact .inr (.inr (.inl ⟨b1, b2, zs, rfl, by omega, by omega, c1, c2, by omega, by omega, d1, d2, r2⟩))
  · obtain ⟨b1, ys, rfl, c1, c2, r1⟩ := run6 h
    obtain ⟨b2, zs, rfl, d1, d2, r2⟩ := run2 r1
    obtain ⟨b3, us, rfl, f1, f2, r3⟩ := run1 r2
    exact .inr (.inr (.inr ⟨b1, b2, b3, us, rfl, by omega, by omega, by omega, c2, fun _ => c1, by omega, d1, d2, f1, f2, r3⟩))
  · obtain ⟨b1, ys, rfl, c1, c2, r1⟩ := run7 h
    obtain ⟨b2, zs, rfl, d1, d2, r2⟩ := run2 r1
    obtain ⟨b3, us, rfl, f1, f2, r3⟩ := run1 r2
    exact .inr (.inr (.inr ⟨b1, b2, b3, us, rfl, by omega, by omega, c1, by omega, by omega, fun _ => c2, d1, d2, f1, f2, r3⟩))
  · obtain ⟨b1, ys, rfl, c1, c2, r1⟩ := run3 h
    obtain ⟨b2, zs, rfl, d1, d2, r2⟩ := run2 r1
    obtain ⟨b3, us, rfl, f1, f2, r3⟩ := run1 r2
    exact .inr (.inr (.inr ⟨b1, b2, b3, us, rfl, by omega, by omega, c1, c2, by omega, by omega, d1, d2, f1, f2, r3⟩))
/-- Size of a text that begins with a whole sequence. -/
theorem size_whole (s : ByteArray) (k : Nat) (hk : 5 ≤ k) (hne : Top.bytesOf s ≠ []) (h : runU 0 (Top.bytesOf s) = some 0) :
    ∃ n : Nat, 0 < n ∧ n ≤ s.size ∧ XOther.quillpenref02_Size.f k s = some (n : Int) ∧ runU 0 ((Top.bytesOf s).drop n) = some 0 := by
  obtain ⟨k, rfl⟩ : ∃ j, k = j + 5 := ⟨k - 5, by omega⟩
  have hs := bytesOf_len s
  have h8 := bytesOf_8 s
  have g0 := bt_get s 0
  have g1 := bt_get s 1
  have g2 := bt_get s 2
  have g3 := bt_get s 3
  have hc1 : XOther.quillpenref02_Size.c s ((1 : Nat) : Int) = wrap64 (bt s 0) := by
    unfold XOther.quillpenref02_Size.c XOther.quillpenref02_Size.b XOther.quillpenref02_Size.a
    rw [if_neg (by decide), if_neg (by decide), if_neg (by decide)]
  have hc2 : XOther.quillpenref02_Size.c s ((2 : Nat) : Int) = (wrap64 ((wrap64 ((wrap64 ((wrap64 ((wrap64 (bt s 0)) - 192)) * 64)) + (wrap64 (bt s 1)))) - 128)) := by
    unfold XOther.quillpenref02_Size.c XOther.quillpenref02_Size.b XOther.quillpenref02_Size.a
    rw [if_neg (by decide), if_neg (by decide), if_pos (by decide)]
  have hc3 : XOther.quillpenref02_Size.c s ((3 : Nat) : Int) = (wrap64 ((wrap64 ((wrap64 ((wrap64 ((wrap64 ((wrap64 (bt s 0)) - 224)) * 4096)) + (wrap64 ((wrap64 ((wrap64 (bt s 1)) - 128)) * 64)))) + (wrap64 (bt s 2)))) - 128)) := by
    unfold XOther.quillpenref02_Size.c XOther.quillpenref02_Size.b
    rw [if_neg (by decide), if_pos (by decide)]
  have hc4 : XOther.quillpenref02_Size.c s ((4 : Nat) : Int) = (wrap64 ((wrap64 ((wrap64 ((wrap64 ((wrap64 ((wrap64 ((wrap64 (bt s 0)) - 240)) * 262144)) + (wrap64 ((wrap64 ((wrap64 (bt s 1)) - 128)) * 4096)))) + (wrap64 ((wrap64 ((wrap64 (bt s 2)) - 128)) * 64)))) + (wrap64 (bt s 3)))) - 128)) := by
    unfold XOther.quillpenref02_Size.c
    rw [if_pos (by decide)]
  have hf : ∀ j, XOther.quillpenref02_Size.f j s = XOther.quillpenref02_Size.l0 j s ((1 : Nat) : Int) := fun j => rfl
  rw [hf]
  match hb : Top.bytesOf s, hne, h with
  | b0 :: xs, _, h =>
    rw [hb] at g0 g1 g2 g3 hs h8
    have e0 : bt s 0 = b0 := g0
    have q0 := h8 b0 (List.mem_cons_self ..)
    rw [e0] at hc1 hc2 hc3 hc4
    rcases run_whole q0 h with ⟨a, r⟩ | ⟨b1, ys, rfl, a1, a2, a3, a4, r⟩ | ⟨b1, b2, ys, rfl, a1, a2, a3, a4, a5, a6, a7, a8, r⟩ | ⟨b1, b2, b3, ys, rfl, a1, a2, a3, a4, a5, a6, a7, a8, a9, a10, r⟩
    · refine ⟨1, by decide, by simp only [List.length_cons] at hs; omega, ?_, r⟩
      rw [wrap_id (by omega) (by omega)] at hc1
      exact size_hit (by decide) (by rw [hb]; simp) hc1 ⟨by omega, by omega, by omega⟩ (put1 q0.1 (by omega)) (by rw [hb]; rfl)
    · have e1 : bt s 1 = b1 := g1
      rw [e1] at hc2
      rw [wrap_id (by omega) (by omega)] at hc1
      rw [show (wrap64 ((wrap64 ((wrap64 ((wrap64 ((wrap64 b0) - 192)) * 64)) + (wrap64 b1))) - 128)) = (b0 - 192) * 64 + b1 - 128 by unfold wrap64; omega] at hc2
      refine ⟨2, by decide, by simp only [List.length_cons] at hs; omega, ?_, r⟩
      rw [size_on (by decide) (by rw [hb]; simp) hc1 ⟨by omega, by omega, by omega⟩ (put2 (by omega) (by omega)) (by simp)]
      exact size_hit (by decide) (by rw [hb]; simp) hc2 ⟨by omega, by omega, by omega⟩ (put2 (by omega) (by omega)) (by
        rw [hb]
        show _ = [b0, b1]
        rw [show 192 + ((b0 - 192) * 64 + b1 - 128) / 64 = b0 by omega, show 128 + ((b0 - 192) * 64 + b1 - 128) % 64 = b1 by omega])
    · have e1 : bt s 1 = b1 := g1
      have e2 : bt s 2 = b2 := g2
      rw [e1] at hc2
      rw [e1, e2] at hc3
      rw [wrap_id (by omega) (by omega)] at hc1
      rw [show (wrap64 ((wrap64 ((wrap64 ((wrap64 ((wrap64 b0) - 192)) * 64)) + (wrap64 b1))) - 128)) = (b0 - 192) * 64 + b1 - 128 by unfold wrap64; omega] at hc2
      rw [show (wrap64 ((wrap64 ((wrap64 ((wrap64 ((wrap64 ((wrap64 b0) - 224)) * 4096)) + (wrap64 ((wrap64 ((wrap64 b1) - 128)) * 64)))) + (wrap64 b2))) - 128)) = (b0 - 224) * 4096 + (b1 - 128) * 64 + b2 - 128 by unfold wrap64; omega] at hc3
      refine ⟨3, by decide, by simp only [List.length_cons] at hs; omega, ?_, r⟩
      rw [size_on (by decide) (by rw [hb]; simp) hc1 ⟨by omega, by omega, by omega⟩ (put2 (by omega) (by omega)) (by simp)]
      rw [size_on (by decide) (by rw [hb]; simp) hc2 ⟨by omega, by omega, by omega⟩ (put3 (by omega) (by omega)) (by simp)]
      exact size_hit (by decide) (by rw [hb]; simp) hc3 ⟨by omega, by omega, by omega⟩ (put3 (by omega) (by omega)) (by
        rw [hb]
        show _ = [b0, b1, b2]
        rw [show 224 + ((b0 - 224) * 4096 + (b1 - 128) * 64 + b2 - 128) / 4096 = b0 by omega, show 128 + ((b0 - 224) * 4096 + (b1 - 128) * 64 + b2 - 128) / 64 % 64 = b1 by omega, show 128 + ((b0 - 224) * 4096 + (b1 - 128) * 64 + b2 - 128) % 64 = b2 by omega])
    · have e1 : bt s 1 = b1 := g1
      have e2 : bt s 2 = b2 := g2
      have e3 : bt s 3 = b3 := g3
      rw [e1] at hc2
      rw [e1, e2] at hc3
      rw [e1, e2, e3] at hc4
      rw [wrap_id (by omega) (by omega)] at hc1
      rw [show (wrap64 ((wrap64 ((wrap64 ((wrap64 ((wrap64 b0) - 192)) * 64)) + (wrap64 b1))) - 128)) = (b0 - 192) * 64 + b1 - 128 by unfold wrap64; omega] at hc2
      rw [show (wrap64 ((wrap64 ((wrap64 ((wrap64 ((wrap64 ((wrap64 b0) - 224)) * 4096)) + (wrap64 ((wrap64 ((wrap64 b1) - 128)) * 64)))) + (wrap64 b2))) - 128)) = (b0 - 224) * 4096 + (b1 - 128) * 64 + b2 - 128 by unfold wrap64; omega] at hc3
      rw [show (wrap64 ((wrap64 ((wrap64 ((wrap64 ((wrap64 ((wrap64 ((wrap64 b0) - 240)) * 262144)) + (wrap64 ((wrap64 ((wrap64 b1) - 128)) * 4096)))) + (wrap64 ((wrap64 ((wrap64 b2) - 128)) * 64)))) + (wrap64 b3))) - 128)) = (b0 - 240) * 262144 + (b1 - 128) * 4096 + (b2 - 128) * 64 + b3 - 128 by unfold wrap64; omega] at hc4
      refine ⟨4, by decide, by simp only [List.length_cons] at hs; omega, ?_, r⟩
      rw [size_on (by decide) (by rw [hb]; simp) hc1 ⟨by omega, by omega, by omega⟩ (put2 (by omega) (by omega)) (by simp)]
      rw [size_on (by decide) (by rw [hb]; simp) hc2 ⟨by omega, by omega, by omega⟩ (put3 (by omega) (by omega)) (by simp)]
      rw [size_on (by decide) (by rw [hb]; simp) hc3 ⟨by omega, by omega, by omega⟩ (put4 (by omega) (by omega)) (by simp)]
      exact size_hit (by decide) (by rw [hb]; simp) hc4 ⟨by omega, by omega, by omega⟩ (put4 (by omega) (by omega)) (by
        rw [hb]
        show _ = [b0, b1, b2, b3]
        rw [show 240 + ((b0 - 240) * 262144 + (b1 - 128) * 4096 + (b2 - 128) * 64 + b3 - 128) / 262144 = b0 by omega, show 128 + ((b0 - 240) * 262144 + (b1 - 128) * 4096 + (b2 - 128) * 64 + b3 - 128) / 4096 % 64 = b1 by omega, show 128 + ((b0 - 240) * 262144 + (b1 - 128) * 4096 + (b2 - 128) * 64 + b3 - 128) / 64 % 64 = b2 by omega, show 128 + ((b0 - 240) * 262144 + (b1 - 128) * 4096 + (b2 - 128) * 64 + b3 - 128) % 64 = b3 by omega])
end Go.Proofs.YtmignbhpofmgeaaDoor.Top
namespace Go.Proofs.YtmignbhpofmgeaaDoor.Top
open Go.RowKit Go.Proofs.YtmignbhpofmgeaaDoorW.PrintWords Go.Proofs.YtmignbhpofmgeaaDoorW.PrintLast Go.Proofs.YtmignbhpofmgeaaDoorW.PrintMore Go.Proofs.YtmignbhpofmgeaaDoor.Iter
set_option linter.unusedVariables false
set_option linter.unusedSimpArgs false
open XTopOther
/-- The whole text is whole. -/
theorem whole_l0 (s : ByteArray) (hs : s.size ≤ 10000) : ∀ (m i k : Nat), s.size ≤ i + m → i ≤ s.size → runU 0 ((Top.bytesOf s).drop i) = some 0 → m + 6 ≤ k → quillpenref02_Whole.l0 k s (i : Int) = some (s.size : Int) := by
  intro m
  induction m with
  | zero =>
    intro i k h1 h2 h hk
    obtain ⟨k, rfl⟩ : ∃ j, k = j + 1 := ⟨k - 1, by omega⟩
    rw [quillpenref02_Whole.l0, if_neg (by omega), show i = s.size by omega]
  | succ m ih =>
    intro i k h1 h2 h hk
    obtain ⟨k, rfl⟩ : ∃ j, k = j + 1 := ⟨k - 1, by omega⟩
    by_cases hi : i = s.size
    · rw [quillpenref02_Whole.l0, if_neg (by omega), hi]
    · have hl := bytesOf_len s
      have eb : Top.bytesOf (s.extract i s.size) = (Top.bytesOf s).drop i := by
        rw [extract_bytes, List.take_of_length_le (by omega)]
      obtain ⟨n, n0, n1, n2, n3⟩ := size_whole (s.extract i s.size) k (by omega) (by rw [eb]; intro e; have := congrArg List.length e; simp at this; omega) (by rw [eb]; exact h)
      have n2' : quillpenref02_Size.f k (s.extract i s.size) = some (n : Int) := n2
      have hn : i + n ≤ s.size := by rw [← bytesOf_len, eb, List.length_drop] at n1; omega
      rw [quillpenref02_Whole.l0, if_pos (by omega), if_pos (by omega), if_pos (by omega), Int.toNat_natCast, n2', Option.bind_some, if_pos (by omega), Option.bind_some, wrap_id (by omega) (by omega), show (i : Int) + (n : Int) = ((i + n : Nat) : Int) by omega]
      exact ih (i + n) k (by omega) hn (by rw [eb, List.drop_drop] at n3; exact n3) (by omega)
theorem whole_f (s : ByteArray) (hs : s.size ≤ 10000) (h : runU 0 (Top.bytesOf s) = some 0) (k : Nat) (hk : 10006 ≤ k) : quillpenref02_Whole.f k s = some (s.size : Int) :=
  whole_l0 s hs s.size 0 k (by omega) (by omega) (by simpa using h) (by omega)
theorem rd_get {r : List ByteArray} {i : Nat} (h : i < r.length) : rdOf ByteArray.empty r (i : Int) = r[i] := by
  unfold rdOf
  rw [Int.toNat_natCast, List.getD_eq_getElem?_getD, List.getElem?_eq_getElem h]; rfl
theorem rd2_get {r : List (List ByteArray)} {i : Nat} (h : i < r.length) : rd_L2 r (i : Int) = r[i] := by
  unfold rd_L2
  rw [Int.toNat_natCast, List.getD_eq_getElem?_getD, List.getElem?_eq_getElem h]; rfl
/-- Small records. -/
def LowR (r : List ByteArray) : Prop := r.length ≤ 10000 ∧ ∀ x ∈ r, x.size ≤ 10000
theorem may_l0 (r : List ByteArray) (h : OkR r) (hl : LowR r) : ∀ (d i k : Nat), i + d = r.length → d + 10008 ≤ k → quillpenref10_May.l0 k r (r.length : Int) (i : Int) = some 0 := by
  have hr := hl.1
  intro d
  induction d with
  | zero =>
    intro i k hi hk
    obtain ⟨k, rfl⟩ : ∃ j, k = j + 1 := ⟨k - 1, by omega⟩
    rw [quillpenref10_May.l0, if_neg (by omega)]
  | succ d ih =>
    intro i k hi hk
    obtain ⟨k, rfl⟩ : ∃ j, k = j + 1 := ⟨k - 1, by omega⟩
    have hlt : i < r.length := by omega
    have hm : r[i] ∈ r := List.getElem_mem hlt
    rw [quillpenref10_May.l0, if_pos (by omega), if_pos (by omega), if_pos (by omega), rd_get hlt, whole_f _ (hl.2 _ hm) (h _ hm) k (by omega), Option.bind_some, if_neg (by omega), wrap_id (by omega) (by omega), show (i : Int) + 1 = ((i + 1 : Nat) : Int) by omega]
    exact ih (i + 1) k (by omega) (by omega)
theorem may_f (r : List ByteArray) (h : OkR r) (hn : r ≠ []) (hl : LowR r) (k : Nat) (hk : 20010 ≤ k) : quillpenref10_May.f k r = some 0 := by
  have hr := hl.1
  have : 0 < r.length := List.length_pos_iff.2 hn
  unfold quillpenref10_May.f
  rw [if_neg (by omega)]
  exact may_l0 r h hl r.length 0 k (by omega) (by omega)
def LowT (t : List (List ByteArray)) : Prop := t.length ≤ 10000 ∧ ∀ r ∈ t, LowR r
theorem front_l0 (t : List (List ByteArray)) (h : OkT t) (hl : LowT t) : ∀ (d i k : Nat), i + d = t.length → d + 20012 ≤ k → quillpenref10_Front.l0 k t t (t.length : Int) (i : Int) = some (t.length : Int) := by
  have hr := hl.1
  intro d
  induction d with
  | zero =>
    intro i k hi hk
    obtain ⟨k, rfl⟩ : ∃ j, k = j + 1 := ⟨k - 1, by omega⟩
    rw [quillpenref10_Front.l0, if_neg (by omega)]
  | succ d ih =>
    intro i k hi hk
    obtain ⟨k, rfl⟩ : ∃ j, k = j + 1 := ⟨k - 1, by omega⟩
    have hlt : i < t.length := by omega
    have hm : t[i] ∈ t := List.getElem_mem hlt
    rw [quillpenref10_Front.l0, if_pos (by omega), if_pos (by omega), if_pos (by omega), rd2_get hlt, may_f _ (h _ hm).2 (h _ hm).1 (hl.2 _ hm) k (by omega), Option.bind_some, if_pos rfl, wrap_id (by omega) (by omega), show (i : Int) + 1 = ((i + 1 : Nat) : Int) by omega]
    exact ih (i + 1) k (by omega) (by omega)
theorem front_f (t : List (List ByteArray)) (h : OkT t) (hl : LowT t) (k : Nat) (hk : 30020 ≤ k) : quillpenref10_Front.f k t = some (t.length : Int) := by
  have := hl.1
  exact front_l0 t h hl t.length 0 k (by omega) (by omega)
theorem bt_range (s : ByteArray) (i : Int) : 0 ≤ bt s i ∧ bt s i ≤ 255 := by
  unfold bt
  split
  · rename_i h
    have := (s[i.toNat]'h).toNat_lt
    omega
  · omega
theorem drop_bytes {s : ByteArray} {i : Nat} (h : i < s.size) : (Top.bytesOf s).drop i = bt s (i : Int) :: (Top.bytesOf s).drop (i + 1) := by
  have hl := bytesOf_len s
  rw [List.drop_eq_getElem_cons (by omega), bt_get, List.getD_eq_getElem?_getD, List.getElem?_eq_getElem (by omega)]
  rfl
theorem has_l0 (s : ByteArray) (b : Int) (hs : s.size ≤ 10000) : ∀ (d i k : Nat), i + d = s.size → d + 1 ≤ k → quillpenref08_Has.l0 k s b (i : Int) = some (((Top.bytesOf s).drop i).contains b) := by
  have hl := bytesOf_len s
  intro d
  induction d with
  | zero =>
    intro i k hi hk
    obtain ⟨k, rfl⟩ : ∃ j, k = j + 1 := ⟨k - 1, by omega⟩
    rw [quillpenref08_Has.l0, if_neg (by omega), List.drop_eq_nil_of_le (by omega)]
    rfl
  | succ d ih =>
    intro i k hi hk
    obtain ⟨k, rfl⟩ : ∃ j, k = j + 1 := ⟨k - 1, by omega⟩
    have hb := bt_range s (i : Int)
    rw [quillpenref08_Has.l0, if_pos (by omega), if_pos (by omega), wrap_id (by omega) (by omega), drop_bytes (by omega)]
    by_cases e : bt s (i : Int) = b
    · rw [if_pos e]
      simp [e]
    · rw [if_neg e, wrap_id (by omega) (by omega), show (i : Int) + 1 = ((i + 1 : Nat) : Int) by omega, ih (i + 1) k (by omega) (by omega)]
      have e' : ¬ b = bt s (i : Int) := fun h => e h.symm
      simp [e']
theorem has_f (s : ByteArray) (b : Int) (hs : s.size ≤ 10000) (k : Nat) (hk : 10001 ≤ k) : quillpenref08_Has.f k s b = some ((Top.bytesOf s).contains b) := by
  have := has_l0 s b hs s.size 0 k (by omega) (by omega)
  rwa [List.drop_zero] at this
theorem has3_f (s : ByteArray) : quillpenref03_Has.f s 3 = some (bomMark.isPrefixOf (Top.bytesOf s)) := by
  have hl := bytesOf_len s
  show XOther.quillpenref03_Has.f s 3 = _
  unfold XOther.quillpenref03_Has.f
  rw [if_pos rfl]
  have e0 : bt s 0 = (Top.bytesOf s).getD 0 0 := bt_get s 0
  have e1 : bt s 1 = (Top.bytesOf s).getD 1 0 := bt_get s 1
  have e2 : bt s 2 = (Top.bytesOf s).getD 2 0 := bt_get s 2
  rw [e0, e1, e2, ← hl]
  congr 1
  match Top.bytesOf s with
  | [] => simp [bomMark, List.isPrefixOf]
  | [a] => simp [bomMark, List.isPrefixOf]
  | [a, b] => simp [bomMark, List.isPrefixOf]
  | a :: b :: c :: l =>
    simp [bomMark, List.isPrefixOf, Bool.beq_eq_decide_eq, eq_comm]
def oneI (b : Bool) : Int := if b = true then 1 else 0
theorem one_f (b : Bool) : quillpenref10_one.f b = some (oneI b) := by cases b <;> rfl
theorem why_f (de qu en : Int) (f : ByteArray) (alone first : Bool) (hs : f.size ≤ 10000) (k : Nat) (hk : 10010 ≤ k) : ∃ w, quillpenref08_Why.f k de qu en f (oneI alone) (oneI first) = some w ∧ (w > 0 ↔ whyB de qu alone first (Top.bytesOf f) = true) := by
  have hl := bytesOf_len f
  unfold quillpenref08_Why.f
  rw [has_f f de hs k (by omega), has_f f qu hs k (by omega), has_f f 13 hs k (by omega), has_f f 10 hs k (by omega)]
  simp only [Option.bind_some]
  unfold whyB
  cases h1 : (Top.bytesOf f).contains de with
  | true => exact ⟨1, by simp, by simp⟩
  | false =>
    cases h2 : (Top.bytesOf f).contains qu with
    | true => exact ⟨2, by simp, by simp⟩
    | false =>
      have hj : ∀ b : Bool, ∃ w, quillpenref08_Why.j0 k f (oneI alone) (oneI first) b = some w ∧ (w > 0 ↔ (b || (Top.bytesOf f).isEmpty && alone || first && bomMark.isPrefixOf (Top.bytesOf f)) = true) := by
        intro b
        obtain ⟨k, rfl⟩ : ∃ j, k = j + 2 := ⟨k - 2, by omega⟩
        cases b with
        | true => exact ⟨3, by rw [quillpenref08_Why.j0, if_pos rfl], by simp⟩
        | false =>
          rw [quillpenref08_Why.j0, if_neg (by decide)]
          have hj1 : ∀ b : Bool, ∃ w, quillpenref08_Why.j1 (k + 1) f (oneI first) b = some w ∧ (w > 0 ↔ (b || first && bomMark.isPrefixOf (Top.bytesOf f)) = true) := by
            intro b
            cases b with
            | true => exact ⟨4, by rw [quillpenref08_Why.j1, if_pos rfl], by simp⟩
            | false =>
              rw [quillpenref08_Why.j1, if_neg (by decide), has3_f, Option.bind_some]
              cases first with
              | false => exact ⟨0, by rw [if_neg (by decide)], by simp⟩
              | true =>
                rw [if_pos (by rfl)]
                cases bomMark.isPrefixOf (Top.bytesOf f) with
                | true => exact ⟨5, by rw [if_pos rfl], by simp⟩
                | false => exact ⟨0, by rw [if_neg (by decide)], by simp⟩
          by_cases h0 : (f.size : Int) = 0
          · rw [if_pos h0]
            have e : (Top.bytesOf f).isEmpty = true := by rw [List.isEmpty_iff_length_eq_zero]; omega
            obtain ⟨w, h3, h4⟩ := hj1 (oneI alone == 1)
            refine ⟨w, h3, h4.trans ?_⟩
            rw [e]
            cases alone <;> simp [oneI]
          · rw [if_neg h0]
            have e : (Top.bytesOf f).isEmpty = false := by
              cases hx : (Top.bytesOf f).isEmpty with
              | false => rfl
              | true => rw [List.isEmpty_iff_length_eq_zero] at hx; omega
            obtain ⟨w, h3, h4⟩ := hj1 false
            refine ⟨w, h3, h4.trans ?_⟩
            rw [e]
            simp
      cases h3 : (Top.bytesOf f).contains 13 with
      | true =>
        obtain ⟨w, h4, h5⟩ := hj true
        exact ⟨w, by simpa using h4, h5.trans (by simp)⟩
      | false =>
        obtain ⟨w, h4, h5⟩ := hj ((Top.bytesOf f).contains 10)
        exact ⟨w, by simpa using h4, h5.trans (by simp)⟩
end Go.Proofs.YtmignbhpofmgeaaDoor.Top
namespace Go.Proofs.YtmignbhpofmgeaaDoor.Top
open Go.RowKit Go.Proofs.YtmignbhpofmgeaaDoorW.PrintWords Go.Proofs.YtmignbhpofmgeaaDoorW.PrintLast Go.Proofs.YtmignbhpofmgeaaDoorW.PrintMore Go.Proofs.YtmignbhpofmgeaaDoor.Iter
set_option linter.unusedVariables false
set_option linter.unusedSimpArgs false
open XTopOther
theorem size_bytes {x : ByteArray} {l : List Int} (h : Top.bytesOf x = l) : x.size = l.length := by rw [← h, bytesOf_len]
theorem dup_len (qu : Int) : ∀ (f : List Int), (dupB qu f).length ≤ 2 * f.length
  | [] => Nat.le_refl _
  | b :: bs => by
    have ih := dup_len qu bs
    by_cases hb : b = qu
    · have e : dupB qu (b :: bs) = qu :: b :: dupB qu bs := by simp [dupB, hb]
      rw [e]; simp only [List.length_cons]; omega
    · have e : dupB qu (b :: bs) = b :: dupB qu bs := by simp [dupB, hb]
      rw [e]; simp only [List.length_cons]; omega
theorem quoted_l0 (s q : ByteArray) (de qu en : Int) (hq : Top.bytesOf q = [qu]) (hs : s.size ≤ 10000) : ∀ (d i k : Nat) (acc : ByteArray), i + d = s.size → d + 1 ≤ k → acc.size ≤ 1000000 + 2 * i →
    ∃ y, quillpenref09_Quoted.l0 k s q acc (i : Int) de qu en = some y ∧ Top.bytesOf y = Top.bytesOf acc ++ (dupB qu ((Top.bytesOf s).drop i) ++ [qu]) := by
  have hl := bytesOf_len s
  have hqs : q.size = 1 := size_bytes hq
  intro d
  induction d with
  | zero =>
    intro i k acc hi hk ha
    obtain ⟨k, rfl⟩ : ∃ j, k = j + 1 := ⟨k - 1, by omega⟩
    refine ⟨acc ++ q, ?_, ?_⟩
    · rw [quillpenref09_Quoted.l0, if_neg (by omega), if_pos (by omega)]
    · rw [bytesOf_app, hq, List.drop_eq_nil_of_le (by omega)]; rfl
  | succ d ih =>
    intro i k acc hi hk ha
    obtain ⟨k, rfl⟩ : ∃ j, k = j + 1 := ⟨k - 1, by omega⟩
    have hb := bt_range s (i : Int)
    have hw : wrap64 ((i : Int) + 1) = ((i + 1 : Nat) : Int) := by rw [wrap_id (by omega) (by omega)]; omega
    have hx : Top.bytesOf (s.extract i (i + 1)) = [bt s (i : Int)] := by
      rw [extract_bytes, List.drop_take, drop_bytes (by omega), show i + 1 - i = 1 by omega]; rfl
    have hxs : (s.extract i (i + 1)).size = 1 := size_bytes hx
    have hn1 : ((i : Int)).toNat = i := Int.toNat_natCast i
    have hn2 : (((i + 1 : Nat) : Int)).toNat = i + 1 := Int.toNat_natCast (i + 1)
    rw [quillpenref09_Quoted.l0, if_pos (by omega), if_pos (by omega), wrap_id (x := bt s (i : Int)) (by omega) (by omega), hw, hn1, hn2, drop_bytes (by omega : i < s.size)]
    by_cases e : bt s (i : Int) = qu
    · rw [if_pos e, if_pos (by omega), if_pos (by omega), if_pos (by omega), if_pos (by rw [ByteArray.size_append]; omega)]
      obtain ⟨y, y1, y2⟩ := ih (i + 1) k (acc ++ q ++ s.extract i (i + 1)) (by omega) (by omega) (by rw [ByteArray.size_append, ByteArray.size_append]; omega)
      refine ⟨y, y1, ?_⟩
      rw [y2, bytesOf_app, bytesOf_app, hq, hx]
      simp [dupB, e]
    · rw [if_neg e, if_pos (by omega), if_pos (by omega), if_pos (by omega)]
      obtain ⟨y, y1, y2⟩ := ih (i + 1) k (acc ++ s.extract i (i + 1)) (by omega) (by omega) (by rw [ByteArray.size_append]; omega)
      refine ⟨y, y1, ?_⟩
      rw [y2, bytesOf_app, hx]
      simp [dupB, e]
theorem quoted_f (s : ByteArray) (de qu en : Int) (hq : 0 ≤ qu ∧ qu ≤ 127) (hs : s.size ≤ 10000) (k : Nat) (hk : 10001 ≤ k) : ∃ y, quillpenref09_Quoted.f k de qu en s = some y ∧ Top.bytesOf y = quotedB qu (Top.bytesOf s) := by
  have e : qu % 256 = qu := by omega
  have hb : Top.bytesOf (strOfNums [qu]) = [qu] := bytes_strOf (fun b hb => by rw [List.mem_singleton] at hb; omega)
  obtain ⟨y, y1, y2⟩ := quoted_l0 s (strOfNums [qu]) de qu en hb hs s.size 0 k (strOfNums [qu]) (by omega) (by omega) (by rw [size_bytes hb]; simp)
  refine ⟨y, ?_, ?_⟩
  · unfold quillpenref09_Quoted.f
    rw [Option.bind_some, e]
    exact y1
  · rw [y2, hb, List.drop_zero]; rfl
theorem written_f (f : ByteArray) (de qu en : Int) (alone first : Bool) (hq : 0 ≤ qu ∧ qu ≤ 127) (hs : f.size ≤ 10000) (k : Nat) (hk : 10010 ≤ k) : ∃ y, quillpenref09_Written.f k de qu en f (oneI alone) (oneI first) = some y ∧ Top.bytesOf y = writtenB de qu alone first (Top.bytesOf f) := by
  obtain ⟨w, w1, w2⟩ := why_f de qu en f alone first hs k hk
  unfold quillpenref09_Written.f writtenB
  rw [w1, Option.bind_some]
  by_cases h : w > 0
  · rw [if_pos h, if_pos (w2.1 h)]
    obtain ⟨y, y1, y2⟩ := quoted_f f de qu en hq hs k (by omega)
    exact ⟨y, by rw [y1, Option.bind_some], y2⟩
  · rw [if_neg h, if_neg (fun e => h (w2.2 e))]
    exact ⟨f, rfl, rfl⟩
theorem written_len (de qu : Int) (alone first : Bool) (f : List Int) : (writtenB de qu alone first f).length ≤ 2 * f.length + 2 := by
  unfold writtenB
  split
  · have := dup_len qu f
    unfold quotedB
    simp only [List.length_cons, List.length_append, List.length_nil]
    omega
  · omega
theorem end_f (de qu en : Int) : ∃ y, quillpenref01_End.f de qu en = some y ∧ Top.bytesOf y = endB en := by
  unfold quillpenref01_End.f endB
  by_cases h : en = 2
  · rw [if_pos h, if_pos h]; exact ⟨_, rfl, rfl⟩
  · rw [if_neg h, if_neg h]; exact ⟨_, rfl, rfl⟩
theorem end_len (en : Int) : (endB en).length ≤ 2 := by unfold endB; split <;> decide
/-- The fields behind the first one. -/
theorem line_l0 (r : List ByteArray) (hl : LowR r) (de qu en x2 : Int) (hd : 0 ≤ de ∧ de ≤ 127) (hq : 0 ≤ qu ∧ qu ≤ 127) : ∀ (d i k : Nat) (acc : ByteArray), 1 ≤ i → i + d = r.length → d + 10012 ≤ k → acc.size ≤ 30000 * (i + 1) →
    ∃ y, quillpenref10_Line.l0 k r x2 acc r (r.length : Int) (i : Int) de qu en = some y ∧ Top.bytesOf y = Top.bytesOf acc ++ (restB de qu ((r.map Top.bytesOf).drop i) ++ endB en) := by
  have hr := hl.1
  intro d
  induction d with
  | zero =>
    intro i k acc h1 hi hk ha
    obtain ⟨k, rfl⟩ : ∃ j, k = j + 1 := ⟨k - 1, by omega⟩
    obtain ⟨y, y1, y2⟩ := end_f de qu en
    have hy := size_bytes y2
    have he := end_len en
    refine ⟨acc ++ y, ?_, ?_⟩
    · rw [quillpenref10_Line.l0, if_neg (by omega), y1, Option.bind_some, if_pos (by omega)]
    · rw [bytesOf_app, y2, List.drop_eq_nil_of_le (by rw [List.length_map]; omega)]; rfl
  | succ d ih =>
    intro i k acc h1 hi hk ha
    obtain ⟨k, rfl⟩ : ∃ j, k = j + 1 := ⟨k - 1, by omega⟩
    have hlt : i < r.length := by omega
    have hm : r[i] ∈ r := List.getElem_mem hlt
    have hsz := hl.2 _ hm
    have hb : Top.bytesOf (strOfNums [de % 256]) = [de] := by
      rw [show de % 256 = de by omega]
      exact bytes_strOf (fun b hb => by rw [List.mem_singleton] at hb; omega)
    have hbs : (strOfNums [de % 256]).size = 1 := size_bytes hb
    obtain ⟨y, y1, y2⟩ := written_f r[i] de qu en false false hq hsz k (by omega)
    have hys := size_bytes y2
    have hyl := written_len de qu false false (Top.bytesOf r[i])
    rw [bytesOf_len] at hyl
    have hal : (((r.length : Int)) == 1) = false := by simp; omega
    have hi0 : (((i : Int)) == 0) = false := by simp; omega
    have hdrop : (r.map Top.bytesOf).drop i = Top.bytesOf r[i] :: (r.map Top.bytesOf).drop (i + 1) := by
      rw [List.drop_eq_getElem_cons (by rw [List.length_map]; omega), List.getElem_map]
    obtain ⟨z, z1, z2⟩ := ih (i + 1) k (acc ++ strOfNums [de % 256] ++ y) (by omega) (by omega) (by omega) (by rw [ByteArray.size_append, ByteArray.size_append]; omega)
    refine ⟨z, ?_, ?_⟩
    · rw [quillpenref10_Line.l0, if_pos (by omega), if_pos (by omega), if_pos (by omega), if_pos (by omega), Option.bind_some, if_pos (by omega), hal, one_f, Option.bind_some, hi0, one_f, Option.bind_some, rd_get hlt, y1]
      simp only [Option.bind_some]
      have hg : (acc ++ strOfNums [de % 256]).size + y.size ≤ 9223372036854775807 := by rw [ByteArray.size_append]; omega
      rw [wrap_id (show -1000000000000 ≤ (i : Int) + 1 by omega) (by omega), show (i : Int) + 1 = ((i + 1 : Nat) : Int) by omega, if_pos hg, z1]
      exact ite_self _
    · rw [z2, bytesOf_app, bytesOf_app, hb, y2, hdrop]
      simp [restB]
theorem line_f (r : List ByteArray) (hn : r ≠ []) (hl : LowR r) (de qu en : Int) (first : Bool) (hd : 0 ≤ de ∧ de ≤ 127) (hq : 0 ≤ qu ∧ qu ≤ 127) (k : Nat) (hk : 20020 ≤ k) :
    ∃ y, quillpenref10_Line.f k de qu en r (oneI first) = some y ∧ Top.bytesOf y = lineB de qu en first (r.map Top.bytesOf) := by
  have hr := hl.1
  match r, hn with
  | f :: fs, _ =>
    obtain ⟨k, rfl⟩ : ∃ j, k = j + 1 := ⟨k - 1, by omega⟩
    simp only [List.length_cons] at hr
    have hsz := hl.2 f (List.mem_cons_self ..)
    obtain ⟨y, y1, y2⟩ := written_f f de qu en fs.isEmpty first hq hsz k (by omega)
    have hys := size_bytes y2
    have hyl := written_len de qu fs.isEmpty first (Top.bytesOf f)
    rw [bytesOf_len] at hyl
    have h0 : (⟨#[]⟩ : ByteArray).size = 0 := rfl
    have hal : (((f :: fs).length : Int) == 1) = fs.isEmpty := by
      cases fs with
      | nil => rfl
      | cons g gs => simp only [List.length_cons, List.isEmpty_cons]; simp; omega
    obtain ⟨z, z1, z2⟩ := line_l0 (f :: fs) hl de qu en (oneI first) hd hq fs.length 1 k ((⟨#[]⟩ : ByteArray) ++ y) (by omega) (by simp only [List.length_cons]; omega) (by omega) (by rw [ByteArray.size_append]; omega)
    refine ⟨z, ?_, ?_⟩
    · unfold quillpenref10_Line.f
      rw [quillpenref10_Line.l0, if_pos (by simp only [List.length_cons]; omega), if_pos (by omega), if_pos (by simp only [List.length_cons]; omega), if_neg (by omega), hal, one_f, Option.bind_some, show rdOf ByteArray.empty (f :: fs) (0 : Int) = f from rfl]
      have e0 : ((0 : Int) == 0) = true := rfl
      rw [e0, one_f, one_f, Option.bind_some, Option.bind_some]
      rw [show wrap64 ((0 : Int) + 1) = ((1 : Nat) : Int) from by rw [wrap_id (by omega) (by omega)]; rfl]
      cases first with
      | true =>
        rw [if_pos (by rfl)]
        have y1' : quillpenref09_Written.f k de qu en f (oneI fs.isEmpty) (oneI true) = some y := y1
        rw [y1', Option.bind_some, if_pos (by omega)]
        exact z1
      | false =>
        rw [if_neg (by decide)]
        have y1' : quillpenref09_Written.f k de qu en f (oneI fs.isEmpty) (oneI false) = some y := y1
        rw [y1', Option.bind_some, if_pos (by omega)]
        exact z1
    · rw [z2, bytesOf_app, y2]
      show [] ++ _ ++ _ = _
      rw [List.nil_append, List.map_cons, lineB]
      congr 2
      cases fs <;> rfl
theorem rest_len (de qu : Int) : ∀ (fs : List ByteArray), (restB de qu (fs.map Top.bytesOf)).length ≤ wtR fs
  | [] => Nat.le_refl _
  | f :: fs => by
    have ih := rest_len de qu fs
    have e : restB de qu ((f :: fs).map Top.bytesOf) = de :: (writtenB de qu false false (Top.bytesOf f) ++ restB de qu (fs.map Top.bytesOf)) := by simp [restB]
    have e2 : wtR (f :: fs) = 2 * f.size + 3 + wtR fs := by simp [wtR]
    have hyl := written_len de qu false false (Top.bytesOf f)
    rw [bytesOf_len] at hyl
    rw [e, e2]
    simp only [List.length_cons, List.length_append]
    omega
theorem line_len (de qu en : Int) (first : Bool) (r : List ByteArray) : (lineB de qu en first (r.map Top.bytesOf)).length ≤ wtR r + 2 := by
  have he := end_len en
  match r with
  | [] => exact Nat.le_trans he (by omega)
  | f :: fs =>
    have hr := rest_len de qu fs
    have e2 : wtR (f :: fs) = 2 * f.size + 3 + wtR fs := by simp [wtR]
    have hyl := written_len de qu (fs.map Top.bytesOf).isEmpty first (Top.bytesOf f)
    rw [bytesOf_len] at hyl
    rw [List.map_cons, lineB, e2]
    simp only [List.length_append]
    omega
theorem text_len (de qu en : Int) : ∀ (t : List (List ByteArray)) (first : Bool), (textB de qu en first (numsT t)).length ≤ wtT t
  | [], first => Nat.le_refl _
  | r :: rs, first => by
    have ih := text_len de qu en rs false
    have hl := line_len de qu en first r
    have e : wtT (r :: rs) = wtR r + 2 + wtT rs := by simp [wtT]
    rw [e]
    show (lineB de qu en first (r.map Top.bytesOf) ++ textB de qu en false (numsT rs)).length ≤ _
    rw [List.length_append]
    omega
theorem low_of (t : List (List ByteArray)) (h : wtT t ≤ 10000) : LowT t := by
  have hR : ∀ r : List ByteArray, r.length ≤ wtR r ∧ ∀ x ∈ r, x.size ≤ wtR r := by
    intro r
    induction r with
    | nil => exact ⟨Nat.le_refl _, fun x hx => by cases hx⟩
    | cons f fs ih =>
      have e2 : wtR (f :: fs) = 2 * f.size + 3 + wtR fs := by simp [wtR]
      refine ⟨by rw [e2]; simp only [List.length_cons]; omega, fun x hx => ?_⟩
      rcases List.mem_cons.1 hx with rfl | hx
      · omega
      · have := ih.2 x hx; omega
  have hT : ∀ t : List (List ByteArray), t.length ≤ wtT t ∧ ∀ r ∈ t, wtR r ≤ wtT t := by
    intro t
    induction t with
    | nil => exact ⟨Nat.le_refl _, fun x hx => by cases hx⟩
    | cons r rs ih =>
      have e : wtT (r :: rs) = wtR r + 2 + wtT rs := by simp [wtT]
      refine ⟨by rw [e]; simp only [List.length_cons]; omega, fun x hx => ?_⟩
      rcases List.mem_cons.1 hx with rfl | hx
      · omega
      · have := ih.2 x hx; omega
  obtain ⟨h1, h2⟩ := hT t
  refine ⟨by omega, fun r hr => ?_⟩
  have h3 := h2 r hr
  obtain ⟨h4, h5⟩ := hR r
  exact ⟨by omega, fun x hx => by have := h5 x hx; omega⟩
theorem text_l0 (t : List (List ByteArray)) (h : OkT t) (hl : LowT t) (de qu en : Int) (hd : 0 ≤ de ∧ de ≤ 127) (hq : 0 ≤ qu ∧ qu ≤ 127) : ∀ (d i k : Nat) (acc : ByteArray), i + d = t.length → d + 30030 ≤ k → acc.size ≤ 1000000000 * (i + 1) →
    ∃ y, quillpenref10_Text.l0 k t acc (i : Int) de qu en = some y ∧ Top.bytesOf y = Top.bytesOf acc ++ textB de qu en ((i : Int) == 0) ((numsT t).drop i) := by
  have hr := hl.1
  have hwr : ∀ r : List ByteArray, LowR r → wtR r ≤ r.length * 20003 := by
    intro r hr
    have h2 := hr.2
    clear hr
    induction r with
    | nil => exact Nat.le_refl _
    | cons f fs ih =>
      have e2 : wtR (f :: fs) = 2 * f.size + 3 + wtR fs := by simp [wtR]
      have := ih (fun x hx => h2 x (List.mem_cons_of_mem _ hx))
      have := h2 f (List.mem_cons_self ..)
      rw [e2, List.length_cons]; omega
  intro d
  induction d with
  | zero =>
    intro i k acc hi hk ha
    obtain ⟨k, rfl⟩ : ∃ j, k = j + 1 := ⟨k - 1, by omega⟩
    refine ⟨acc, ?_, ?_⟩
    · rw [quillpenref10_Text.l0, front_f t h hl k (by omega), Option.bind_some, if_neg (by omega)]
    · rw [List.drop_eq_nil_of_le (by unfold numsT; rw [List.length_map]; omega), textB, List.append_nil]
  | succ d ih =>
    intro i k acc hi hk ha
    obtain ⟨k, rfl⟩ : ∃ j, k = j + 1 := ⟨k - 1, by omega⟩
    have hlt : i < t.length := by omega
    have hm : t[i] ∈ t := List.getElem_mem hlt
    obtain ⟨y, y1, y2⟩ := line_f t[i] (h _ hm).1 (hl.2 _ hm) de qu en ((i : Int) == 0) hd hq k (by omega)
    have hys := size_bytes y2
    have hyl := line_len de qu en ((i : Int) == 0) t[i]
    have hw := hwr _ (hl.2 _ hm)
    have hrl := (hl.2 _ hm).1
    have hdrop : (numsT t).drop i = t[i].map Top.bytesOf :: (numsT t).drop (i + 1) := by
      unfold numsT
      rw [List.drop_eq_getElem_cons (by rw [List.length_map]; omega), List.getElem_map]
    obtain ⟨z, z1, z2⟩ := ih (i + 1) k (acc ++ y) (by omega) (by omega) (by rw [ByteArray.size_append]; omega)
    refine ⟨z, ?_, ?_⟩
    · rw [quillpenref10_Text.l0, front_f t h hl k (by omega), Option.bind_some, if_pos (by omega), if_pos (by omega), if_pos (by omega), one_f, Option.bind_some, rd2_get hlt, y1, Option.bind_some, if_pos (by omega), wrap_id (by omega) (by omega), show (i : Int) + 1 = ((i + 1 : Nat) : Int) by omega]
      exact z1
    · rw [z2, bytesOf_app, y2, hdrop, textB, List.append_assoc]
      have e : (((i + 1 : Nat) : Int) == 0) = false := by simp; omega
      rw [e]
theorem text_f (t : List (List ByteArray)) (h : OkT t) (hl : LowT t) (de qu en : Int) (hd : 0 ≤ de ∧ de ≤ 127) (hq : 0 ≤ qu ∧ qu ≤ 127) : ∃ y, quillpenref10_Text.f 50000 de qu en t = some y ∧ Top.bytesOf y = textB de qu en true (numsT t) := by
  have hr := hl.1
  obtain ⟨y, y1, y2⟩ := text_l0 t h hl de qu en hd hq t.length 0 50000 (⟨#[]⟩ : ByteArray) (by omega) (by omega) (by show 0 ≤ _; omega)
  refine ⟨y, y1, ?_⟩
  rw [y2, List.drop_zero]
  rfl
end Go.Proofs.YtmignbhpofmgeaaDoor.Top
namespace Go.Proofs.YtmignbhpofmgeaaDoor.Top
open Go.RowKit Go.Proofs.YtmignbhpofmgeaaDoorW.PrintWords Go.Proofs.YtmignbhpofmgeaaDoorW.PrintLast Go.Proofs.YtmignbhpofmgeaaDoorW.PrintMore Go.Proofs.YtmignbhpofmgeaaDoor.Iter
set_option linter.unusedVariables false
set_option linter.unusedSimpArgs false
theorem TabAt.acts {W W' : World} {qv : Value} {ls : List (List ByteArray)} (h : TabAt W qv ls) (ha : Acts (fun _ => False) W W') : TabAt W' qv ls := by
  obtain ⟨rows, h1, h2, h3⟩ := h
  exact ⟨rows, owns_keep h1 (fun k e => ha.same k (row_lt h1 k e) (fun h => h)), h2, fun i v l hi hl => by
    have h4 := h3 i v l hi hl
    exact owns_keep h4 (fun k e => ha.same k (row_lt h4 k e) (fun h => h))⟩
theorem strs_C {W : World} {v : Value} {l : List ByteArray} (h : W.ownsRow 0 9 1 v l.length (l.map Value.string)) (hb : l.length ≤ 1000000) : ∃ a c, v = .slice a l.length c ∧ l.length ≤ c ∧ Kd.string.C W a l.length l := by
  obtain ⟨a, c, hv, hc⟩ := slice_cap h
  refine ⟨a, c, hv, hc, rfl, by omega, fun hp => ?_⟩
  obtain ⟨g, cap, e1, _, _⟩ := owns_cell h 0 (.string (l[0]'hp)) (by simp [hp])
  rw [e1] at hv
  simp only [Value.slice.injEq] at hv
  refine ⟨⟨g, 0, none⟩, hv.1.symm, fun j p hj => ⟨[.string p], rfl, rfl, fun i u hi => ?_⟩⟩
  obtain ⟨g2, cap2, e2, e3, _⟩ := owns_cell h j (.string p) (by rw [List.getElem?_map, hj]; rfl)
  rw [e1] at e2
  simp only [Value.slice.injEq, Option.some.injEq, Addr.mk.injEq, and_true, true_and] at e2
  match i, hi with
  | 0, hi =>
    simp at hi
    subst hi
    rw [add_plain, e2.1]
    show W.cell? ⟨g2, 0 + (j * 1 + 0), none⟩ = _
    simpa using e3
  | i + 1, hi => simp at hi
theorem tab_C {W : World} {qv : Value} {ls : List (List ByteArray)} (h : TabAt W qv ls) (hb : ls.length ≤ 1000000) (hr : ∀ x ∈ ls, x.length ≤ 1000000) : ∃ a c, qv = .slice a ls.length c ∧ ls.length ≤ c ∧ Kd.C (Kd.slice 9 Kd.string) W a ls.length ls := by
  obtain ⟨rows, h1, h2, h3⟩ := h
  obtain ⟨a, c, hv, hc⟩ := slice_cap h1
  refine ⟨a, c, hv, hc, rfl, by omega, fun hp => ?_⟩
  obtain ⟨v0, hv0⟩ : ∃ v0, rows[0]? = some v0 := ⟨_, List.getElem?_eq_getElem (by omega)⟩
  obtain ⟨g, cap, e1, _, _⟩ := owns_cell h1 0 v0 hv0
  rw [e1] at hv
  simp only [Value.slice.injEq] at hv
  refine ⟨⟨g, 0, none⟩, hv.1.symm, fun j p hj => ?_⟩
  have hjl : j < ls.length := (List.getElem?_eq_some_iff.1 hj).1
  obtain ⟨v, hvj⟩ : ∃ v, rows[j]? = some v := ⟨_, List.getElem?_eq_getElem (by omega)⟩
  obtain ⟨oa, oc, rfl, hoc, hC⟩ := strs_C (h3 j v p hvj hj) (hr p (List.mem_of_getElem? hj))
  refine ⟨[.slice oa p.length oc], rfl, ⟨oa, oc, rfl, hoc, hC⟩, fun i u hi => ?_⟩
  obtain ⟨g2, cap2, e2, e3, _⟩ := owns_cell h1 j _ hvj
  rw [e1] at e2
  simp only [Value.slice.injEq, Option.some.injEq, Addr.mk.injEq, and_true, true_and] at e2
  match i, hi with
  | 0, hi =>
    simp at hi
    subst hi
    rw [add_plain, e2.1]
    show W.cell? ⟨g2, 0 + (j * 1 + 0), none⟩ = _
    simpa using e3
  | i + 1, hi => simp at hi
end Go.Proofs.YtmignbhpofmgeaaDoor.Top
