/- ScanCloses: what the end comes to in any state is what the document says. The functions that it reaches and its row, laid by wip/tools/xprint.py out of the translation, with contracts of this session's own. -/
import Derived.Test.YtpejppnkdaiilaaXScanClosesx0
import Derived.Test.YtpejppnkdaiilaaXScanClosesx2
import Derived.Test.YtpejppnkdaiilaaXScanClosesx6
import Derived.Test.YtpejppnkdaiilaaXScanClosesx8
namespace Go.Proofs.Ytpejppnkdaiilaa.XScanCloses
open Go.RowKit Go.Proofs.YtpejppnkdaiilaaW.PrintWords Go.Proofs.YtpejppnkdaiilaaW.PrintLast Go.Proofs.YtpejppnkdaiilaaW.PrintMore
attribute [local go_sem] max2_int min2_int max_two min_two max_three min_three max_four min_four   -- for this text's walks alone
set_option linter.unusedVariables false
set_option linter.unusedSimpArgs false

attribute [local go_sem high] eqA35
/-! ### quillpenlaw04_ScanCloses: function 4 -/
def quillpenlaw04_ScanCloses.f (k : Nat) (a0 : Int) : Option (Bool) := (scan_Close.f (Int.tmod (wrap64 (a0)) 7)).bind fun bt164 => ((quillpenref04_Close.f (Int.tmod (wrap64 (a0)) 7)).bind fun bt172 => ((quillpenlaw04_Ref.f bt164.1 bt164.2.1 bt164.2.2.1 bt164.2.2.2.1 bt164.2.2.2.2.1 bt164.2.2.2.2.2.1).bind fun bt180 => (if (bt180.1 == bt172.1 && (bt180.2.1 == bt172.2.1 && (bt180.2.2.1 == bt172.2.2.1 && (bt180.2.2.2.1 == bt172.2.2.2.1 && (bt180.2.2.2.2.1 == bt172.2.2.2.2.1 && (bt180.2.2.2.2.2 == bt172.2.2.2.2.2.1)))))) = true then (if bt164.2.2.2.2.2.2 = bt172.2.2.2.2.2.2 then ((quillpenlaw04_awake.f k).bind fun t186 => (some t186)) else (some false)) else (some false))))
theorem quillpenlaw04_ScanCloses.mono : ∀ a0 k, LeO (quillpenlaw04_ScanCloses.f k a0) (quillpenlaw04_ScanCloses.f (k + 1) a0) := by
  intro a0 k
  unfold quillpenlaw04_ScanCloses.f
  repeat' first
      | (with_reducible exact quillpenlaw04_awake.mono _)
      | (with_reducible exact LeO.refl _)
      | (with_reducible exact LeO.none _)
      | (with_reducible refine LeO.ite ?_ ?_)
      | (with_reducible refine LeO.bind ?_ (fun _ => ?_))
      | exact quillpenlaw04_awake.mono _
      | exact LeO.none _
      | refine LeO.ite ?_ ?_
      | refine LeO.bind ?_ (fun _ => ?_)
def quillpenlaw04_ScanCloses.T4 : Bool × List (List Nat × List Nat) := (true, [([], []), ([0], [0]), ([], []), ([1, 2], [1, 2]), ([3, 1], [3]), ([4], [4]), ([4], [4]), ([5, 6, 4], [4, 5, 6]), ([4, 7], [4, 7]), ([8, 4], [8]), ([9, 9], [9]), ([9, 10], [9, 10]), ([11, 10, 0, 1, 2, 3, 4, 5, 6, 7, 8, 9, 10, 11], [11])])
def quillpenlaw04_ScanCloses.B4 : List Nat := [0, 1, 0, 7, 15, 31, 31, 127, 255, 511, 1023, 2047, 4095]
theorem quillpenlaw04_ScanCloses.tab4 : rtab .any (opsOf Try.f4 4) = quillpenlaw04_ScanCloses.T4 := by kernel_rfl
theorem quillpenlaw04_ScanCloses.bits4 : waitsOk quillpenlaw04_ScanCloses.T4.2 quillpenlaw04_ScanCloses.B4 = true := by kernel_rfl
set_option maxHeartbeats 8000000 in
set_option maxRecDepth 100000 in
theorem quillpenlaw04_ScanCloses.calls (k : Nat) (a0 : Int) (r : Bool) (w : World) (h : quillpenlaw04_ScanCloses.f k a0 = some r) :
    Calls Try.prog 4 #[.int .u8 a0] w fun e w' => e = .returned (.bool r) ∧ Below w.heap.size w w' := by
  have hu30 := Try.underlying30
  have hu35 := Try.underlying35
  have HB := Aside0.mk (Below.refl w.heap.size w)
  have H : ((scan_Close.f (Int.tmod (wrap64 (a0)) 7)).bind fun bt164 => ((quillpenref04_Close.f (Int.tmod (wrap64 (a0)) 7)).bind fun bt172 => ((quillpenlaw04_Ref.f bt164.1 bt164.2.1 bt164.2.2.1 bt164.2.2.2.1 bt164.2.2.2.2.1 bt164.2.2.2.2.2.1).bind fun bt180 => (if (bt180.1 == bt172.1 && (bt180.2.1 == bt172.2.1 && (bt180.2.2.1 == bt172.2.2.1 && (bt180.2.2.2.1 == bt172.2.2.2.1 && (bt180.2.2.2.2.1 == bt172.2.2.2.2.1 && (bt180.2.2.2.2.2 == bt172.2.2.2.2.2.1)))))) = true then (if bt164.2.2.2.2.2.2 = bt172.2.2.2.2.2.2 then ((quillpenlaw04_awake.f k).bind fun t186 => (some t186)) else (some false)) else (some false))))) = some r := h
  clear h
  replace H := Option.bind_eq_some_iff.mp H
  obtain ⟨⟨t164, t165, t166, t167, t168, t169, t170⟩, A20, H⟩ := H
  replace H : ((quillpenref04_Close.f (Int.tmod (wrap64 (a0)) 7)).bind fun bt172 => ((quillpenlaw04_Ref.f t164 t165 t166 t167 t168 t169).bind fun bt180 => (if (bt180.1 == bt172.1 && (bt180.2.1 == bt172.2.1 && (bt180.2.2.1 == bt172.2.2.1 && (bt180.2.2.2.1 == bt172.2.2.2.1 && (bt180.2.2.2.2.1 == bt172.2.2.2.2.1 && (bt180.2.2.2.2.2 == bt172.2.2.2.2.2.1)))))) = true then (if t170 = bt172.2.2.2.2.2.2 then ((quillpenlaw04_awake.f k).bind fun t186 => (some t186)) else (some false)) else (some false)))) = some r := H
  have A2 := Aside0.mk A20
  clear A20
  replace H := Option.bind_eq_some_iff.mp H
  obtain ⟨⟨t172, t173, t174, t175, t176, t177, t178⟩, A30, H⟩ := H
  replace H : ((quillpenlaw04_Ref.f t164 t165 t166 t167 t168 t169).bind fun bt180 => (if (bt180.1 == t172 && (bt180.2.1 == t173 && (bt180.2.2.1 == t174 && (bt180.2.2.2.1 == t175 && (bt180.2.2.2.2.1 == t176 && (bt180.2.2.2.2.2 == t177)))))) = true then (if t170 = t178 then ((quillpenlaw04_awake.f k).bind fun t186 => (some t186)) else (some false)) else (some false))) = some r := H
  have A3 := Aside0.mk A30
  clear A30
  replace H := Option.bind_eq_some_iff.mp H
  obtain ⟨⟨t180, t181, t182, t183, t184, t185⟩, A40, H⟩ := H
  replace H : (if (t180 == t172 && (t181 == t173 && (t182 == t174 && (t183 == t175 && (t184 == t176 && (t185 == t177)))))) = true then (if t170 = t178 then ((quillpenlaw04_awake.f k).bind fun t186 => (some t186)) else (some false)) else (some false)) = some r := H
  have A4 := Aside0.mk A40
  clear A40
  by_cases c5 : (t180 == t172 && (t181 == t173 && (t182 == t174 && (t183 == t175 && (t184 == t176 && (t185 == t177)))))) = true
  · rw [if_pos c5] at H
    have c5b0 : (t180 == t172 && (t181 == t173 && (t182 == t174 && (t183 == t175 && (t184 == t176 && (t185 == t177)))))) = true := c5
    (try (have c5b1 : decide (t180 = t172 && (t181 == t173 && (t182 == t174 && (t183 == t175 && (t184 == t176 && (t185 == t177)))))) = true := by simpa using c5))
    (try (have c5b2 : (t180 == t172 && (t181 == t173 && (t182 == t174 && (t183 == t175 && (t184 == t176 && (t185 == t177)))))) = true := by simpa using c5))
    clear c5
    by_cases c6 : t170 = t178
    · rw [if_pos c6] at H
      have c6b0 : (t170 == t178) = true := beq_iff_eq.mpr c6
      have c6b1 : (t170 != t178) = false := bne_eq_false_iff_eq.mpr c6
      clear c6
      replace H := Option.bind_eq_some_iff.mp H
      obtain ⟨t186, A70, H⟩ := H
      replace H : (some t186) = some r := H
      have A7 := Aside0.mk A70
      clear A70
      obtain rfl := Option.some.inj H
      go_enter Try.func4, Try.ntmps4
      try go_wp2_with (first | ((with_reducible refine gate_callee (f := 13) rfl ?_); refine goesL_ (some 13) rfl rfl Try.func13 (by kernel_rfl) rfl #[.int .i64 (Int.tmod (wrap64 (a0)) 7)] rfl (by (try simp only [List.map_toArray, List.map_cons, List.map_nil]); first | done | rfl | (simp only [List.length_drop, List.length_take]; rfl)) ?_; (with_reducible refine (scan_Close.calls (Int.tmod (wrap64 (a0)) 7) t164 t165 t166 t167 t168 t169 t170 _ A2.out).mono ?_); rintro e w8 ⟨rfl, hb⟩; refine ⟨_, rfl, ?_⟩; have n0_ := Aside0.mk (below_step (by repeat (first | (with_reducible first | exact HB.out | apply below_alloc | apply pw_below_drewN | apply below_drew1) | exact HB.out)) hb); clear HB; have HB := n0_; clear n0_; (try clear hb); (try clear hb2); (try clear hk); (try clear hi)) | ((with_reducible refine gate_dst (N := 4) rfl ?_); refine box_event ?hg (N := 4) ?hd (cs := #[.bool false, .bool false, .bool false, .bool false, .bool false, .int .u8 0]) (t := 30) ?hr ?_; (case hd => rfl); (case hg => rfl); (case hr => first | (go_simp; done) | (go_simp; rfl)); intro gb171 hg w9 hbox hb; have n0_ := Aside0.mk (below_step (by repeat (first | (with_reducible first | exact HB.out | apply below_alloc | apply pw_below_drewN | apply below_drew1) | exact HB.out)) hb); have n1_ := Aside0.mk (hbox); have n2_ := Aside0.mk ((by rw [hg]; exact (below_size (by repeat (first | (with_reducible first | exact HB.out | apply below_alloc | apply pw_below_drewN | apply below_drew1) | exact HB.out))) : w.heap.size ≤ gb171)); have n3_ := Aside0.mk ((by rw [hg]; exact (below_size (by repeat (first | (with_reducible first | exact HB.out | apply below_alloc | apply pw_below_drewN | apply below_drew1) | exact HB.out))) : w.heap.size ≤ gb171)); clear HB; have HB := n0_; have BK171 := n1_; have GW171 := n2_; have GE171 := n3_; clear n0_ n1_ n2_ n3_; clear hb hbox hg; have hcz10_0 : w9.cell? ⟨gb171, 0, none⟩ = some (.bool false) := (blk_cell BK171.out 0).trans rfl; have hcz10_1 : w9.cell? ⟨gb171, 1, none⟩ = some (.bool false) := (blk_cell BK171.out 1).trans rfl; have hcz10_2 : w9.cell? ⟨gb171, 2, none⟩ = some (.bool false) := (blk_cell BK171.out 2).trans rfl; have hcz10_3 : w9.cell? ⟨gb171, 3, none⟩ = some (.bool false) := (blk_cell BK171.out 3).trans rfl; have hcz10_4 : w9.cell? ⟨gb171, 4, none⟩ = some (.bool false) := (blk_cell BK171.out 4).trans rfl; have hcz10_5 : w9.cell? ⟨gb171, 5, none⟩ = some (.int .u8 0) := (blk_cell BK171.out 5).trans rfl; have hfz10_0 := blk_frozen BK171.out 0; have hfz10_1 := blk_frozen BK171.out 1; have hfz10_2 := blk_frozen BK171.out 2; have hfz10_3 := blk_frozen BK171.out 3; have hfz10_4 := blk_frozen BK171.out 4; have hfz10_5 := blk_frozen BK171.out 5) | ((with_reducible refine gate_callee (f := 14) rfl ?_); refine goesL_ (some 18) rfl rfl Try.func14 (by kernel_rfl) rfl #[.int .i64 (Int.tmod (wrap64 (a0)) 7)] rfl (by (try simp only [List.map_toArray, List.map_cons, List.map_nil]); first | done | rfl | (simp only [List.length_drop, List.length_take]; rfl)) ?_; (with_reducible refine (quillpenref04_Close.calls (Int.tmod (wrap64 (a0)) 7) t172 t173 t174 t175 t176 t177 t178 _ A3.out).mono ?_); rintro e w11 ⟨rfl, hb⟩; refine ⟨_, rfl, ?_⟩; have n0_ := Aside0.mk (blk_below (g := gb171) (o := .cells #[.bool t164, .bool t165, .bool t166, .bool t167, .bool t168, .int .u8 t169] 30 (0, 0)) (by (with_reducible repeat (first | refine blk_drewN ?_ _ | refine blk_drew ?_ | refine blk_alloc ?_ _)); refine blk_put (cs := #[.bool t164, .bool t165, .bool t166, .bool t167, .bool t168, .int .u8 0]) ?_ 5 _ rfl; (with_reducible repeat (first | refine blk_drewN ?_ _ | refine blk_drew ?_ | refine blk_alloc ?_ _)); refine blk_put (cs := #[.bool t164, .bool t165, .bool t166, .bool t167, .bool false, .int .u8 0]) ?_ 4 _ rfl; (with_reducible repeat (first | refine blk_drewN ?_ _ | refine blk_drew ?_ | refine blk_alloc ?_ _)); refine blk_put (cs := #[.bool t164, .bool t165, .bool t166, .bool false, .bool false, .int .u8 0]) ?_ 3 _ rfl; (with_reducible repeat (first | refine blk_drewN ?_ _ | refine blk_drew ?_ | refine blk_alloc ?_ _)); refine blk_put (cs := #[.bool t164, .bool t165, .bool false, .bool false, .bool false, .int .u8 0]) ?_ 2 _ rfl; (with_reducible repeat (first | refine blk_drewN ?_ _ | refine blk_drew ?_ | refine blk_alloc ?_ _)); refine blk_put (cs := #[.bool t164, .bool false, .bool false, .bool false, .bool false, .int .u8 0]) ?_ 1 _ rfl; (with_reducible repeat (first | refine blk_drewN ?_ _ | refine blk_drew ?_ | refine blk_alloc ?_ _)); refine blk_put (cs := #[.bool false, .bool false, .bool false, .bool false, .bool false, .int .u8 0]) ?_ 0 _ rfl; (with_reducible repeat (first | refine blk_drewN ?_ _ | refine blk_drew ?_ | refine blk_alloc ?_ _)); exact BK171.out) hb); have n1_ := Aside0.mk (below_step (by repeat (first | (with_reducible first | exact HB.out | apply below_alloc | apply pw_below_drewN | apply below_drew1 | refine below_set ?_ GE171.out) | exact HB.out)) hb); clear BK171; clear HB; have BK171 := n0_; have HB := n1_; clear n0_ n1_; (try clear hb); (try clear hb2); (try clear hk); (try clear hi)) | ((with_reducible refine gate_dst (N := 6) rfl ?_); refine box_event ?hg (N := 6) ?hd (cs := #[.int .i64 0, .int .i64 0, .int .i64 0, .int .i64 0, .int .i64 0, .int .i64 0]) (t := 35) ?hr ?_; (case hd => rfl); (case hg => rfl); (case hr => first | (go_simp; done) | (go_simp; rfl)); intro gb179 hg w12 hbox hb; have n0_ := Aside0.mk (blk_below (g := gb171) (o := .cells #[.bool t164, .bool t165, .bool t166, .bool t167, .bool t168, .int .u8 t169] 30 (0, 0)) (by (with_reducible repeat (first | refine blk_drewN ?_ _ | refine blk_drew ?_ | refine blk_alloc ?_ _)); exact BK171.out) hb); have n1_ := Aside0.mk (below_step (by repeat (first | (with_reducible first | exact HB.out | apply below_alloc | apply pw_below_drewN | apply below_drew1 | refine below_set ?_ GE171.out) | exact HB.out)) hb); have n2_ := Aside0.mk (hbox); have n3_ := Aside0.mk ((by rw [hg]; exact (below_size (by repeat (first | (with_reducible first | exact HB.out | apply below_alloc | apply pw_below_drewN | apply below_drew1 | refine below_set ?_ GE171.out) | exact HB.out))) : w.heap.size ≤ gb179)); have n4_ := Aside0.mk ((by rw [hg]; exact (below_size (by repeat (first | (with_reducible first | exact HB.out | apply below_alloc | apply pw_below_drewN | apply below_drew1 | refine below_set ?_ GE171.out) | exact HB.out))) : w.heap.size ≤ gb179)); have n5_ := Aside0.mk ((by rw [hg]; exact Nat.ne_of_lt (blk_lt (g := gb171) (o := .cells #[.bool t164, .bool t165, .bool t166, .bool t167, .bool t168, .int .u8 t169] 30 (0, 0)) (by (with_reducible repeat (first | refine blk_drewN ?_ _ | refine blk_drew ?_ | refine blk_alloc ?_ _)); exact BK171.out)) : gb171 ≠ gb179)); have n6_ := Aside0.mk ((by rw [hg]; exact Nat.ne_of_gt (blk_lt (g := gb171) (o := .cells #[.bool t164, .bool t165, .bool t166, .bool t167, .bool t168, .int .u8 t169] 30 (0, 0)) (by (with_reducible repeat (first | refine blk_drewN ?_ _ | refine blk_drew ?_ | refine blk_alloc ?_ _)); exact BK171.out)) : gb179 ≠ gb171)); clear BK171; clear HB; have BK171 := n0_; have HB := n1_; have BK179 := n2_; have GW179 := n3_; have GE179 := n4_; have NB171_179 := n5_; have NB179_171 := n6_; clear n0_ n1_ n2_ n3_ n4_ n5_ n6_; clear hb hbox hg; have hnb13 := NB179_171.out; have hnc13 := NB171_179.out; have hcz14_0 : w12.cell? ⟨gb179, 0, none⟩ = some (.int .i64 0) := (blk_cell BK179.out 0).trans rfl; have hcz14_1 : w12.cell? ⟨gb179, 1, none⟩ = some (.int .i64 0) := (blk_cell BK179.out 1).trans rfl; have hcz14_2 : w12.cell? ⟨gb179, 2, none⟩ = some (.int .i64 0) := (blk_cell BK179.out 2).trans rfl; have hcz14_3 : w12.cell? ⟨gb179, 3, none⟩ = some (.int .i64 0) := (blk_cell BK179.out 3).trans rfl; have hcz14_4 : w12.cell? ⟨gb179, 4, none⟩ = some (.int .i64 0) := (blk_cell BK179.out 4).trans rfl; have hcz14_5 : w12.cell? ⟨gb179, 5, none⟩ = some (.int .i64 0) := (blk_cell BK179.out 5).trans rfl; have hfz14_0 := blk_frozen BK179.out 0; have hfz14_1 := blk_frozen BK179.out 1; have hfz14_2 := blk_frozen BK179.out 2; have hfz14_3 := blk_frozen BK179.out 3; have hfz14_4 := blk_frozen BK179.out 4; have hfz14_5 := blk_frozen BK179.out 5))
      have n0_ : Aside0 (((((((w12.setCell ⟨gb179, 0, none⟩ (.int .i64 t172)).setCell ⟨gb179, 1, none⟩ (.int .i64 t173)).setCell ⟨gb179, 2, none⟩ (.int .i64 t174)).setCell ⟨gb179, 3, none⟩ (.int .i64 t175)).setCell ⟨gb179, 4, none⟩ (.int .i64 t176)).setCell ⟨gb179, 5, none⟩ (.int .i64 t177)).heap[gb171]? = some (.cells #[.bool t164, .bool t165, .bool t166, .bool t167, .bool t168, .int .u8 t169] 30 (0, 0))) := ⟨by (with_reducible repeat (first | refine blk_drewN ?_ _ | refine blk_drew ?_ | refine blk_alloc ?_ _)); refine blk_far ?_ NB171_179.out _; (with_reducible repeat (first | refine blk_drewN ?_ _ | refine blk_drew ?_ | refine blk_alloc ?_ _)); refine blk_far ?_ NB171_179.out _; (with_reducible repeat (first | refine blk_drewN ?_ _ | refine blk_drew ?_ | refine blk_alloc ?_ _)); refine blk_far ?_ NB171_179.out _; (with_reducible repeat (first | refine blk_drewN ?_ _ | refine blk_drew ?_ | refine blk_alloc ?_ _)); refine blk_far ?_ NB171_179.out _; (with_reducible repeat (first | refine blk_drewN ?_ _ | refine blk_drew ?_ | refine blk_alloc ?_ _)); refine blk_far ?_ NB171_179.out _; (with_reducible repeat (first | refine blk_drewN ?_ _ | refine blk_drew ?_ | refine blk_alloc ?_ _)); refine blk_far ?_ NB171_179.out _; (with_reducible repeat (first | refine blk_drewN ?_ _ | refine blk_drew ?_ | refine blk_alloc ?_ _)); exact BK171.out⟩
      have n1_ : Aside0 (((((((w12.setCell ⟨gb179, 0, none⟩ (.int .i64 t172)).setCell ⟨gb179, 1, none⟩ (.int .i64 t173)).setCell ⟨gb179, 2, none⟩ (.int .i64 t174)).setCell ⟨gb179, 3, none⟩ (.int .i64 t175)).setCell ⟨gb179, 4, none⟩ (.int .i64 t176)).setCell ⟨gb179, 5, none⟩ (.int .i64 t177)).heap[gb179]? = some (.cells #[.int .i64 t172, .int .i64 t173, .int .i64 t174, .int .i64 t175, .int .i64 t176, .int .i64 t177] 35 (0, 0))) := ⟨by (with_reducible repeat (first | refine blk_drewN ?_ _ | refine blk_drew ?_ | refine blk_alloc ?_ _)); refine blk_put (cs := #[.int .i64 t172, .int .i64 t173, .int .i64 t174, .int .i64 t175, .int .i64 t176, .int .i64 0]) ?_ 5 _ rfl; (with_reducible repeat (first | refine blk_drewN ?_ _ | refine blk_drew ?_ | refine blk_alloc ?_ _)); refine blk_put (cs := #[.int .i64 t172, .int .i64 t173, .int .i64 t174, .int .i64 t175, .int .i64 0, .int .i64 0]) ?_ 4 _ rfl; (with_reducible repeat (first | refine blk_drewN ?_ _ | refine blk_drew ?_ | refine blk_alloc ?_ _)); refine blk_put (cs := #[.int .i64 t172, .int .i64 t173, .int .i64 t174, .int .i64 0, .int .i64 0, .int .i64 0]) ?_ 3 _ rfl; (with_reducible repeat (first | refine blk_drewN ?_ _ | refine blk_drew ?_ | refine blk_alloc ?_ _)); refine blk_put (cs := #[.int .i64 t172, .int .i64 t173, .int .i64 0, .int .i64 0, .int .i64 0, .int .i64 0]) ?_ 2 _ rfl; (with_reducible repeat (first | refine blk_drewN ?_ _ | refine blk_drew ?_ | refine blk_alloc ?_ _)); refine blk_put (cs := #[.int .i64 t172, .int .i64 0, .int .i64 0, .int .i64 0, .int .i64 0, .int .i64 0]) ?_ 1 _ rfl; (with_reducible repeat (first | refine blk_drewN ?_ _ | refine blk_drew ?_ | refine blk_alloc ?_ _)); refine blk_put (cs := #[.int .i64 0, .int .i64 0, .int .i64 0, .int .i64 0, .int .i64 0, .int .i64 0]) ?_ 0 _ rfl; (with_reducible repeat (first | refine blk_drewN ?_ _ | refine blk_drew ?_ | refine blk_alloc ?_ _)); exact BK179.out⟩
      have n2_ : Aside0 (Below w.heap.size w ((((((w12.setCell ⟨gb179, 0, none⟩ (.int .i64 t172)).setCell ⟨gb179, 1, none⟩ (.int .i64 t173)).setCell ⟨gb179, 2, none⟩ (.int .i64 t174)).setCell ⟨gb179, 3, none⟩ (.int .i64 t175)).setCell ⟨gb179, 4, none⟩ (.int .i64 t176)).setCell ⟨gb179, 5, none⟩ (.int .i64 t177))) := ⟨by repeat (first | (with_reducible first | exact HB.out | apply below_alloc | apply pw_below_drewN | apply below_drew1 | refine below_set ?_ GE171.out | refine below_set ?_ GE179.out) | exact HB.out)⟩
      (try clear BK171)
      (try clear BK179)
      (try clear HB)
      generalize ((((((w12.setCell ⟨gb179, 0, none⟩ (.int .i64 t172)).setCell ⟨gb179, 1, none⟩ (.int .i64 t173)).setCell ⟨gb179, 2, none⟩ (.int .i64 t174)).setCell ⟨gb179, 3, none⟩ (.int .i64 t175)).setCell ⟨gb179, 4, none⟩ (.int .i64 t176)).setCell ⟨gb179, 5, none⟩ (.int .i64 t177)) = w15 at n0_ n1_ n2_ ⊢
      have BK171 := n0_
      have BK179 := n1_
      have HB := n2_
      clear n0_ n1_ n2_
      have n0_ := Aside0.mk (blk_drew BK171.out)
      have n1_ := Aside0.mk (blk_drew BK179.out)
      have n2_ := Aside0.mk (below_drew1 HB.out)
      clear BK171
      clear BK179
      clear HB
      have BK171 := n0_
      have BK179 := n1_
      have HB := n2_
      clear n0_ n1_ n2_
      refine start_ (n := 13) (S := fun w' => w'.cell? ⟨gb171, 0, none⟩ = some (.bool t164) ∧ w'.cell? ⟨gb171, 1, none⟩ = some (.bool t165) ∧ w'.cell? ⟨gb171, 2, none⟩ = some (.bool t166) ∧ w'.cell? ⟨gb171, 3, none⟩ = some (.bool t167) ∧ w'.cell? ⟨gb171, 4, none⟩ = some (.bool t168) ∧ w'.cell? ⟨gb171, 5, none⟩ = some (.int .u8 t169) ∧ w'.cell? ⟨gb179, 0, none⟩ = some (.int .i64 t172) ∧ w'.cell? ⟨gb179, 1, none⟩ = some (.int .i64 t173) ∧ w'.cell? ⟨gb179, 2, none⟩ = some (.int .i64 t174) ∧ w'.cell? ⟨gb179, 3, none⟩ = some (.int .i64 t175) ∧ w'.cell? ⟨gb179, 4, none⟩ = some (.int .i64 t176) ∧ w'.cell? ⟨gb179, 5, none⟩ = some (.int .i64 t177)) (ds := []) #[false, false, false, false, false, false, false, false, false, false, false, false, false] (by kernel_rfl) rfl rfl ⟨(blk_cell BK171.out 0).trans rfl, (blk_cell BK171.out 1).trans rfl, (blk_cell BK171.out 2).trans rfl, (blk_cell BK171.out 3).trans rfl, (blk_cell BK171.out 4).trans rfl, (blk_cell BK171.out 5).trans rfl, (blk_cell BK179.out 0).trans rfl, (blk_cell BK179.out 1).trans rfl, (blk_cell BK179.out 2).trans rfl, (blk_cell BK179.out 3).trans rfl, (blk_cell BK179.out 4).trans rfl, (blk_cell BK179.out 5).trans rfl⟩ (fun hHeld => ?_); refine with_tabW quillpenlaw04_ScanCloses.tab4 quillpenlaw04_ScanCloses.bits4 (fun HT_ HW_ => ?_)
      generalize w15.drew = w16 at BK171 BK179 HB hHeld ⊢
      refine take_ (i := 0) (N := some 21) (v := ?_) (a' := ?_) #[true, false, false, false, false, false, false, false, false, false, false, false, false] rfl rfl (take_ofW HT_.out HW_.out (by kernel_rfl)) (fun _ _ _ h => h) (Or.inl ⟨by rfl, ?_⟩) hHeld ?_ ?_
      rotate_left
      · rintro w' ⟨s0, s1, s2, s3, s4, s5, s6, s7, s8, s9, s10, s11⟩
        go_simp
        with_reducible rfl
      rotate_left
      · simp only [Act.put, List.setIfInBounds_toArray, List.set_cons_zero, List.set_cons_succ, i64_w, i32_w]
        rfl
      refine take_ (i := 2) (N := some 23) (v := ?_) (a' := ?_) #[true, false, true, false, false, false, false, false, false, false, false, false, false] rfl rfl (take_ofW HT_.out HW_.out (by kernel_rfl)) (fun _ _ _ h => h) (Or.inl ⟨by rfl, ?_⟩) hHeld ?_ ?_
      rotate_left
      · rintro w' ⟨s0, s1, s2, s3, s4, s5, s6, s7, s8, s9, s10, s11⟩
        go_simp
        with_reducible rfl
      rotate_left
      · simp only [Act.put, List.setIfInBounds_toArray, List.set_cons_zero, List.set_cons_succ, i64_w, i32_w]
        rfl
      refine one_ (i := 1) (N := some 22) #[true, true, true, false, false, false, false, false, false, false, false, false, false] rfl rfl (one_of HT_.out (by kernel_rfl)) (by decide) (fun K hK => ?_)
      refine goes_ Try.func12 (by kernel_rfl) rfl #[.agg #[.bool t164, .bool t165, .bool t166, .bool t167, .bool t168, .int .u8 t169]] (by rfl) rfl rfl (by (try simp only [List.map_toArray, List.map_cons, List.map_nil]); first | done | rfl | (simp only [List.length_drop, List.length_take]; rfl)) ?_
      with_reducible refine (quillpenlaw04_Ref.calls t164 t165 t166 t167 t168 t169 t180 t181 t182 t183 t184 t185 _ A4.out).mono ?_
      rintro e w17 ⟨rfl, hb⟩
      refine ⟨_, rfl, ?_⟩
      have n0_ := Aside0.mk (blk_below (g := gb171) (o := .cells #[.bool t164, .bool t165, .bool t166, .bool t167, .bool t168, .int .u8 t169] 30 (0, 0)) (by (with_reducible repeat (first | refine blk_drewN ?_ _ | refine blk_drew ?_ | refine blk_alloc ?_ _)); exact BK171.out) hb)
      have n1_ := Aside0.mk (blk_below (g := gb179) (o := .cells #[.int .i64 t172, .int .i64 t173, .int .i64 t174, .int .i64 t175, .int .i64 t176, .int .i64 t177] 35 (0, 0)) (by (with_reducible repeat (first | refine blk_drewN ?_ _ | refine blk_drew ?_ | refine blk_alloc ?_ _)); exact BK179.out) hb)
      have n2_ := Aside0.mk (below_step (by repeat (first | (with_reducible first | exact HB.out | apply below_alloc | apply pw_below_drewN | apply below_drew1 | refine below_set ?_ GE171.out | refine below_set ?_ GE179.out) | exact HB.out)) hb)
      clear BK171
      clear BK179
      clear HB
      have BK171 := n0_
      have BK179 := n1_
      have HB := n2_
      clear n0_ n1_ n2_
      (try clear hb)
      (try clear hb2)
      (try clear hk)
      (try clear hi)
      refine hK.out _ _ ⟨(blk_cell BK171.out 0).trans rfl, (blk_cell BK171.out 1).trans rfl, (blk_cell BK171.out 2).trans rfl, (blk_cell BK171.out 3).trans rfl, (blk_cell BK171.out 4).trans rfl, (blk_cell BK171.out 5).trans rfl, (blk_cell BK179.out 0).trans rfl, (blk_cell BK179.out 1).trans rfl, (blk_cell BK179.out 2).trans rfl, (blk_cell BK179.out 3).trans rfl, (blk_cell BK179.out 4).trans rfl, (blk_cell BK179.out 5).trans rfl⟩ (fun hHeld => ?_)
      clear hK K
      refine norm_ (a' := ?_) ?_ ?_
      rotate_left
      · show Act.put _ (some 22) _ = _
        simp only [Act.put, List.setIfInBounds_toArray, List.set_cons_zero, List.set_cons_succ, i64_w, i32_w]
        rfl
      refine pure_ (i := 3) (N := some 24) (v := ?_) (a' := ?_) #[true, true, true, true, false, false, false, false, false, false, false, false, false] rfl rfl (any_of HT_.out (by kernel_rfl)) (fun _ _ _ h => h) (Or.inl ⟨by rfl, ?_⟩) ?_ ?_
      rotate_left
      · intro w'
        go_simp
        with_reducible rfl
      rotate_left
      · simp only [Act.put, List.setIfInBounds_toArray, List.set_cons_zero, List.set_cons_succ, i64_w, i32_w]
        rfl
      refine pure_ (i := 4) (N := some 25) (v := ?_) (a' := ?_) #[true, true, true, true, true, false, false, false, false, false, false, false, false] rfl rfl (any_of HT_.out (by kernel_rfl)) (fun _ _ _ h => h) (Or.inl ⟨by rfl, ?_⟩) ?_ ?_
      rotate_left
      · intro w'
        go_simp
        with_reducible rfl
      rotate_left
      · simp only [Act.put, List.setIfInBounds_toArray, List.set_cons_zero, List.set_cons_succ, i64_w, i32_w]
        rfl
      refine pure_ (i := 5) (N := some 26) (v := ?_) (a' := ?_) #[true, true, true, true, true, true, false, false, false, false, false, false, false] rfl rfl (any_of HT_.out (by kernel_rfl)) (fun _ _ _ h => h) (Or.inl ⟨by rfl, ?_⟩) ?_ ?_
      rotate_left
      · intro w'
        go_simp
        with_reducible rfl
      rotate_left
      · simp only [Act.put, List.setIfInBounds_toArray, List.set_cons_zero, List.set_cons_succ, i64_w, i32_w]
        rfl
      refine pure_ (i := 6) (N := some 27) (v := ?_) (a' := ?_) #[true, true, true, true, true, true, true, false, false, false, false, false, false] rfl rfl (any_of HT_.out (by kernel_rfl)) (fun _ _ _ h => h) (Or.inl ⟨by rfl, ?_⟩) ?_ ?_
      rotate_left
      · intro w'
        go_simp
        with_reducible rfl
      rotate_left
      · simp only [Act.put, List.setIfInBounds_toArray, List.set_cons_zero, List.set_cons_succ, i64_w, i32_w]
        rfl
      refine pure_ (i := 7) (N := some 28) (v := ?_) (a' := ?_) #[true, true, true, true, true, true, true, true, false, false, false, false, false] rfl rfl (any_of HT_.out (by kernel_rfl)) (fun _ _ _ h => h) (Or.inl ⟨by rfl, ?_⟩) ?_ ?_
      rotate_left
      · intro w'
        go_simp
        with_reducible rfl
      rotate_left
      · simp only [Act.put, List.setIfInBounds_toArray, List.set_cons_zero, List.set_cons_succ, i64_w, i32_w]
        rfl
      refine pure_ (i := 8) (N := some 29) (v := ?_) (a' := ?_) #[true, true, true, true, true, true, true, true, true, false, false, false, false] rfl rfl (any_of HT_.out (by kernel_rfl)) (fun _ _ _ h => h) (Or.inl ⟨by rfl, ?_⟩) ?_ ?_
      rotate_left
      · intro w'
        go_simp
        with_reducible rfl
      rotate_left
      · simp only [Act.put, List.setIfInBounds_toArray, List.set_cons_zero, List.set_cons_succ, i64_w, i32_w]
        rfl
      refine pure_ (i := 9) (N := some 30) (v := ?_) (a' := ?_) #[true, true, true, true, true, true, true, true, true, true, false, false, false] rfl rfl (any_of HT_.out (by kernel_rfl)) (fun _ _ _ h => h) (Or.inl ⟨by rfl, ?_⟩) ?_ ?_
      rotate_left
      · intro w'
        go_simp
        with_reducible rfl
      rotate_left
      · simp only [Act.put, List.setIfInBounds_toArray, List.set_cons_zero, List.set_cons_succ, i64_w, i32_w]
        rfl
      refine one_ (i := 10) (N := some 31) #[true, true, true, true, true, true, true, true, true, true, true, false, false] rfl rfl (one_of HT_.out (by kernel_rfl)) (by decide) (fun K hK => ?_)
      refine goes_ Try.func9 (by kernel_rfl) rfl #[] (by rfl) rfl rfl (by (try simp only [List.map_toArray, List.map_cons, List.map_nil]); first | done | rfl | (simp only [List.length_drop, List.length_take]; rfl)) ?_
      with_reducible refine (quillpenlaw04_awake.calls k  t186 _ A7.out).mono ?_
      rintro e w18 ⟨rfl, hb⟩
      refine ⟨_, rfl, ?_⟩
      have n0_ := Aside0.mk (blk_below (g := gb171) (o := .cells #[.bool t164, .bool t165, .bool t166, .bool t167, .bool t168, .int .u8 t169] 30 (0, 0)) (by (with_reducible repeat (first | refine blk_drewN ?_ _ | refine blk_drew ?_ | refine blk_alloc ?_ _)); exact BK171.out) hb)
      have n1_ := Aside0.mk (blk_below (g := gb179) (o := .cells #[.int .i64 t172, .int .i64 t173, .int .i64 t174, .int .i64 t175, .int .i64 t176, .int .i64 t177] 35 (0, 0)) (by (with_reducible repeat (first | refine blk_drewN ?_ _ | refine blk_drew ?_ | refine blk_alloc ?_ _)); exact BK179.out) hb)
      have n2_ := Aside0.mk (below_step (by repeat (first | (with_reducible first | exact HB.out | apply below_alloc | apply pw_below_drewN | apply below_drew1 | refine below_set ?_ GE171.out | refine below_set ?_ GE179.out) | exact HB.out)) hb)
      clear BK171
      clear BK179
      clear HB
      have BK171 := n0_
      have BK179 := n1_
      have HB := n2_
      clear n0_ n1_ n2_
      (try clear hb)
      (try clear hb2)
      (try clear hk)
      (try clear hi)
      refine hK.out _ _ ⟨(blk_cell BK171.out 0).trans rfl, (blk_cell BK171.out 1).trans rfl, (blk_cell BK171.out 2).trans rfl, (blk_cell BK171.out 3).trans rfl, (blk_cell BK171.out 4).trans rfl, (blk_cell BK171.out 5).trans rfl, (blk_cell BK179.out 0).trans rfl, (blk_cell BK179.out 1).trans rfl, (blk_cell BK179.out 2).trans rfl, (blk_cell BK179.out 3).trans rfl, (blk_cell BK179.out 4).trans rfl, (blk_cell BK179.out 5).trans rfl⟩ (fun hHeld => ?_)
      clear hK K
      refine norm_ (a' := ?_) ?_ ?_
      rotate_left
      · show Act.put _ (some 31) _ = _
        simp only [Act.put, List.setIfInBounds_toArray, List.set_cons_zero, List.set_cons_succ, i64_w, i32_w]
        rfl
      refine pure_ (i := 11) (N := some 32) (v := ?_) (a' := ?_) #[true, true, true, true, true, true, true, true, true, true, true, true, false] rfl rfl (any_of HT_.out (by kernel_rfl)) (fun _ _ _ h => h) (Or.inl ⟨by rfl, ?_⟩) ?_ ?_
      rotate_left
      · intro w'
        go_simp
        with_reducible rfl
      rotate_left
      · simp only [Act.put, List.setIfInBounds_toArray, List.set_cons_zero, List.set_cons_succ, i64_w, i32_w]
        rfl
      refine pure_ (i := 12) (N := some 2) (v := ?_) (a' := ?_) #[true, true, true, true, true, true, true, true, true, true, true, true, true] rfl rfl (any_of HT_.out (by kernel_rfl)) (fun _ _ _ h => h) (Or.inl ⟨by rfl, ?_⟩) ?_ ?_
      rotate_left
      · intro w'
        go_simp
        with_reducible rfl
      rotate_left
      · simp only [Act.put, List.setIfInBounds_toArray, List.set_cons_zero, List.set_cons_succ, i64_w, i32_w]
        rfl
      refine done_ (done_of HT_.out (by kernel_rfl)) ?_
      try go_wp2
      go_ret
      exact ⟨by first | rfl | (simp [errW_none, errW_some] <;> rfl) | (simp [*, errW_none, errW_some] <;> rfl), by repeat (first | (with_reducible first | exact HB.out | apply below_alloc | apply pw_below_drewN | apply below_drew1 | refine below_set ?_ GE171.out | refine below_set ?_ GE179.out) | exact HB.out)⟩
    · rw [if_neg c6] at H
      have c6b0 : (t170 == t178) = false := beq_eq_false_iff_ne.mpr c6
      have c6b1 : (t170 != t178) = true := bne_iff_ne.mpr c6
      obtain rfl := Option.some.inj H
      go_enter Try.func4, Try.ntmps4
      try go_wp2_with (first | ((with_reducible refine gate_callee (f := 13) rfl ?_); refine goesL_ (some 13) rfl rfl Try.func13 (by kernel_rfl) rfl #[.int .i64 (Int.tmod (wrap64 (a0)) 7)] rfl (by (try simp only [List.map_toArray, List.map_cons, List.map_nil]); first | done | rfl | (simp only [List.length_drop, List.length_take]; rfl)) ?_; (with_reducible refine (scan_Close.calls (Int.tmod (wrap64 (a0)) 7) t164 t165 t166 t167 t168 t169 t170 _ A2.out).mono ?_); rintro e w19 ⟨rfl, hb⟩; refine ⟨_, rfl, ?_⟩; have n0_ := Aside0.mk (below_step (by repeat (first | (with_reducible first | exact HB.out | apply below_alloc | apply pw_below_drewN | apply below_drew1) | exact HB.out)) hb); clear HB; have HB := n0_; clear n0_; (try clear hb); (try clear hb2); (try clear hk); (try clear hi)) | ((with_reducible refine gate_dst (N := 4) rfl ?_); refine box_event ?hg (N := 4) ?hd (cs := #[.bool false, .bool false, .bool false, .bool false, .bool false, .int .u8 0]) (t := 30) ?hr ?_; (case hd => rfl); (case hg => rfl); (case hr => first | (go_simp; done) | (go_simp; rfl)); intro gb171 hg w20 hbox hb; have n0_ := Aside0.mk (below_step (by repeat (first | (with_reducible first | exact HB.out | apply below_alloc | apply pw_below_drewN | apply below_drew1) | exact HB.out)) hb); have n1_ := Aside0.mk (hbox); have n2_ := Aside0.mk ((by rw [hg]; exact (below_size (by repeat (first | (with_reducible first | exact HB.out | apply below_alloc | apply pw_below_drewN | apply below_drew1) | exact HB.out))) : w.heap.size ≤ gb171)); have n3_ := Aside0.mk ((by rw [hg]; exact (below_size (by repeat (first | (with_reducible first | exact HB.out | apply below_alloc | apply pw_below_drewN | apply below_drew1) | exact HB.out))) : w.heap.size ≤ gb171)); clear HB; have HB := n0_; have BK171 := n1_; have GW171 := n2_; have GE171 := n3_; clear n0_ n1_ n2_ n3_; clear hb hbox hg; have hcz21_0 : w20.cell? ⟨gb171, 0, none⟩ = some (.bool false) := (blk_cell BK171.out 0).trans rfl; have hcz21_1 : w20.cell? ⟨gb171, 1, none⟩ = some (.bool false) := (blk_cell BK171.out 1).trans rfl; have hcz21_2 : w20.cell? ⟨gb171, 2, none⟩ = some (.bool false) := (blk_cell BK171.out 2).trans rfl; have hcz21_3 : w20.cell? ⟨gb171, 3, none⟩ = some (.bool false) := (blk_cell BK171.out 3).trans rfl; have hcz21_4 : w20.cell? ⟨gb171, 4, none⟩ = some (.bool false) := (blk_cell BK171.out 4).trans rfl; have hcz21_5 : w20.cell? ⟨gb171, 5, none⟩ = some (.int .u8 0) := (blk_cell BK171.out 5).trans rfl; have hfz21_0 := blk_frozen BK171.out 0; have hfz21_1 := blk_frozen BK171.out 1; have hfz21_2 := blk_frozen BK171.out 2; have hfz21_3 := blk_frozen BK171.out 3; have hfz21_4 := blk_frozen BK171.out 4; have hfz21_5 := blk_frozen BK171.out 5) | ((with_reducible refine gate_callee (f := 14) rfl ?_); refine goesL_ (some 18) rfl rfl Try.func14 (by kernel_rfl) rfl #[.int .i64 (Int.tmod (wrap64 (a0)) 7)] rfl (by (try simp only [List.map_toArray, List.map_cons, List.map_nil]); first | done | rfl | (simp only [List.length_drop, List.length_take]; rfl)) ?_; (with_reducible refine (quillpenref04_Close.calls (Int.tmod (wrap64 (a0)) 7) t172 t173 t174 t175 t176 t177 t178 _ A3.out).mono ?_); rintro e w22 ⟨rfl, hb⟩; refine ⟨_, rfl, ?_⟩; have n0_ := Aside0.mk (blk_below (g := gb171) (o := .cells #[.bool t164, .bool t165, .bool t166, .bool t167, .bool t168, .int .u8 t169] 30 (0, 0)) (by (with_reducible repeat (first | refine blk_drewN ?_ _ | refine blk_drew ?_ | refine blk_alloc ?_ _)); refine blk_put (cs := #[.bool t164, .bool t165, .bool t166, .bool t167, .bool t168, .int .u8 0]) ?_ 5 _ rfl; (with_reducible repeat (first | refine blk_drewN ?_ _ | refine blk_drew ?_ | refine blk_alloc ?_ _)); refine blk_put (cs := #[.bool t164, .bool t165, .bool t166, .bool t167, .bool false, .int .u8 0]) ?_ 4 _ rfl; (with_reducible repeat (first | refine blk_drewN ?_ _ | refine blk_drew ?_ | refine blk_alloc ?_ _)); refine blk_put (cs := #[.bool t164, .bool t165, .bool t166, .bool false, .bool false, .int .u8 0]) ?_ 3 _ rfl; (with_reducible repeat (first | refine blk_drewN ?_ _ | refine blk_drew ?_ | refine blk_alloc ?_ _)); refine blk_put (cs := #[.bool t164, .bool t165, .bool false, .bool false, .bool false, .int .u8 0]) ?_ 2 _ rfl; (with_reducible repeat (first | refine blk_drewN ?_ _ | refine blk_drew ?_ | refine blk_alloc ?_ _)); refine blk_put (cs := #[.bool t164, .bool false, .bool false, .bool false, .bool false, .int .u8 0]) ?_ 1 _ rfl; (with_reducible repeat (first | refine blk_drewN ?_ _ | refine blk_drew ?_ | refine blk_alloc ?_ _)); refine blk_put (cs := #[.bool false, .bool false, .bool false, .bool false, .bool false, .int .u8 0]) ?_ 0 _ rfl; (with_reducible repeat (first | refine blk_drewN ?_ _ | refine blk_drew ?_ | refine blk_alloc ?_ _)); exact BK171.out) hb); have n1_ := Aside0.mk (below_step (by repeat (first | (with_reducible first | exact HB.out | apply below_alloc | apply pw_below_drewN | apply below_drew1 | refine below_set ?_ GE171.out) | exact HB.out)) hb); clear BK171; clear HB; have BK171 := n0_; have HB := n1_; clear n0_ n1_; (try clear hb); (try clear hb2); (try clear hk); (try clear hi)) | ((with_reducible refine gate_dst (N := 6) rfl ?_); refine box_event ?hg (N := 6) ?hd (cs := #[.int .i64 0, .int .i64 0, .int .i64 0, .int .i64 0, .int .i64 0, .int .i64 0]) (t := 35) ?hr ?_; (case hd => rfl); (case hg => rfl); (case hr => first | (go_simp; done) | (go_simp; rfl)); intro gb179 hg w23 hbox hb; have n0_ := Aside0.mk (blk_below (g := gb171) (o := .cells #[.bool t164, .bool t165, .bool t166, .bool t167, .bool t168, .int .u8 t169] 30 (0, 0)) (by (with_reducible repeat (first | refine blk_drewN ?_ _ | refine blk_drew ?_ | refine blk_alloc ?_ _)); exact BK171.out) hb); have n1_ := Aside0.mk (below_step (by repeat (first | (with_reducible first | exact HB.out | apply below_alloc | apply pw_below_drewN | apply below_drew1 | refine below_set ?_ GE171.out) | exact HB.out)) hb); have n2_ := Aside0.mk (hbox); have n3_ := Aside0.mk ((by rw [hg]; exact (below_size (by repeat (first | (with_reducible first | exact HB.out | apply below_alloc | apply pw_below_drewN | apply below_drew1 | refine below_set ?_ GE171.out) | exact HB.out))) : w.heap.size ≤ gb179)); have n4_ := Aside0.mk ((by rw [hg]; exact (below_size (by repeat (first | (with_reducible first | exact HB.out | apply below_alloc | apply pw_below_drewN | apply below_drew1 | refine below_set ?_ GE171.out) | exact HB.out))) : w.heap.size ≤ gb179)); have n5_ := Aside0.mk ((by rw [hg]; exact Nat.ne_of_lt (blk_lt (g := gb171) (o := .cells #[.bool t164, .bool t165, .bool t166, .bool t167, .bool t168, .int .u8 t169] 30 (0, 0)) (by (with_reducible repeat (first | refine blk_drewN ?_ _ | refine blk_drew ?_ | refine blk_alloc ?_ _)); exact BK171.out)) : gb171 ≠ gb179)); have n6_ := Aside0.mk ((by rw [hg]; exact Nat.ne_of_gt (blk_lt (g := gb171) (o := .cells #[.bool t164, .bool t165, .bool t166, .bool t167, .bool t168, .int .u8 t169] 30 (0, 0)) (by (with_reducible repeat (first | refine blk_drewN ?_ _ | refine blk_drew ?_ | refine blk_alloc ?_ _)); exact BK171.out)) : gb179 ≠ gb171)); clear BK171; clear HB; have BK171 := n0_; have HB := n1_; have BK179 := n2_; have GW179 := n3_; have GE179 := n4_; have NB171_179 := n5_; have NB179_171 := n6_; clear n0_ n1_ n2_ n3_ n4_ n5_ n6_; clear hb hbox hg; have hnb24 := NB179_171.out; have hnc24 := NB171_179.out; have hcz25_0 : w23.cell? ⟨gb179, 0, none⟩ = some (.int .i64 0) := (blk_cell BK179.out 0).trans rfl; have hcz25_1 : w23.cell? ⟨gb179, 1, none⟩ = some (.int .i64 0) := (blk_cell BK179.out 1).trans rfl; have hcz25_2 : w23.cell? ⟨gb179, 2, none⟩ = some (.int .i64 0) := (blk_cell BK179.out 2).trans rfl; have hcz25_3 : w23.cell? ⟨gb179, 3, none⟩ = some (.int .i64 0) := (blk_cell BK179.out 3).trans rfl; have hcz25_4 : w23.cell? ⟨gb179, 4, none⟩ = some (.int .i64 0) := (blk_cell BK179.out 4).trans rfl; have hcz25_5 : w23.cell? ⟨gb179, 5, none⟩ = some (.int .i64 0) := (blk_cell BK179.out 5).trans rfl; have hfz25_0 := blk_frozen BK179.out 0; have hfz25_1 := blk_frozen BK179.out 1; have hfz25_2 := blk_frozen BK179.out 2; have hfz25_3 := blk_frozen BK179.out 3; have hfz25_4 := blk_frozen BK179.out 4; have hfz25_5 := blk_frozen BK179.out 5))
      have n0_ : Aside0 (((((((w23.setCell ⟨gb179, 0, none⟩ (.int .i64 t172)).setCell ⟨gb179, 1, none⟩ (.int .i64 t173)).setCell ⟨gb179, 2, none⟩ (.int .i64 t174)).setCell ⟨gb179, 3, none⟩ (.int .i64 t175)).setCell ⟨gb179, 4, none⟩ (.int .i64 t176)).setCell ⟨gb179, 5, none⟩ (.int .i64 t177)).heap[gb171]? = some (.cells #[.bool t164, .bool t165, .bool t166, .bool t167, .bool t168, .int .u8 t169] 30 (0, 0))) := ⟨by (with_reducible repeat (first | refine blk_drewN ?_ _ | refine blk_drew ?_ | refine blk_alloc ?_ _)); refine blk_far ?_ NB171_179.out _; (with_reducible repeat (first | refine blk_drewN ?_ _ | refine blk_drew ?_ | refine blk_alloc ?_ _)); refine blk_far ?_ NB171_179.out _; (with_reducible repeat (first | refine blk_drewN ?_ _ | refine blk_drew ?_ | refine blk_alloc ?_ _)); refine blk_far ?_ NB171_179.out _; (with_reducible repeat (first | refine blk_drewN ?_ _ | refine blk_drew ?_ | refine blk_alloc ?_ _)); refine blk_far ?_ NB171_179.out _; (with_reducible repeat (first | refine blk_drewN ?_ _ | refine blk_drew ?_ | refine blk_alloc ?_ _)); refine blk_far ?_ NB171_179.out _; (with_reducible repeat (first | refine blk_drewN ?_ _ | refine blk_drew ?_ | refine blk_alloc ?_ _)); refine blk_far ?_ NB171_179.out _; (with_reducible repeat (first | refine blk_drewN ?_ _ | refine blk_drew ?_ | refine blk_alloc ?_ _)); exact BK171.out⟩
      have n1_ : Aside0 (((((((w23.setCell ⟨gb179, 0, none⟩ (.int .i64 t172)).setCell ⟨gb179, 1, none⟩ (.int .i64 t173)).setCell ⟨gb179, 2, none⟩ (.int .i64 t174)).setCell ⟨gb179, 3, none⟩ (.int .i64 t175)).setCell ⟨gb179, 4, none⟩ (.int .i64 t176)).setCell ⟨gb179, 5, none⟩ (.int .i64 t177)).heap[gb179]? = some (.cells #[.int .i64 t172, .int .i64 t173, .int .i64 t174, .int .i64 t175, .int .i64 t176, .int .i64 t177] 35 (0, 0))) := ⟨by (with_reducible repeat (first | refine blk_drewN ?_ _ | refine blk_drew ?_ | refine blk_alloc ?_ _)); refine blk_put (cs := #[.int .i64 t172, .int .i64 t173, .int .i64 t174, .int .i64 t175, .int .i64 t176, .int .i64 0]) ?_ 5 _ rfl; (with_reducible repeat (first | refine blk_drewN ?_ _ | refine blk_drew ?_ | refine blk_alloc ?_ _)); refine blk_put (cs := #[.int .i64 t172, .int .i64 t173, .int .i64 t174, .int .i64 t175, .int .i64 0, .int .i64 0]) ?_ 4 _ rfl; (with_reducible repeat (first | refine blk_drewN ?_ _ | refine blk_drew ?_ | refine blk_alloc ?_ _)); refine blk_put (cs := #[.int .i64 t172, .int .i64 t173, .int .i64 t174, .int .i64 0, .int .i64 0, .int .i64 0]) ?_ 3 _ rfl; (with_reducible repeat (first | refine blk_drewN ?_ _ | refine blk_drew ?_ | refine blk_alloc ?_ _)); refine blk_put (cs := #[.int .i64 t172, .int .i64 t173, .int .i64 0, .int .i64 0, .int .i64 0, .int .i64 0]) ?_ 2 _ rfl; (with_reducible repeat (first | refine blk_drewN ?_ _ | refine blk_drew ?_ | refine blk_alloc ?_ _)); refine blk_put (cs := #[.int .i64 t172, .int .i64 0, .int .i64 0, .int .i64 0, .int .i64 0, .int .i64 0]) ?_ 1 _ rfl; (with_reducible repeat (first | refine blk_drewN ?_ _ | refine blk_drew ?_ | refine blk_alloc ?_ _)); refine blk_put (cs := #[.int .i64 0, .int .i64 0, .int .i64 0, .int .i64 0, .int .i64 0, .int .i64 0]) ?_ 0 _ rfl; (with_reducible repeat (first | refine blk_drewN ?_ _ | refine blk_drew ?_ | refine blk_alloc ?_ _)); exact BK179.out⟩
      have n2_ : Aside0 (Below w.heap.size w ((((((w23.setCell ⟨gb179, 0, none⟩ (.int .i64 t172)).setCell ⟨gb179, 1, none⟩ (.int .i64 t173)).setCell ⟨gb179, 2, none⟩ (.int .i64 t174)).setCell ⟨gb179, 3, none⟩ (.int .i64 t175)).setCell ⟨gb179, 4, none⟩ (.int .i64 t176)).setCell ⟨gb179, 5, none⟩ (.int .i64 t177))) := ⟨by repeat (first | (with_reducible first | exact HB.out | apply below_alloc | apply pw_below_drewN | apply below_drew1 | refine below_set ?_ GE171.out | refine below_set ?_ GE179.out) | exact HB.out)⟩
      (try clear BK171)
      (try clear BK179)
      (try clear HB)
      generalize ((((((w23.setCell ⟨gb179, 0, none⟩ (.int .i64 t172)).setCell ⟨gb179, 1, none⟩ (.int .i64 t173)).setCell ⟨gb179, 2, none⟩ (.int .i64 t174)).setCell ⟨gb179, 3, none⟩ (.int .i64 t175)).setCell ⟨gb179, 4, none⟩ (.int .i64 t176)).setCell ⟨gb179, 5, none⟩ (.int .i64 t177)) = w26 at n0_ n1_ n2_ ⊢
      have BK171 := n0_
      have BK179 := n1_
      have HB := n2_
      clear n0_ n1_ n2_
      have n0_ := Aside0.mk (blk_drew BK171.out)
      have n1_ := Aside0.mk (blk_drew BK179.out)
      have n2_ := Aside0.mk (below_drew1 HB.out)
      clear BK171
      clear BK179
      clear HB
      have BK171 := n0_
      have BK179 := n1_
      have HB := n2_
      clear n0_ n1_ n2_
      refine start_ (n := 13) (S := fun w' => w'.cell? ⟨gb171, 0, none⟩ = some (.bool t164) ∧ w'.cell? ⟨gb171, 1, none⟩ = some (.bool t165) ∧ w'.cell? ⟨gb171, 2, none⟩ = some (.bool t166) ∧ w'.cell? ⟨gb171, 3, none⟩ = some (.bool t167) ∧ w'.cell? ⟨gb171, 4, none⟩ = some (.bool t168) ∧ w'.cell? ⟨gb171, 5, none⟩ = some (.int .u8 t169) ∧ w'.cell? ⟨gb179, 0, none⟩ = some (.int .i64 t172) ∧ w'.cell? ⟨gb179, 1, none⟩ = some (.int .i64 t173) ∧ w'.cell? ⟨gb179, 2, none⟩ = some (.int .i64 t174) ∧ w'.cell? ⟨gb179, 3, none⟩ = some (.int .i64 t175) ∧ w'.cell? ⟨gb179, 4, none⟩ = some (.int .i64 t176) ∧ w'.cell? ⟨gb179, 5, none⟩ = some (.int .i64 t177)) (ds := []) #[false, false, false, false, false, false, false, false, false, false, false, false, false] (by kernel_rfl) rfl rfl ⟨(blk_cell BK171.out 0).trans rfl, (blk_cell BK171.out 1).trans rfl, (blk_cell BK171.out 2).trans rfl, (blk_cell BK171.out 3).trans rfl, (blk_cell BK171.out 4).trans rfl, (blk_cell BK171.out 5).trans rfl, (blk_cell BK179.out 0).trans rfl, (blk_cell BK179.out 1).trans rfl, (blk_cell BK179.out 2).trans rfl, (blk_cell BK179.out 3).trans rfl, (blk_cell BK179.out 4).trans rfl, (blk_cell BK179.out 5).trans rfl⟩ (fun hHeld => ?_); refine with_tabW quillpenlaw04_ScanCloses.tab4 quillpenlaw04_ScanCloses.bits4 (fun HT_ HW_ => ?_)
      generalize w26.drew = w27 at BK171 BK179 HB hHeld ⊢
      refine take_ (i := 0) (N := some 21) (v := ?_) (a' := ?_) #[true, false, false, false, false, false, false, false, false, false, false, false, false] rfl rfl (take_ofW HT_.out HW_.out (by kernel_rfl)) (fun _ _ _ h => h) (Or.inl ⟨by rfl, ?_⟩) hHeld ?_ ?_
      rotate_left
      · rintro w' ⟨s0, s1, s2, s3, s4, s5, s6, s7, s8, s9, s10, s11⟩
        go_simp
        with_reducible rfl
      rotate_left
      · simp only [Act.put, List.setIfInBounds_toArray, List.set_cons_zero, List.set_cons_succ, i64_w, i32_w]
        rfl
      refine take_ (i := 2) (N := some 23) (v := ?_) (a' := ?_) #[true, false, true, false, false, false, false, false, false, false, false, false, false] rfl rfl (take_ofW HT_.out HW_.out (by kernel_rfl)) (fun _ _ _ h => h) (Or.inl ⟨by rfl, ?_⟩) hHeld ?_ ?_
      rotate_left
      · rintro w' ⟨s0, s1, s2, s3, s4, s5, s6, s7, s8, s9, s10, s11⟩
        go_simp
        with_reducible rfl
      rotate_left
      · simp only [Act.put, List.setIfInBounds_toArray, List.set_cons_zero, List.set_cons_succ, i64_w, i32_w]
        rfl
      refine one_ (i := 1) (N := some 22) #[true, true, true, false, false, false, false, false, false, false, false, false, false] rfl rfl (one_of HT_.out (by kernel_rfl)) (by decide) (fun K hK => ?_)
      refine goes_ Try.func12 (by kernel_rfl) rfl #[.agg #[.bool t164, .bool t165, .bool t166, .bool t167, .bool t168, .int .u8 t169]] (by rfl) rfl rfl (by (try simp only [List.map_toArray, List.map_cons, List.map_nil]); first | done | rfl | (simp only [List.length_drop, List.length_take]; rfl)) ?_
      with_reducible refine (quillpenlaw04_Ref.calls t164 t165 t166 t167 t168 t169 t180 t181 t182 t183 t184 t185 _ A4.out).mono ?_
      rintro e w28 ⟨rfl, hb⟩
      refine ⟨_, rfl, ?_⟩
      have n0_ := Aside0.mk (blk_below (g := gb171) (o := .cells #[.bool t164, .bool t165, .bool t166, .bool t167, .bool t168, .int .u8 t169] 30 (0, 0)) (by (with_reducible repeat (first | refine blk_drewN ?_ _ | refine blk_drew ?_ | refine blk_alloc ?_ _)); exact BK171.out) hb)
      have n1_ := Aside0.mk (blk_below (g := gb179) (o := .cells #[.int .i64 t172, .int .i64 t173, .int .i64 t174, .int .i64 t175, .int .i64 t176, .int .i64 t177] 35 (0, 0)) (by (with_reducible repeat (first | refine blk_drewN ?_ _ | refine blk_drew ?_ | refine blk_alloc ?_ _)); exact BK179.out) hb)
      have n2_ := Aside0.mk (below_step (by repeat (first | (with_reducible first | exact HB.out | apply below_alloc | apply pw_below_drewN | apply below_drew1 | refine below_set ?_ GE171.out | refine below_set ?_ GE179.out) | exact HB.out)) hb)
      clear BK171
      clear BK179
      clear HB
      have BK171 := n0_
      have BK179 := n1_
      have HB := n2_
      clear n0_ n1_ n2_
      (try clear hb)
      (try clear hb2)
      (try clear hk)
      (try clear hi)
      refine hK.out _ _ ⟨(blk_cell BK171.out 0).trans rfl, (blk_cell BK171.out 1).trans rfl, (blk_cell BK171.out 2).trans rfl, (blk_cell BK171.out 3).trans rfl, (blk_cell BK171.out 4).trans rfl, (blk_cell BK171.out 5).trans rfl, (blk_cell BK179.out 0).trans rfl, (blk_cell BK179.out 1).trans rfl, (blk_cell BK179.out 2).trans rfl, (blk_cell BK179.out 3).trans rfl, (blk_cell BK179.out 4).trans rfl, (blk_cell BK179.out 5).trans rfl⟩ (fun hHeld => ?_)
      clear hK K
      refine norm_ (a' := ?_) ?_ ?_
      rotate_left
      · show Act.put _ (some 22) _ = _
        simp only [Act.put, List.setIfInBounds_toArray, List.set_cons_zero, List.set_cons_succ, i64_w, i32_w]
        rfl
      refine pure_ (i := 3) (N := some 24) (v := ?_) (a' := ?_) #[true, true, true, true, false, false, false, false, false, false, false, false, false] rfl rfl (any_of HT_.out (by kernel_rfl)) (fun _ _ _ h => h) (Or.inl ⟨by rfl, ?_⟩) ?_ ?_
      rotate_left
      · intro w'
        go_simp
        with_reducible rfl
      rotate_left
      · simp only [Act.put, List.setIfInBounds_toArray, List.set_cons_zero, List.set_cons_succ, i64_w, i32_w]
        rfl
      refine pure_ (i := 4) (N := some 25) (v := ?_) (a' := ?_) #[true, true, true, true, true, false, false, false, false, false, false, false, false] rfl rfl (any_of HT_.out (by kernel_rfl)) (fun _ _ _ h => h) (Or.inl ⟨by rfl, ?_⟩) ?_ ?_
      rotate_left
      · intro w'
        go_simp
        with_reducible rfl
      rotate_left
      · simp only [Act.put, List.setIfInBounds_toArray, List.set_cons_zero, List.set_cons_succ, i64_w, i32_w]
        rfl
      refine pure_ (i := 5) (N := some 26) (v := ?_) (a' := ?_) #[true, true, true, true, true, true, false, false, false, false, false, false, false] rfl rfl (any_of HT_.out (by kernel_rfl)) (fun _ _ _ h => h) (Or.inl ⟨by rfl, ?_⟩) ?_ ?_
      rotate_left
      · intro w'
        go_simp
        with_reducible rfl
      rotate_left
      · simp only [Act.put, List.setIfInBounds_toArray, List.set_cons_zero, List.set_cons_succ, i64_w, i32_w]
        rfl
      refine pure_ (i := 6) (N := some 27) (v := ?_) (a' := ?_) #[true, true, true, true, true, true, true, false, false, false, false, false, false] rfl rfl (any_of HT_.out (by kernel_rfl)) (fun _ _ _ h => h) (Or.inl ⟨by rfl, ?_⟩) ?_ ?_
      rotate_left
      · intro w'
        go_simp
        with_reducible rfl
      rotate_left
      · simp only [Act.put, List.setIfInBounds_toArray, List.set_cons_zero, List.set_cons_succ, i64_w, i32_w]
        rfl
      refine pure_ (i := 7) (N := some 28) (v := ?_) (a' := ?_) #[true, true, true, true, true, true, true, true, false, false, false, false, false] rfl rfl (any_of HT_.out (by kernel_rfl)) (fun _ _ _ h => h) (Or.inl ⟨by rfl, ?_⟩) ?_ ?_
      rotate_left
      · intro w'
        go_simp
        with_reducible rfl
      rotate_left
      · simp only [Act.put, List.setIfInBounds_toArray, List.set_cons_zero, List.set_cons_succ, i64_w, i32_w]
        rfl
      refine pure_ (i := 8) (N := some 29) (v := ?_) (a' := ?_) #[true, true, true, true, true, true, true, true, true, false, false, false, false] rfl rfl (any_of HT_.out (by kernel_rfl)) (fun _ _ _ h => h) (Or.inl ⟨by rfl, ?_⟩) ?_ ?_
      rotate_left
      · intro w'
        go_simp
        with_reducible rfl
      rotate_left
      · simp only [Act.put, List.setIfInBounds_toArray, List.set_cons_zero, List.set_cons_succ, i64_w, i32_w]
        rfl
      refine pure_ (i := 9) (N := some 30) (v := ?_) (a' := ?_) #[true, true, true, true, true, true, true, true, true, true, false, false, false] rfl rfl (any_of HT_.out (by kernel_rfl)) (fun _ _ _ h => h) (Or.inl ⟨by rfl, ?_⟩) ?_ ?_
      rotate_left
      · intro w'
        go_simp
        with_reducible rfl
      rotate_left
      · simp only [Act.put, List.setIfInBounds_toArray, List.set_cons_zero, List.set_cons_succ, i64_w, i32_w]
        rfl
      refine pure_ (i := 10) (N := some 31) (v := undef) (a' := ?_) #[true, true, true, true, true, true, true, true, true, true, true, false, false] rfl rfl (any_of HT_.out (by kernel_rfl)) (fun _ _ _ h => h) (Or.inr ⟨by rfl, rfl⟩) ?_ ?_
      rotate_left
      · simp only [Act.put, List.setIfInBounds_toArray, List.set_cons_zero, List.set_cons_succ, i64_w, i32_w]
        rfl
      refine pure_ (i := 11) (N := some 32) (v := ?_) (a' := ?_) #[true, true, true, true, true, true, true, true, true, true, true, true, false] rfl rfl (any_of HT_.out (by kernel_rfl)) (fun _ _ _ h => h) (Or.inl ⟨by rfl, ?_⟩) ?_ ?_
      rotate_left
      · intro w'
        go_simp
        with_reducible rfl
      rotate_left
      · simp only [Act.put, List.setIfInBounds_toArray, List.set_cons_zero, List.set_cons_succ, i64_w, i32_w]
        rfl
      refine pure_ (i := 12) (N := some 2) (v := ?_) (a' := ?_) #[true, true, true, true, true, true, true, true, true, true, true, true, true] rfl rfl (any_of HT_.out (by kernel_rfl)) (fun _ _ _ h => h) (Or.inl ⟨by rfl, ?_⟩) ?_ ?_
      rotate_left
      · intro w'
        go_simp
        with_reducible rfl
      rotate_left
      · simp only [Act.put, List.setIfInBounds_toArray, List.set_cons_zero, List.set_cons_succ, i64_w, i32_w]
        rfl
      refine done_ (done_of HT_.out (by kernel_rfl)) ?_
      try go_wp2
      go_ret
      exact ⟨by first | rfl | (simp [errW_none, errW_some] <;> rfl) | (simp [*, errW_none, errW_some] <;> rfl), by repeat (first | (with_reducible first | exact HB.out | apply below_alloc | apply pw_below_drewN | apply below_drew1 | refine below_set ?_ GE171.out | refine below_set ?_ GE179.out) | exact HB.out)⟩
  · rw [if_neg c5] at H
    have c5b0 : (t180 == t172 && (t181 == t173 && (t182 == t174 && (t183 == t175 && (t184 == t176 && (t185 == t177)))))) = false := by simpa using c5
    (try (have c5b1 : decide (t180 = t172 && (t181 == t173 && (t182 == t174 && (t183 == t175 && (t184 == t176 && (t185 == t177)))))) = false := by simpa using c5))
    (try (have c5b2 : (t180 == t172 && (t181 == t173 && (t182 == t174 && (t183 == t175 && (t184 == t176 && (t185 == t177)))))) = false := by simpa using c5))
    (try (have c5b3 : ¬ (t180 = t172 && (t181 == t173 && (t182 == t174 && (t183 == t175 && (t184 == t176 && (t185 == t177)))))) := by simpa using c5))
    clear c5
    obtain rfl := Option.some.inj H
    go_enter Try.func4, Try.ntmps4
    try go_wp2_with (first | ((with_reducible refine gate_callee (f := 13) rfl ?_); refine goesL_ (some 13) rfl rfl Try.func13 (by kernel_rfl) rfl #[.int .i64 (Int.tmod (wrap64 (a0)) 7)] rfl (by (try simp only [List.map_toArray, List.map_cons, List.map_nil]); first | done | rfl | (simp only [List.length_drop, List.length_take]; rfl)) ?_; (with_reducible refine (scan_Close.calls (Int.tmod (wrap64 (a0)) 7) t164 t165 t166 t167 t168 t169 t170 _ A2.out).mono ?_); rintro e w29 ⟨rfl, hb⟩; refine ⟨_, rfl, ?_⟩; have n0_ := Aside0.mk (below_step (by repeat (first | (with_reducible first | exact HB.out | apply below_alloc | apply pw_below_drewN | apply below_drew1) | exact HB.out)) hb); clear HB; have HB := n0_; clear n0_; (try clear hb); (try clear hb2); (try clear hk); (try clear hi)) | ((with_reducible refine gate_dst (N := 4) rfl ?_); refine box_event ?hg (N := 4) ?hd (cs := #[.bool false, .bool false, .bool false, .bool false, .bool false, .int .u8 0]) (t := 30) ?hr ?_; (case hd => rfl); (case hg => rfl); (case hr => first | (go_simp; done) | (go_simp; rfl)); intro gb171 hg w30 hbox hb; have n0_ := Aside0.mk (below_step (by repeat (first | (with_reducible first | exact HB.out | apply below_alloc | apply pw_below_drewN | apply below_drew1) | exact HB.out)) hb); have n1_ := Aside0.mk (hbox); have n2_ := Aside0.mk ((by rw [hg]; exact (below_size (by repeat (first | (with_reducible first | exact HB.out | apply below_alloc | apply pw_below_drewN | apply below_drew1) | exact HB.out))) : w.heap.size ≤ gb171)); have n3_ := Aside0.mk ((by rw [hg]; exact (below_size (by repeat (first | (with_reducible first | exact HB.out | apply below_alloc | apply pw_below_drewN | apply below_drew1) | exact HB.out))) : w.heap.size ≤ gb171)); clear HB; have HB := n0_; have BK171 := n1_; have GW171 := n2_; have GE171 := n3_; clear n0_ n1_ n2_ n3_; clear hb hbox hg; have hcz31_0 : w30.cell? ⟨gb171, 0, none⟩ = some (.bool false) := (blk_cell BK171.out 0).trans rfl; have hcz31_1 : w30.cell? ⟨gb171, 1, none⟩ = some (.bool false) := (blk_cell BK171.out 1).trans rfl; have hcz31_2 : w30.cell? ⟨gb171, 2, none⟩ = some (.bool false) := (blk_cell BK171.out 2).trans rfl; have hcz31_3 : w30.cell? ⟨gb171, 3, none⟩ = some (.bool false) := (blk_cell BK171.out 3).trans rfl; have hcz31_4 : w30.cell? ⟨gb171, 4, none⟩ = some (.bool false) := (blk_cell BK171.out 4).trans rfl; have hcz31_5 : w30.cell? ⟨gb171, 5, none⟩ = some (.int .u8 0) := (blk_cell BK171.out 5).trans rfl; have hfz31_0 := blk_frozen BK171.out 0; have hfz31_1 := blk_frozen BK171.out 1; have hfz31_2 := blk_frozen BK171.out 2; have hfz31_3 := blk_frozen BK171.out 3; have hfz31_4 := blk_frozen BK171.out 4; have hfz31_5 := blk_frozen BK171.out 5) | ((with_reducible refine gate_callee (f := 14) rfl ?_); refine goesL_ (some 18) rfl rfl Try.func14 (by kernel_rfl) rfl #[.int .i64 (Int.tmod (wrap64 (a0)) 7)] rfl (by (try simp only [List.map_toArray, List.map_cons, List.map_nil]); first | done | rfl | (simp only [List.length_drop, List.length_take]; rfl)) ?_; (with_reducible refine (quillpenref04_Close.calls (Int.tmod (wrap64 (a0)) 7) t172 t173 t174 t175 t176 t177 t178 _ A3.out).mono ?_); rintro e w32 ⟨rfl, hb⟩; refine ⟨_, rfl, ?_⟩; have n0_ := Aside0.mk (blk_below (g := gb171) (o := .cells #[.bool t164, .bool t165, .bool t166, .bool t167, .bool t168, .int .u8 t169] 30 (0, 0)) (by (with_reducible repeat (first | refine blk_drewN ?_ _ | refine blk_drew ?_ | refine blk_alloc ?_ _)); refine blk_put (cs := #[.bool t164, .bool t165, .bool t166, .bool t167, .bool t168, .int .u8 0]) ?_ 5 _ rfl; (with_reducible repeat (first | refine blk_drewN ?_ _ | refine blk_drew ?_ | refine blk_alloc ?_ _)); refine blk_put (cs := #[.bool t164, .bool t165, .bool t166, .bool t167, .bool false, .int .u8 0]) ?_ 4 _ rfl; (with_reducible repeat (first | refine blk_drewN ?_ _ | refine blk_drew ?_ | refine blk_alloc ?_ _)); refine blk_put (cs := #[.bool t164, .bool t165, .bool t166, .bool false, .bool false, .int .u8 0]) ?_ 3 _ rfl; (with_reducible repeat (first | refine blk_drewN ?_ _ | refine blk_drew ?_ | refine blk_alloc ?_ _)); refine blk_put (cs := #[.bool t164, .bool t165, .bool false, .bool false, .bool false, .int .u8 0]) ?_ 2 _ rfl; (with_reducible repeat (first | refine blk_drewN ?_ _ | refine blk_drew ?_ | refine blk_alloc ?_ _)); refine blk_put (cs := #[.bool t164, .bool false, .bool false, .bool false, .bool false, .int .u8 0]) ?_ 1 _ rfl; (with_reducible repeat (first | refine blk_drewN ?_ _ | refine blk_drew ?_ | refine blk_alloc ?_ _)); refine blk_put (cs := #[.bool false, .bool false, .bool false, .bool false, .bool false, .int .u8 0]) ?_ 0 _ rfl; (with_reducible repeat (first | refine blk_drewN ?_ _ | refine blk_drew ?_ | refine blk_alloc ?_ _)); exact BK171.out) hb); have n1_ := Aside0.mk (below_step (by repeat (first | (with_reducible first | exact HB.out | apply below_alloc | apply pw_below_drewN | apply below_drew1 | refine below_set ?_ GE171.out) | exact HB.out)) hb); clear BK171; clear HB; have BK171 := n0_; have HB := n1_; clear n0_ n1_; (try clear hb); (try clear hb2); (try clear hk); (try clear hi)) | ((with_reducible refine gate_dst (N := 6) rfl ?_); refine box_event ?hg (N := 6) ?hd (cs := #[.int .i64 0, .int .i64 0, .int .i64 0, .int .i64 0, .int .i64 0, .int .i64 0]) (t := 35) ?hr ?_; (case hd => rfl); (case hg => rfl); (case hr => first | (go_simp; done) | (go_simp; rfl)); intro gb179 hg w33 hbox hb; have n0_ := Aside0.mk (blk_below (g := gb171) (o := .cells #[.bool t164, .bool t165, .bool t166, .bool t167, .bool t168, .int .u8 t169] 30 (0, 0)) (by (with_reducible repeat (first | refine blk_drewN ?_ _ | refine blk_drew ?_ | refine blk_alloc ?_ _)); exact BK171.out) hb); have n1_ := Aside0.mk (below_step (by repeat (first | (with_reducible first | exact HB.out | apply below_alloc | apply pw_below_drewN | apply below_drew1 | refine below_set ?_ GE171.out) | exact HB.out)) hb); have n2_ := Aside0.mk (hbox); have n3_ := Aside0.mk ((by rw [hg]; exact (below_size (by repeat (first | (with_reducible first | exact HB.out | apply below_alloc | apply pw_below_drewN | apply below_drew1 | refine below_set ?_ GE171.out) | exact HB.out))) : w.heap.size ≤ gb179)); have n4_ := Aside0.mk ((by rw [hg]; exact (below_size (by repeat (first | (with_reducible first | exact HB.out | apply below_alloc | apply pw_below_drewN | apply below_drew1 | refine below_set ?_ GE171.out) | exact HB.out))) : w.heap.size ≤ gb179)); have n5_ := Aside0.mk ((by rw [hg]; exact Nat.ne_of_lt (blk_lt (g := gb171) (o := .cells #[.bool t164, .bool t165, .bool t166, .bool t167, .bool t168, .int .u8 t169] 30 (0, 0)) (by (with_reducible repeat (first | refine blk_drewN ?_ _ | refine blk_drew ?_ | refine blk_alloc ?_ _)); exact BK171.out)) : gb171 ≠ gb179)); have n6_ := Aside0.mk ((by rw [hg]; exact Nat.ne_of_gt (blk_lt (g := gb171) (o := .cells #[.bool t164, .bool t165, .bool t166, .bool t167, .bool t168, .int .u8 t169] 30 (0, 0)) (by (with_reducible repeat (first | refine blk_drewN ?_ _ | refine blk_drew ?_ | refine blk_alloc ?_ _)); exact BK171.out)) : gb179 ≠ gb171)); clear BK171; clear HB; have BK171 := n0_; have HB := n1_; have BK179 := n2_; have GW179 := n3_; have GE179 := n4_; have NB171_179 := n5_; have NB179_171 := n6_; clear n0_ n1_ n2_ n3_ n4_ n5_ n6_; clear hb hbox hg; have hnb34 := NB179_171.out; have hnc34 := NB171_179.out; have hcz35_0 : w33.cell? ⟨gb179, 0, none⟩ = some (.int .i64 0) := (blk_cell BK179.out 0).trans rfl; have hcz35_1 : w33.cell? ⟨gb179, 1, none⟩ = some (.int .i64 0) := (blk_cell BK179.out 1).trans rfl; have hcz35_2 : w33.cell? ⟨gb179, 2, none⟩ = some (.int .i64 0) := (blk_cell BK179.out 2).trans rfl; have hcz35_3 : w33.cell? ⟨gb179, 3, none⟩ = some (.int .i64 0) := (blk_cell BK179.out 3).trans rfl; have hcz35_4 : w33.cell? ⟨gb179, 4, none⟩ = some (.int .i64 0) := (blk_cell BK179.out 4).trans rfl; have hcz35_5 : w33.cell? ⟨gb179, 5, none⟩ = some (.int .i64 0) := (blk_cell BK179.out 5).trans rfl; have hfz35_0 := blk_frozen BK179.out 0; have hfz35_1 := blk_frozen BK179.out 1; have hfz35_2 := blk_frozen BK179.out 2; have hfz35_3 := blk_frozen BK179.out 3; have hfz35_4 := blk_frozen BK179.out 4; have hfz35_5 := blk_frozen BK179.out 5))
    have n0_ : Aside0 (((((((w33.setCell ⟨gb179, 0, none⟩ (.int .i64 t172)).setCell ⟨gb179, 1, none⟩ (.int .i64 t173)).setCell ⟨gb179, 2, none⟩ (.int .i64 t174)).setCell ⟨gb179, 3, none⟩ (.int .i64 t175)).setCell ⟨gb179, 4, none⟩ (.int .i64 t176)).setCell ⟨gb179, 5, none⟩ (.int .i64 t177)).heap[gb171]? = some (.cells #[.bool t164, .bool t165, .bool t166, .bool t167, .bool t168, .int .u8 t169] 30 (0, 0))) := ⟨by (with_reducible repeat (first | refine blk_drewN ?_ _ | refine blk_drew ?_ | refine blk_alloc ?_ _)); refine blk_far ?_ NB171_179.out _; (with_reducible repeat (first | refine blk_drewN ?_ _ | refine blk_drew ?_ | refine blk_alloc ?_ _)); refine blk_far ?_ NB171_179.out _; (with_reducible repeat (first | refine blk_drewN ?_ _ | refine blk_drew ?_ | refine blk_alloc ?_ _)); refine blk_far ?_ NB171_179.out _; (with_reducible repeat (first | refine blk_drewN ?_ _ | refine blk_drew ?_ | refine blk_alloc ?_ _)); refine blk_far ?_ NB171_179.out _; (with_reducible repeat (first | refine blk_drewN ?_ _ | refine blk_drew ?_ | refine blk_alloc ?_ _)); refine blk_far ?_ NB171_179.out _; (with_reducible repeat (first | refine blk_drewN ?_ _ | refine blk_drew ?_ | refine blk_alloc ?_ _)); refine blk_far ?_ NB171_179.out _; (with_reducible repeat (first | refine blk_drewN ?_ _ | refine blk_drew ?_ | refine blk_alloc ?_ _)); exact BK171.out⟩
    have n1_ : Aside0 (((((((w33.setCell ⟨gb179, 0, none⟩ (.int .i64 t172)).setCell ⟨gb179, 1, none⟩ (.int .i64 t173)).setCell ⟨gb179, 2, none⟩ (.int .i64 t174)).setCell ⟨gb179, 3, none⟩ (.int .i64 t175)).setCell ⟨gb179, 4, none⟩ (.int .i64 t176)).setCell ⟨gb179, 5, none⟩ (.int .i64 t177)).heap[gb179]? = some (.cells #[.int .i64 t172, .int .i64 t173, .int .i64 t174, .int .i64 t175, .int .i64 t176, .int .i64 t177] 35 (0, 0))) := ⟨by (with_reducible repeat (first | refine blk_drewN ?_ _ | refine blk_drew ?_ | refine blk_alloc ?_ _)); refine blk_put (cs := #[.int .i64 t172, .int .i64 t173, .int .i64 t174, .int .i64 t175, .int .i64 t176, .int .i64 0]) ?_ 5 _ rfl; (with_reducible repeat (first | refine blk_drewN ?_ _ | refine blk_drew ?_ | refine blk_alloc ?_ _)); refine blk_put (cs := #[.int .i64 t172, .int .i64 t173, .int .i64 t174, .int .i64 t175, .int .i64 0, .int .i64 0]) ?_ 4 _ rfl; (with_reducible repeat (first | refine blk_drewN ?_ _ | refine blk_drew ?_ | refine blk_alloc ?_ _)); refine blk_put (cs := #[.int .i64 t172, .int .i64 t173, .int .i64 t174, .int .i64 0, .int .i64 0, .int .i64 0]) ?_ 3 _ rfl; (with_reducible repeat (first | refine blk_drewN ?_ _ | refine blk_drew ?_ | refine blk_alloc ?_ _)); refine blk_put (cs := #[.int .i64 t172, .int .i64 t173, .int .i64 0, .int .i64 0, .int .i64 0, .int .i64 0]) ?_ 2 _ rfl; (with_reducible repeat (first | refine blk_drewN ?_ _ | refine blk_drew ?_ | refine blk_alloc ?_ _)); refine blk_put (cs := #[.int .i64 t172, .int .i64 0, .int .i64 0, .int .i64 0, .int .i64 0, .int .i64 0]) ?_ 1 _ rfl; (with_reducible repeat (first | refine blk_drewN ?_ _ | refine blk_drew ?_ | refine blk_alloc ?_ _)); refine blk_put (cs := #[.int .i64 0, .int .i64 0, .int .i64 0, .int .i64 0, .int .i64 0, .int .i64 0]) ?_ 0 _ rfl; (with_reducible repeat (first | refine blk_drewN ?_ _ | refine blk_drew ?_ | refine blk_alloc ?_ _)); exact BK179.out⟩
    have n2_ : Aside0 (Below w.heap.size w ((((((w33.setCell ⟨gb179, 0, none⟩ (.int .i64 t172)).setCell ⟨gb179, 1, none⟩ (.int .i64 t173)).setCell ⟨gb179, 2, none⟩ (.int .i64 t174)).setCell ⟨gb179, 3, none⟩ (.int .i64 t175)).setCell ⟨gb179, 4, none⟩ (.int .i64 t176)).setCell ⟨gb179, 5, none⟩ (.int .i64 t177))) := ⟨by repeat (first | (with_reducible first | exact HB.out | apply below_alloc | apply pw_below_drewN | apply below_drew1 | refine below_set ?_ GE171.out | refine below_set ?_ GE179.out) | exact HB.out)⟩
    (try clear BK171)
    (try clear BK179)
    (try clear HB)
    generalize ((((((w33.setCell ⟨gb179, 0, none⟩ (.int .i64 t172)).setCell ⟨gb179, 1, none⟩ (.int .i64 t173)).setCell ⟨gb179, 2, none⟩ (.int .i64 t174)).setCell ⟨gb179, 3, none⟩ (.int .i64 t175)).setCell ⟨gb179, 4, none⟩ (.int .i64 t176)).setCell ⟨gb179, 5, none⟩ (.int .i64 t177)) = w36 at n0_ n1_ n2_ ⊢
    have BK171 := n0_
    have BK179 := n1_
    have HB := n2_
    clear n0_ n1_ n2_
    have n0_ := Aside0.mk (blk_drew BK171.out)
    have n1_ := Aside0.mk (blk_drew BK179.out)
    have n2_ := Aside0.mk (below_drew1 HB.out)
    clear BK171
    clear BK179
    clear HB
    have BK171 := n0_
    have BK179 := n1_
    have HB := n2_
    clear n0_ n1_ n2_
    refine start_ (n := 13) (S := fun w' => w'.cell? ⟨gb171, 0, none⟩ = some (.bool t164) ∧ w'.cell? ⟨gb171, 1, none⟩ = some (.bool t165) ∧ w'.cell? ⟨gb171, 2, none⟩ = some (.bool t166) ∧ w'.cell? ⟨gb171, 3, none⟩ = some (.bool t167) ∧ w'.cell? ⟨gb171, 4, none⟩ = some (.bool t168) ∧ w'.cell? ⟨gb171, 5, none⟩ = some (.int .u8 t169) ∧ w'.cell? ⟨gb179, 0, none⟩ = some (.int .i64 t172) ∧ w'.cell? ⟨gb179, 1, none⟩ = some (.int .i64 t173) ∧ w'.cell? ⟨gb179, 2, none⟩ = some (.int .i64 t174) ∧ w'.cell? ⟨gb179, 3, none⟩ = some (.int .i64 t175) ∧ w'.cell? ⟨gb179, 4, none⟩ = some (.int .i64 t176) ∧ w'.cell? ⟨gb179, 5, none⟩ = some (.int .i64 t177)) (ds := []) #[false, false, false, false, false, false, false, false, false, false, false, false, false] (by kernel_rfl) rfl rfl ⟨(blk_cell BK171.out 0).trans rfl, (blk_cell BK171.out 1).trans rfl, (blk_cell BK171.out 2).trans rfl, (blk_cell BK171.out 3).trans rfl, (blk_cell BK171.out 4).trans rfl, (blk_cell BK171.out 5).trans rfl, (blk_cell BK179.out 0).trans rfl, (blk_cell BK179.out 1).trans rfl, (blk_cell BK179.out 2).trans rfl, (blk_cell BK179.out 3).trans rfl, (blk_cell BK179.out 4).trans rfl, (blk_cell BK179.out 5).trans rfl⟩ (fun hHeld => ?_); refine with_tabW quillpenlaw04_ScanCloses.tab4 quillpenlaw04_ScanCloses.bits4 (fun HT_ HW_ => ?_)
    generalize w36.drew = w37 at BK171 BK179 HB hHeld ⊢
    refine take_ (i := 0) (N := some 21) (v := ?_) (a' := ?_) #[true, false, false, false, false, false, false, false, false, false, false, false, false] rfl rfl (take_ofW HT_.out HW_.out (by kernel_rfl)) (fun _ _ _ h => h) (Or.inl ⟨by rfl, ?_⟩) hHeld ?_ ?_
    rotate_left
    · rintro w' ⟨s0, s1, s2, s3, s4, s5, s6, s7, s8, s9, s10, s11⟩
      go_simp
      with_reducible rfl
    rotate_left
    · simp only [Act.put, List.setIfInBounds_toArray, List.set_cons_zero, List.set_cons_succ, i64_w, i32_w]
      rfl
    refine take_ (i := 2) (N := some 23) (v := ?_) (a' := ?_) #[true, false, true, false, false, false, false, false, false, false, false, false, false] rfl rfl (take_ofW HT_.out HW_.out (by kernel_rfl)) (fun _ _ _ h => h) (Or.inl ⟨by rfl, ?_⟩) hHeld ?_ ?_
    rotate_left
    · rintro w' ⟨s0, s1, s2, s3, s4, s5, s6, s7, s8, s9, s10, s11⟩
      go_simp
      with_reducible rfl
    rotate_left
    · simp only [Act.put, List.setIfInBounds_toArray, List.set_cons_zero, List.set_cons_succ, i64_w, i32_w]
      rfl
    refine one_ (i := 1) (N := some 22) #[true, true, true, false, false, false, false, false, false, false, false, false, false] rfl rfl (one_of HT_.out (by kernel_rfl)) (by decide) (fun K hK => ?_)
    refine goes_ Try.func12 (by kernel_rfl) rfl #[.agg #[.bool t164, .bool t165, .bool t166, .bool t167, .bool t168, .int .u8 t169]] (by rfl) rfl rfl (by (try simp only [List.map_toArray, List.map_cons, List.map_nil]); first | done | rfl | (simp only [List.length_drop, List.length_take]; rfl)) ?_
    with_reducible refine (quillpenlaw04_Ref.calls t164 t165 t166 t167 t168 t169 t180 t181 t182 t183 t184 t185 _ A4.out).mono ?_
    rintro e w38 ⟨rfl, hb⟩
    refine ⟨_, rfl, ?_⟩
    have n0_ := Aside0.mk (blk_below (g := gb171) (o := .cells #[.bool t164, .bool t165, .bool t166, .bool t167, .bool t168, .int .u8 t169] 30 (0, 0)) (by (with_reducible repeat (first | refine blk_drewN ?_ _ | refine blk_drew ?_ | refine blk_alloc ?_ _)); exact BK171.out) hb)
    have n1_ := Aside0.mk (blk_below (g := gb179) (o := .cells #[.int .i64 t172, .int .i64 t173, .int .i64 t174, .int .i64 t175, .int .i64 t176, .int .i64 t177] 35 (0, 0)) (by (with_reducible repeat (first | refine blk_drewN ?_ _ | refine blk_drew ?_ | refine blk_alloc ?_ _)); exact BK179.out) hb)
    have n2_ := Aside0.mk (below_step (by repeat (first | (with_reducible first | exact HB.out | apply below_alloc | apply pw_below_drewN | apply below_drew1 | refine below_set ?_ GE171.out | refine below_set ?_ GE179.out) | exact HB.out)) hb)
    clear BK171
    clear BK179
    clear HB
    have BK171 := n0_
    have BK179 := n1_
    have HB := n2_
    clear n0_ n1_ n2_
    (try clear hb)
    (try clear hb2)
    (try clear hk)
    (try clear hi)
    refine hK.out _ _ ⟨(blk_cell BK171.out 0).trans rfl, (blk_cell BK171.out 1).trans rfl, (blk_cell BK171.out 2).trans rfl, (blk_cell BK171.out 3).trans rfl, (blk_cell BK171.out 4).trans rfl, (blk_cell BK171.out 5).trans rfl, (blk_cell BK179.out 0).trans rfl, (blk_cell BK179.out 1).trans rfl, (blk_cell BK179.out 2).trans rfl, (blk_cell BK179.out 3).trans rfl, (blk_cell BK179.out 4).trans rfl, (blk_cell BK179.out 5).trans rfl⟩ (fun hHeld => ?_)
    clear hK K
    refine norm_ (a' := ?_) ?_ ?_
    rotate_left
    · show Act.put _ (some 22) _ = _
      simp only [Act.put, List.setIfInBounds_toArray, List.set_cons_zero, List.set_cons_succ, i64_w, i32_w]
      rfl
    refine pure_ (i := 3) (N := some 24) (v := ?_) (a' := ?_) #[true, true, true, true, false, false, false, false, false, false, false, false, false] rfl rfl (any_of HT_.out (by kernel_rfl)) (fun _ _ _ h => h) (Or.inl ⟨by rfl, ?_⟩) ?_ ?_
    rotate_left
    · intro w'
      go_simp
      with_reducible rfl
    rotate_left
    · simp only [Act.put, List.setIfInBounds_toArray, List.set_cons_zero, List.set_cons_succ, i64_w, i32_w]
      rfl
    refine pure_ (i := 4) (N := some 25) (v := ?_) (a' := ?_) #[true, true, true, true, true, false, false, false, false, false, false, false, false] rfl rfl (any_of HT_.out (by kernel_rfl)) (fun _ _ _ h => h) (Or.inl ⟨by rfl, ?_⟩) ?_ ?_
    rotate_left
    · intro w'
      go_simp
      with_reducible rfl
    rotate_left
    · simp only [Act.put, List.setIfInBounds_toArray, List.set_cons_zero, List.set_cons_succ, i64_w, i32_w]
      rfl
    refine pure_ (i := 5) (N := some 26) (v := undef) (a' := ?_) #[true, true, true, true, true, true, false, false, false, false, false, false, false] rfl rfl (any_of HT_.out (by kernel_rfl)) (fun _ _ _ h => h) (Or.inr ⟨by rfl, rfl⟩) ?_ ?_
    rotate_left
    · simp only [Act.put, List.setIfInBounds_toArray, List.set_cons_zero, List.set_cons_succ, i64_w, i32_w]
      rfl
    refine pure_ (i := 6) (N := some 27) (v := undef) (a' := ?_) #[true, true, true, true, true, true, true, false, false, false, false, false, false] rfl rfl (any_of HT_.out (by kernel_rfl)) (fun _ _ _ h => h) (Or.inr ⟨by rfl, rfl⟩) ?_ ?_
    rotate_left
    · simp only [Act.put, List.setIfInBounds_toArray, List.set_cons_zero, List.set_cons_succ, i64_w, i32_w]
      rfl
    refine pure_ (i := 7) (N := some 28) (v := undef) (a' := ?_) #[true, true, true, true, true, true, true, true, false, false, false, false, false] rfl rfl (any_of HT_.out (by kernel_rfl)) (fun _ _ _ h => h) (Or.inr ⟨by rfl, rfl⟩) ?_ ?_
    rotate_left
    · simp only [Act.put, List.setIfInBounds_toArray, List.set_cons_zero, List.set_cons_succ, i64_w, i32_w]
      rfl
    refine pure_ (i := 8) (N := some 29) (v := ?_) (a' := ?_) #[true, true, true, true, true, true, true, true, true, false, false, false, false] rfl rfl (any_of HT_.out (by kernel_rfl)) (fun _ _ _ h => h) (Or.inl ⟨by rfl, ?_⟩) ?_ ?_
    rotate_left
    · intro w'
      go_simp
      with_reducible rfl
    rotate_left
    · simp only [Act.put, List.setIfInBounds_toArray, List.set_cons_zero, List.set_cons_succ, i64_w, i32_w]
      rfl
    refine pure_ (i := 9) (N := some 30) (v := ?_) (a' := ?_) #[true, true, true, true, true, true, true, true, true, true, false, false, false] rfl rfl (any_of HT_.out (by kernel_rfl)) (fun _ _ _ h => h) (Or.inl ⟨by rfl, ?_⟩) ?_ ?_
    rotate_left
    · intro w'
      go_simp
      with_reducible rfl
    rotate_left
    · simp only [Act.put, List.setIfInBounds_toArray, List.set_cons_zero, List.set_cons_succ, i64_w, i32_w]
      rfl
    refine pure_ (i := 10) (N := some 31) (v := undef) (a' := ?_) #[true, true, true, true, true, true, true, true, true, true, true, false, false] rfl rfl (any_of HT_.out (by kernel_rfl)) (fun _ _ _ h => h) (Or.inr ⟨by rfl, rfl⟩) ?_ ?_
    rotate_left
    · simp only [Act.put, List.setIfInBounds_toArray, List.set_cons_zero, List.set_cons_succ, i64_w, i32_w]
      rfl
    refine pure_ (i := 11) (N := some 32) (v := ?_) (a' := ?_) #[true, true, true, true, true, true, true, true, true, true, true, true, false] rfl rfl (any_of HT_.out (by kernel_rfl)) (fun _ _ _ h => h) (Or.inl ⟨by rfl, ?_⟩) ?_ ?_
    rotate_left
    · intro w'
      go_simp
      with_reducible rfl
    rotate_left
    · simp only [Act.put, List.setIfInBounds_toArray, List.set_cons_zero, List.set_cons_succ, i64_w, i32_w]
      rfl
    refine pure_ (i := 12) (N := some 2) (v := ?_) (a' := ?_) #[true, true, true, true, true, true, true, true, true, true, true, true, true] rfl rfl (any_of HT_.out (by kernel_rfl)) (fun _ _ _ h => h) (Or.inl ⟨by rfl, ?_⟩) ?_ ?_
    rotate_left
    · intro w'
      go_simp
      with_reducible rfl
    rotate_left
    · simp only [Act.put, List.setIfInBounds_toArray, List.set_cons_zero, List.set_cons_succ, i64_w, i32_w]
      rfl
    refine done_ (done_of HT_.out (by kernel_rfl)) ?_
    try go_wp2
    go_ret
    exact ⟨by first | rfl | (simp [errW_none, errW_some] <;> rfl) | (simp [*, errW_none, errW_some] <;> rfl), by repeat (first | (with_reducible first | exact HB.out | apply below_alloc | apply pw_below_drewN | apply below_drew1 | refine below_set ?_ GE171.out | refine below_set ?_ GE179.out) | exact HB.out)⟩

/-- THE ONE PURE STATEMENT of quillpenlaw04_ScanCloses: yours. -/
def quillpenlaw04_ScanCloses.Pure : Prop := ∀ (a0 : Int), (Lit.int .u8 a0).wf = true → ∃ k, quillpenlaw04_ScanCloses.f k a0 = some true
theorem quillpenlaw04_ScanCloses.walk (P : quillpenlaw04_ScanCloses.Pure) (a0 : Int) (w : World) (w0 : (Lit.int .u8 a0).wf = true) :
    Calls Try.prog 4 #[.int .u8 a0] w fun e w' => e = .returned (.bool true) ∧ Below w.heap.size w w' := by
  obtain ⟨k, h⟩ := P a0 w0
  refine (quillpenlaw04_ScanCloses.calls k a0 true w h).mono ?_
  rintro e w' ⟨rfl, hd⟩
  exact ⟨rfl, hd⟩

end Go.Proofs.Ytpejppnkdaiilaa.XScanCloses
