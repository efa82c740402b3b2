/- ScanRuns: what all bytes of any text come to, one by one, and where an error is, is what the document says; up to 300 bytes. The functions that it reaches and its row, laid by wip/tools/xprint.py out of the translation, with contracts of this session's own. -/
import Derived.Test.YtpejppnkdaiilaaXScanRunsx0
import Derived.Test.YtpejppnkdaiilaaXScanRunsx2
import Derived.Test.YtpejppnkdaiilaaXScanRunsx3
import Derived.Test.YtpejppnkdaiilaaXScanRunsx4
import Derived.Test.YtpejppnkdaiilaaXScanRunsx7
import Derived.Test.YtpejppnkdaiilaaXScanRunsx8
namespace Go.Proofs.Ytpejppnkdaiilaa.XScanRuns
open Go.RowKit Go.Proofs.YtpejppnkdaiilaaW.PrintWords Go.Proofs.YtpejppnkdaiilaaW.PrintLast Go.Proofs.YtpejppnkdaiilaaW.PrintMore
attribute [local go_sem] max2_int min2_int max_two min_two max_three min_three max_four min_four   -- for this text's walks alone
set_option linter.unusedVariables false
set_option linter.unusedSimpArgs false

attribute [local go_sem high] eqA35 eqA47
/-! ### quillpenlaw04_ScanRuns: function 5 -/
mutual
def quillpenlaw04_ScanRuns.j0 : Nat → ByteArray → Bool → Int → Int → Int → Option (Bool)
  | 0, _, _, _, _, _ => none
  | k + 1, x1, x19, x168000, x168001, x168002 => if x19 = true then ((quillpenlaw04_awake.f k).bind fun t172 => (some t172)) else ((scan_Run.f k x168000 x168001 x168002 x1).bind fun bt173 => (quillpenlaw04_ScanRuns.l0 k x1 bt173.1 0 0 x168000 x168001 x168002 bt173.2.1 bt173.2.2))
def quillpenlaw04_ScanRuns.l0 : Nat → ByteArray → List (S30) → Int → Int → Int → Int → Int → Int → Int → Option (Bool)
  | 0, _, _, _, _, _, _, _, _, _ => none
  | k + 1, x1, x5, x7, x8, x168000, x168001, x168002, x179000, x179001 => if x8 ≤ (x1.size : Int) then (if x8 < (x1.size : Int) then ((quillpenlaw01_Ref.f x168000 x168001 x168002).bind fun bt181 => (if 0 ≤ x8 then ((quillpenref04_Step.f bt181.1 bt181.2.1 bt181.2.2 x7 (wrap64 (bt x1 x8))).bind fun bt184 => (quillpenlaw04_ScanRuns.j2 k x1 x5 bt184.2.2.2.2.2.2.1 x8 bt184.2.2.2.2.2.2.2 x168000 x168001 x168002 x179000 x179001 bt184.1 bt184.2.1 bt184.2.2.1 bt184.2.2.2.1 bt184.2.2.2.2.1 bt184.2.2.2.2.2.1)) else (none))) else ((quillpenref04_Close.f x7).bind fun bt192 => (quillpenlaw04_ScanRuns.j2 k x1 x5 x7 x8 bt192.2.2.2.2.2.2 x168000 x168001 x168002 x179000 x179001 bt192.1 bt192.2.1 bt192.2.2.1 bt192.2.2.2.1 bt192.2.2.2.2.1 bt192.2.2.2.2.2.1))) else (if (x5.length : Int) = (wrap64 ((x1.size : Int) + 1)) then (if (x179000 == 0 && (x179001 == 0)) = true then ((quillpenlaw04_awake.f k).bind fun t179 => (some t179)) else (some false)) else (some false))
def quillpenlaw04_ScanRuns.j2 : Nat → ByteArray → List (S30) → Int → Int → Int → Int → Int → Int → Int → Int → Int → Int → Int → Int → Int → Int → Option (Bool)
  | 0, _, _, _, _, _, _, _, _, _, _, _, _, _, _, _, _ => none
  | k + 1, x1, x5, x7, x8, x10, x168000, x168001, x168002, x179000, x179001, x181000, x181001, x181002, x181003, x181004, x181005 => if x10 = 0 then (if x8 ≥ (x5.length : Int) then (some false) else (if 0 ≤ x8 then (if x8 < (x5.length : Int) then ((quillpenlaw04_Ref.f ((rd_T30 x5 x8).f0) ((rd_T30 x5 x8).f1) ((rd_T30 x5 x8).f2) ((rd_T30 x5 x8).f3) ((rd_T30 x5 x8).f4) ((rd_T30 x5 x8).f5)).bind fun bt200 => (if (!(bt200.1 == x181000) || (!(bt200.2.1 == x181001) || (!(bt200.2.2.1 == x181002) || (!(bt200.2.2.2.1 == x181003) || (!(bt200.2.2.2.2.1 == x181004) || (!(bt200.2.2.2.2.2 == x181005))))))) = true then (some false) else (quillpenlaw04_ScanRuns.l0 k x1 x5 x7 (wrap64 (x8 + 1)) x168000 x168001 x168002 x179000 x179001))) else (none)) else (none))) else (if (x5.length : Int) = x8 then (if (x179000 == x10 && (x179001 == x8)) = true then ((quillpenlaw04_awake.f k).bind fun t206 => (some t206)) else (some false)) else (some false))
end
def quillpenlaw04_ScanRuns.f (k : Nat) (a0_0 : Int) (a0_1 : Int) (a0_2 : Int) (a1 : ByteArray) : Option (Bool) := if (a1.size : Int) > 300 then (quillpenlaw04_ScanRuns.j0 k a1 true a0_0 a0_1 a0_2) else ((quillpenlaw01_Ref.f a0_0 a0_1 a0_2).bind fun bt168 => ((quillpenref01_Right.f bt168.1 bt168.2.1 bt168.2.2).bind fun t171 => (quillpenlaw04_ScanRuns.j0 k a1 (!t171) a0_0 a0_1 a0_2)))
theorem quillpenlaw04_ScanRuns.mono_l : ∀ k, (∀ y0 y1 y2 y3 y4, LeO (quillpenlaw04_ScanRuns.j0 k y0 y1 y2 y3 y4) (quillpenlaw04_ScanRuns.j0 (k + 1) y0 y1 y2 y3 y4)) ∧ (∀ y0 y1 y2 y3 y4 y5 y6 y7 y8, LeO (quillpenlaw04_ScanRuns.l0 k y0 y1 y2 y3 y4 y5 y6 y7 y8) (quillpenlaw04_ScanRuns.l0 (k + 1) y0 y1 y2 y3 y4 y5 y6 y7 y8)) ∧ (∀ y0 y1 y2 y3 y4 y5 y6 y7 y8 y9 y10 y11 y12 y13 y14 y15, LeO (quillpenlaw04_ScanRuns.j2 k y0 y1 y2 y3 y4 y5 y6 y7 y8 y9 y10 y11 y12 y13 y14 y15) (quillpenlaw04_ScanRuns.j2 (k + 1) y0 y1 y2 y3 y4 y5 y6 y7 y8 y9 y10 y11 y12 y13 y14 y15))
  | 0 => ⟨fun _ _ _ _ _ r h => by simp [quillpenlaw04_ScanRuns.j0] at h, fun _ _ _ _ _ _ _ _ _ r h => by simp [quillpenlaw04_ScanRuns.l0] at h, fun _ _ _ _ _ _ _ _ _ _ _ _ _ _ _ _ r h => by simp [quillpenlaw04_ScanRuns.j2] at h⟩
  | k + 1 => by
    obtain ⟨ih0, ih1, ih2⟩ := quillpenlaw04_ScanRuns.mono_l k
    refine ⟨?_, ?_, ?_⟩
    · intro y0 y1 y2 y3 y4
      unfold quillpenlaw04_ScanRuns.j0
      repeat' first
      | (with_reducible exact ih0 _ _ _ _ _)
      | (with_reducible exact ih1 _ _ _ _ _ _ _ _ _)
      | (with_reducible exact ih2 _ _ _ _ _ _ _ _ _ _ _ _ _ _ _ _)
      | (with_reducible exact quillpenlaw04_awake.mono _)
      | (with_reducible exact scan_Run.mono _ _ _ _ _)
      | (with_reducible exact LeO.refl _)
      | (with_reducible exact LeO.none _)
      | (with_reducible refine LeO.ite ?_ ?_)
      | (with_reducible refine LeO.bind ?_ (fun _ => ?_))
      | exact ih0 _ _ _ _ _
      | exact ih1 _ _ _ _ _ _ _ _ _
      | exact ih2 _ _ _ _ _ _ _ _ _ _ _ _ _ _ _ _
      | exact quillpenlaw04_awake.mono _
      | exact scan_Run.mono _ _ _ _ _
      | exact LeO.none _
      | refine LeO.ite ?_ ?_
      | refine LeO.bind ?_ (fun _ => ?_)
    · intro y0 y1 y2 y3 y4 y5 y6 y7 y8
      unfold quillpenlaw04_ScanRuns.l0
      repeat' first
      | (with_reducible exact ih0 _ _ _ _ _)
      | (with_reducible exact ih1 _ _ _ _ _ _ _ _ _)
      | (with_reducible exact ih2 _ _ _ _ _ _ _ _ _ _ _ _ _ _ _ _)
      | (with_reducible exact quillpenlaw04_awake.mono _)
      | (with_reducible exact scan_Run.mono _ _ _ _ _)
      | (with_reducible exact LeO.refl _)
      | (with_reducible exact LeO.none _)
      | (with_reducible refine LeO.ite ?_ ?_)
      | (with_reducible refine LeO.bind ?_ (fun _ => ?_))
      | exact ih0 _ _ _ _ _
      | exact ih1 _ _ _ _ _ _ _ _ _
      | exact ih2 _ _ _ _ _ _ _ _ _ _ _ _ _ _ _ _
      | exact quillpenlaw04_awake.mono _
      | exact scan_Run.mono _ _ _ _ _
      | exact LeO.none _
      | refine LeO.ite ?_ ?_
      | refine LeO.bind ?_ (fun _ => ?_)
    · intro y0 y1 y2 y3 y4 y5 y6 y7 y8 y9 y10 y11 y12 y13 y14 y15
      unfold quillpenlaw04_ScanRuns.j2
      repeat' first
      | (with_reducible exact ih0 _ _ _ _ _)
      | (with_reducible exact ih1 _ _ _ _ _ _ _ _ _)
      | (with_reducible exact ih2 _ _ _ _ _ _ _ _ _ _ _ _ _ _ _ _)
      | (with_reducible exact quillpenlaw04_awake.mono _)
      | (with_reducible exact scan_Run.mono _ _ _ _ _)
      | (with_reducible exact LeO.refl _)
      | (with_reducible exact LeO.none _)
      | (with_reducible refine LeO.ite ?_ ?_)
      | (with_reducible refine LeO.bind ?_ (fun _ => ?_))
      | exact ih0 _ _ _ _ _
      | exact ih1 _ _ _ _ _ _ _ _ _
      | exact ih2 _ _ _ _ _ _ _ _ _ _ _ _ _ _ _ _
      | exact quillpenlaw04_awake.mono _
      | exact scan_Run.mono _ _ _ _ _
      | exact LeO.none _
      | refine LeO.ite ?_ ?_
      | refine LeO.bind ?_ (fun _ => ?_)
theorem quillpenlaw04_ScanRuns.mono : ∀ a0 a1 a2 a3 k, LeO (quillpenlaw04_ScanRuns.f k a0 a1 a2 a3) (quillpenlaw04_ScanRuns.f (k + 1) a0 a1 a2 a3) := by
  intro a0 a1 a2 a3 k
  obtain ⟨ih0, ih1, ih2⟩ := quillpenlaw04_ScanRuns.mono_l k
  unfold quillpenlaw04_ScanRuns.f
  repeat' first
      | (with_reducible exact ih0 _ _ _ _ _)
      | (with_reducible exact ih1 _ _ _ _ _ _ _ _ _)
      | (with_reducible exact ih2 _ _ _ _ _ _ _ _ _ _ _ _ _ _ _ _)
      | (with_reducible exact quillpenlaw04_awake.mono _)
      | (with_reducible exact scan_Run.mono _ _ _ _ _)
      | (with_reducible exact LeO.refl _)
      | (with_reducible exact LeO.none _)
      | (with_reducible refine LeO.ite ?_ ?_)
      | (with_reducible refine LeO.bind ?_ (fun _ => ?_))
      | exact ih0 _ _ _ _ _
      | exact ih1 _ _ _ _ _ _ _ _ _
      | exact ih2 _ _ _ _ _ _ _ _ _ _ _ _ _ _ _ _
      | exact quillpenlaw04_awake.mono _
      | exact scan_Run.mono _ _ _ _ _
      | exact LeO.none _
      | refine LeO.ite ?_ ?_
      | refine LeO.bind ?_ (fun _ => ?_)
def quillpenlaw04_ScanRuns.T11 : Bool × List (List Nat × List Nat) := (true, [([], []), ([0], [0]), ([], []), ([], []), ([], []), ([3, 4], [3, 4]), ([5], [5]), ([1, 2, 6, 1], [1, 2, 6]), ([7], [7]), ([8], [8]), ([8], [8]), ([8], [8]), ([9, 7, 0, 1, 2, 3, 4, 5, 6, 7, 8, 9], [9]), ([10, 12, 0, 1, 2, 3, 4, 5, 6, 7, 8, 9, 10, 12], [2, 10]), ([11, 13, 0, 1, 2, 3, 4, 5, 6, 7, 8, 9, 10, 11, 12, 13], [11])])
def quillpenlaw04_ScanRuns.B11 : List Nat := [0, 1, 0, 0, 0, 24, 56, 127, 255, 511, 511, 511, 1023, 6143, 16383]
theorem quillpenlaw04_ScanRuns.tab11 : rtab .any (opsOf Try.f5 11) = quillpenlaw04_ScanRuns.T11 := by kernel_rfl
theorem quillpenlaw04_ScanRuns.bits11 : waitsOk quillpenlaw04_ScanRuns.T11.2 quillpenlaw04_ScanRuns.B11 = true := by kernel_rfl
def quillpenlaw04_ScanRuns.T15 : Bool × List (List Nat × List Nat) := (true, [([], []), ([], []), ([1], [1]), ([0, 2], [0, 2]), ([3], [3]), ([4], [4]), ([4], [4]), ([5, 6, 4], [4, 5, 6]), ([7, 4], [4, 7]), ([8, 4, 4], [4, 8]), ([4], [4]), ([9, 10, 4], [4, 9, 10]), ([4, 11], [4, 11])])
def quillpenlaw04_ScanRuns.B15 : List Nat := [0, 0, 2, 7, 15, 31, 31, 127, 255, 511, 31, 2047, 4095]
theorem quillpenlaw04_ScanRuns.tab15 : rtab .any (opsOf Try.f5 15) = quillpenlaw04_ScanRuns.T15 := by kernel_rfl
theorem quillpenlaw04_ScanRuns.bits15 : waitsOk quillpenlaw04_ScanRuns.T15.2 quillpenlaw04_ScanRuns.B15 = true := by kernel_rfl
set_option maxHeartbeats 8000000 in
set_option maxRecDepth 100000 in
theorem quillpenlaw04_ScanRuns.calls (k : Nat) (a0_0 : Int) (a0_1 : Int) (a0_2 : Int) (a1 : ByteArray) (r : Bool) (w : World) (h : quillpenlaw04_ScanRuns.f k a0_0 a0_1 a0_2 a1 = some r) :
    Calls Try.prog 5 #[.agg #[.int .u8 a0_0, .int .u8 a0_1, .int .i64 a0_2], .string a1] w fun e w' => e = .returned (.bool r) ∧ Below w.heap.size w w' := by
  have hu23 := Try.underlying23
  have hu47 := Try.underlying47
  have hu35 := Try.underlying35
  have hu30 := Try.underlying30
  have HB := Aside0.mk (Below.refl w.heap.size w)
  have H : (if (a1.size : Int) > 300 then (quillpenlaw04_ScanRuns.j0 k a1 true a0_0 a0_1 a0_2) else ((quillpenlaw01_Ref.f a0_0 a0_1 a0_2).bind fun bt168 => ((quillpenref01_Right.f bt168.1 bt168.2.1 bt168.2.2).bind fun t171 => (quillpenlaw04_ScanRuns.j0 k a1 (!t171) a0_0 a0_1 a0_2)))) = some r := h
  clear h
  have HC3 := Aside0.mk H
  clear H
  go_enter Try.func5, Try.ntmps5
  go_upto_region 1 with (first | ((with_reducible refine gate_dst (N := 2) rfl ?_); refine box_event ?hg (N := 2) ?hd (cs := #[.int .u8 a0_0, .int .u8 a0_1, .int .i64 a0_2]) (t := 23) ?hr ?_; (case hd => rfl); (case hg => rfl); (case hr => first | (go_simp; done) | (go_simp; rfl)); intro gb167 hg w4 hbox hb; have n0_ := Aside0.mk (below_step (by repeat (first | (with_reducible first | exact HB.out | apply below_alloc | apply pw_below_drewN | apply below_drew1) | exact HB.out)) hb); have n1_ := Aside0.mk (hbox); have n2_ := Aside0.mk ((by rw [hg]; exact (below_size (by repeat (first | (with_reducible first | exact HB.out | apply below_alloc | apply pw_below_drewN | apply below_drew1) | exact HB.out))) : w.heap.size ≤ gb167)); have n3_ := Aside0.mk ((by rw [hg]; exact (below_size (by repeat (first | (with_reducible first | exact HB.out | apply below_alloc | apply pw_below_drewN | apply below_drew1) | exact HB.out))) : w.heap.size ≤ gb167)); clear HB; have HB := n0_; have BK167 := n1_; have GW167 := n2_; have GE167 := n3_; clear n0_ n1_ n2_ n3_; clear hb hbox hg))
  (try simp only [Act.put, List.setIfInBounds_toArray, List.set_cons_zero, List.set_cons_succ])
  go_cut [19] (fun v19 wc => ∃ (kq : Nat) (x19_2 : Bool), v19 = .bool x19_2 ∧ Aside0 (quillpenlaw04_ScanRuns.j0 kq a1 x19_2 a0_0 a0_1 a0_2 = some r) ∧ Aside0 (kq ≤ k) ∧ Aside0 (wc.heap[gb167]? = some (.cells #[.int .u8 a0_0, .int .u8 a0_1, .int .i64 a0_2] 23 (0, 0))) ∧ Aside0 (Below w.heap.size w wc))
  case first =>
    have H := HC3.out
    clear HC3
    by_cases c5 : (a1.size : Int) > 300
    · rw [if_pos c5] at H
      have c5b0 : decide (300 < (a1.size : Int)) = true := decide_eq_true c5
      have c5b1 : decide (300 < a1.size) = true := decide_eq_true (by omega)
      clear c5
      (first | rw [c5b0] | (simp only [i64_w, i32_w]; rw [c5b0]) | skip)
      have H' := Aside0.mk H
      clear H
      go_wp2
      go_meet
      case rel => exact ⟨_, (true), (by first | rfl | (simp; done) | (simp [*]; done)), H', ⟨by first | omega | exact Nat.le_refl _⟩, ⟨by (with_reducible repeat (first | refine blk_drewN ?_ _ | refine blk_drew ?_ | refine blk_alloc ?_ _)); exact BK167.out⟩, ⟨by repeat (first | (with_reducible first | exact HB.out | apply below_alloc | apply pw_below_drewN | apply below_drew1 | refine below_set ?_ GE167.out) | exact HB.out)⟩⟩
    · rw [if_neg c5] at H
      have c5b0 : decide (300 < (a1.size : Int)) = false := decide_eq_false c5
      have c5b1 : decide (300 < a1.size) = false := decide_eq_false (by omega)
      clear c5
      (first | rw [c5b0] | (simp only [i64_w, i32_w]; rw [c5b0]) | skip)
      replace H := Option.bind_eq_some_iff.mp H
      obtain ⟨⟨t168, t169, t170⟩, A60, H⟩ := H
      replace H : ((quillpenref01_Right.f t168 t169 t170).bind fun t171 => (quillpenlaw04_ScanRuns.j0 k a1 (!t171) a0_0 a0_1 a0_2)) = some r := H
      have A6 := Aside0.mk A60
      clear A60
      replace H := Option.bind_eq_some_iff.mp H
      obtain ⟨t171, A70, H⟩ := H
      replace H : (quillpenlaw04_ScanRuns.j0 k a1 (!t171) a0_0 a0_1 a0_2) = some r := H
      have A7 := Aside0.mk A70
      clear A70
      have H' := Aside0.mk H
      clear H
      have hcz8_0 : w4.cell? ⟨gb167, 0, none⟩ = some (.int .u8 a0_0) := (blk_cell BK167.out 0).trans rfl
      have hcz8_1 : w4.cell? ⟨gb167, 1, none⟩ = some (.int .u8 a0_1) := (blk_cell BK167.out 1).trans rfl
      have hcz8_2 : w4.cell? ⟨gb167, 2, none⟩ = some (.int .i64 a0_2) := (blk_cell BK167.out 2).trans rfl
      have hfz8_0 := blk_frozen BK167.out 0
      have hfz8_1 := blk_frozen BK167.out 1
      have hfz8_2 := blk_frozen BK167.out 2
      go_wp2_with (first | (go_at_call 8; (with_reducible refine (quillpenlaw01_Ref.calls a0_0 a0_1 a0_2 t168 t169 t170 _ A6.out).mono ?_); rintro e w9 ⟨rfl, hb⟩; have n0_ := Aside0.mk (blk_below (g := gb167) (o := .cells #[.int .u8 a0_0, .int .u8 a0_1, .int .i64 a0_2] 23 (0, 0)) (by (with_reducible repeat (first | refine blk_drewN ?_ _ | refine blk_drew ?_ | refine blk_alloc ?_ _)); exact BK167.out) hb); have n1_ := Aside0.mk (below_step (by repeat (first | (with_reducible first | exact HB.out | apply below_alloc | apply pw_below_drewN | apply below_drew1 | refine below_set ?_ GE167.out) | exact HB.out)) hb); clear BK167; clear HB; have BK167 := n0_; have HB := n1_; clear n0_ n1_; (try clear hb); (try clear hb2); (try clear hk); (try clear hi)) | (go_at_call 7; (with_reducible refine (quillpenref01_Right.calls t168 t169 t170 t171 _ A7.out).mono ?_); rintro e w10 ⟨rfl, hb⟩; have n0_ := Aside0.mk (blk_below (g := gb167) (o := .cells #[.int .u8 a0_0, .int .u8 a0_1, .int .i64 a0_2] 23 (0, 0)) (by (with_reducible repeat (first | refine blk_drewN ?_ _ | refine blk_drew ?_ | refine blk_alloc ?_ _)); exact BK167.out) hb); have n1_ := Aside0.mk (below_step (by repeat (first | (with_reducible first | exact HB.out | apply below_alloc | apply pw_below_drewN | apply below_drew1 | refine below_set ?_ GE167.out) | exact HB.out)) hb); clear BK167; clear HB; have BK167 := n0_; have HB := n1_; clear n0_ n1_; (try clear hb); (try clear hb2); (try clear hk); (try clear hi)))
      go_meet
      case rel => exact ⟨_, (!t171), (by first | rfl | (simp; done) | (simp [*]; done)), H', ⟨by first | omega | exact Nat.le_refl _⟩, ⟨by (with_reducible repeat (first | refine blk_drewN ?_ _ | refine blk_drew ?_ | refine blk_alloc ?_ _)); exact BK167.out⟩, ⟨by repeat (first | (with_reducible first | exact HB.out | apply below_alloc | apply pw_below_drewN | apply below_drew1 | refine below_set ?_ GE167.out) | exact HB.out)⟩⟩
  case rest =>
    clear HC3
    try clear p2
    try clear c5
    try clear c5b0
    try clear c5b1
    try clear hcz8_0
    try clear hcz8_1
    try clear hcz8_2
    try clear hfz8_0
    try clear hfz8_1
    try clear hfz8_2
    obtain ⟨kq, x19_2, rfl, HA, HJ2, BK167, HB⟩ := hcut
    cases kq with
    | zero => exact absurd HA.out (by simp [quillpenlaw04_ScanRuns.j0])
    | succ kj2 =>
      have H := HA.out
      clear HA
      simp only [quillpenlaw04_ScanRuns.j0] at H
      by_cases c11 : x19_2 = true
      · subst c11
        have H1 : ((quillpenlaw04_awake.f kj2).bind fun t172 => (some t172)) = some r := by rw [if_pos rfl] at H; exact H
        clear H
        have H := H1
        clear H1
        replace H := Option.bind_eq_some_iff.mp H
        obtain ⟨t172, A120, H⟩ := H
        replace H : (some t172) = some r := H
        have A12 := Aside0.mk A120
        clear A120
        obtain rfl := Option.some.inj H
        go_wp2_with (first | ((with_reducible refine gate_callee (f := 9) rfl ?_); refine goesL_ (some 20) rfl rfl Try.func9 (by kernel_rfl) rfl #[] rfl (by (try simp only [List.map_toArray, List.map_cons, List.map_nil]); first | done | rfl | (simp only [List.length_drop, List.length_take]; rfl)) ?_; (with_reducible refine (quillpenlaw04_awake.calls kj2  t172 _ A12.out).mono ?_); rintro e w13 ⟨rfl, hb⟩; refine ⟨_, rfl, ?_⟩; have n0_ := Aside0.mk (blk_below (g := gb167) (o := .cells #[.int .u8 a0_0, .int .u8 a0_1, .int .i64 a0_2] 23 (0, 0)) (by (with_reducible repeat (first | refine blk_drewN ?_ _ | refine blk_drew ?_ | refine blk_alloc ?_ _)); exact BK167.out) hb); have n1_ := Aside0.mk (below_step (by repeat (first | (with_reducible first | exact HB.out | apply below_alloc | apply pw_below_drewN | apply below_drew1 | refine below_set ?_ GE167.out) | exact HB.out)) hb); clear BK167; clear HB; have BK167 := n0_; have HB := n1_; clear n0_ n1_; (try clear hb); (try clear hb2); (try clear hk); (try clear hi)))
        go_ret
        exact ⟨by first | rfl | (simp [errW_none, errW_some] <;> rfl) | (simp [*, errW_none, errW_some] <;> rfl), by repeat (first | (with_reducible first | exact HB.out | apply below_alloc | apply pw_below_drewN | apply below_drew1 | refine below_set ?_ GE167.out) | exact HB.out)⟩
      · replace c11 := Bool.eq_false_iff.mpr c11
        subst c11
        have H1 : ((scan_Run.f kj2 a0_0 a0_1 a0_2 a1).bind fun bt173 => (quillpenlaw04_ScanRuns.l0 kj2 a1 bt173.1 0 0 a0_0 a0_1 a0_2 bt173.2.1 bt173.2.2)) = some r := by rw [if_neg (show ¬ (false = true) by decide)] at H; exact H
        clear H
        have H := H1
        clear H1
        replace H := Option.bind_eq_some_iff.mp H
        obtain ⟨⟨t173, t176, t177⟩, A140, H⟩ := H
        replace H : (quillpenlaw04_ScanRuns.l0 kj2 a1 t173 0 0 a0_0 a0_1 a0_2 t176 t177) = some r := H
        have A14 := Aside0.mk A140
        clear A140
        have H' := Aside0.mk H
        clear H
        have hcz15_0 : wc.cell? ⟨gb167, 0, none⟩ = some (.int .u8 a0_0) := (blk_cell BK167.out 0).trans rfl
        have hcz15_1 : wc.cell? ⟨gb167, 1, none⟩ = some (.int .u8 a0_1) := (blk_cell BK167.out 1).trans rfl
        have hcz15_2 : wc.cell? ⟨gb167, 2, none⟩ = some (.int .i64 a0_2) := (blk_cell BK167.out 2).trans rfl
        have hfz15_0 := blk_frozen BK167.out 0
        have hfz15_1 := blk_frozen BK167.out 1
        have hfz15_2 := blk_frozen BK167.out 2
        go_wp2_with (first | ((with_reducible refine gate_callee (f := 15) rfl ?_); refine goesL_ (some 24) rfl rfl Try.func15 (by kernel_rfl) rfl #[.agg #[.int .u8 a0_0, .int .u8 a0_1, .int .i64 a0_2], .string a1] rfl (by (try simp only [List.map_toArray, List.map_cons, List.map_nil]); first | done | rfl | (simp only [List.length_drop, List.length_take]; rfl)) ?_; (with_reducible refine (scan_Run.calls kj2 a0_0 a0_1 a0_2 a1 t173 t176 t177 _ A14.out).mono ?_); rintro e w16 ⟨v174, rfl, ho0, hb⟩; refine ⟨_, rfl, ?_⟩; have n0_ := Aside0.mk (Kd.R_lower ho0 (below_size (by repeat (first | (with_reducible first | exact HB.out | apply below_alloc | apply pw_below_drewN | apply below_drew1 | refine below_set ?_ GE167.out) | exact HB.out)))); have n1_ := Aside0.mk (blk_below (g := gb167) (o := .cells #[.int .u8 a0_0, .int .u8 a0_1, .int .i64 a0_2] 23 (0, 0)) (by (with_reducible repeat (first | refine blk_drewN ?_ _ | refine blk_drew ?_ | refine blk_alloc ?_ _)); exact BK167.out) hb); have n2_ := Aside0.mk (below_step (by repeat (first | (with_reducible first | exact HB.out | apply below_alloc | apply pw_below_drewN | apply below_drew1 | refine below_set ?_ GE167.out) | exact HB.out)) hb); clear BK167; clear HB; have HO175 := n0_; have BK167 := n1_; have HB := n2_; clear n0_ n1_ n2_; (try clear hb); (try clear hb2); (try clear hk); (try clear hi); (try clear ho0)) | ((with_reducible refine gate_dst (N := 6) rfl ?_); refine box_event ?hg (N := 6) ?hd (cs := #[.int .i64 0, .int .i64 0]) (t := 47) ?hr ?_; (case hd => rfl); (case hg => rfl); (case hr => first | (go_simp; done) | (go_simp; rfl)); intro gb178 hg w17 hbox hb; have n0_ := Aside0.mk (Kd.R_below (by (with_reducible repeat (first | apply Kd.R_alloc | apply Kd.R_drewN | apply Kd.R_drew)); exact HO175.out) hb); have n1_ := Aside0.mk (blk_below (g := gb167) (o := .cells #[.int .u8 a0_0, .int .u8 a0_1, .int .i64 a0_2] 23 (0, 0)) (by (with_reducible repeat (first | refine blk_drewN ?_ _ | refine blk_drew ?_ | refine blk_alloc ?_ _)); exact BK167.out) hb); have n2_ := Aside0.mk (below_step (by repeat (first | (with_reducible first | exact HB.out | apply below_alloc | apply pw_below_drewN | apply below_drew1 | refine below_set ?_ GE167.out) | exact HB.out)) hb); have n3_ := Aside0.mk (hbox); have n4_ := Aside0.mk ((by rw [hg]; exact (below_size (by repeat (first | (with_reducible first | exact HB.out | apply below_alloc | apply pw_below_drewN | apply below_drew1 | refine below_set ?_ GE167.out) | exact HB.out))) : w.heap.size ≤ gb178)); have n5_ := Aside0.mk ((by rw [hg]; exact (below_size (by repeat (first | (with_reducible first | exact HB.out | apply below_alloc | apply pw_below_drewN | apply below_drew1 | refine below_set ?_ GE167.out) | exact HB.out))) : w.heap.size ≤ gb178)); have n6_ := Aside0.mk ((by rw [hg]; exact Nat.ne_of_lt (blk_lt (g := gb167) (o := .cells #[.int .u8 a0_0, .int .u8 a0_1, .int .i64 a0_2] 23 (0, 0)) (by (with_reducible repeat (first | refine blk_drewN ?_ _ | refine blk_drew ?_ | refine blk_alloc ?_ _)); exact BK167.out)) : gb167 ≠ gb178)); have n7_ := Aside0.mk ((by rw [hg]; exact Nat.ne_of_gt (blk_lt (g := gb167) (o := .cells #[.int .u8 a0_0, .int .u8 a0_1, .int .i64 a0_2] 23 (0, 0)) (by (with_reducible repeat (first | refine blk_drewN ?_ _ | refine blk_drew ?_ | refine blk_alloc ?_ _)); exact BK167.out)) : gb178 ≠ gb167)); clear HO175; clear BK167; clear HB; have HO175 := n0_; have BK167 := n1_; have HB := n2_; have BK178 := n3_; have GW178 := n4_; have GE178 := n5_; have NB167_178 := n6_; have NB178_167 := n7_; clear n0_ n1_ n2_ n3_ n4_ n5_ n6_ n7_; clear hb hbox hg; have hnb18 := NB178_167.out; have hnc18 := NB167_178.out; have hcz19_0 : w17.cell? ⟨gb178, 0, none⟩ = some (.int .i64 0) := (blk_cell BK178.out 0).trans rfl; have hcz19_1 : w17.cell? ⟨gb178, 1, none⟩ = some (.int .i64 0) := (blk_cell BK178.out 1).trans rfl; have hfz19_0 := blk_frozen BK178.out 0; have hfz19_1 := blk_frozen BK178.out 1))
        go_loopg [7, 8] kj2 (fun kq v7 v8 w' => ∃ (x7_2 : Int) (x8_2 : Int), v7 = .int .i64 x7_2 ∧ v8 = .int .i64 x8_2 ∧ Aside0 (quillpenlaw04_ScanRuns.l0 kq a1 t173 x7_2 x8_2 a0_0 a0_1 a0_2 t176 t177 = some r) ∧ Aside0 (kq ≤ kj2) ∧ Aside0 (Kd.R k30 30 w' w.heap.size (fun _ => True) v174 t173) ∧ Aside0 (w'.heap[gb167]? = some (.cells #[.int .u8 a0_0, .int .u8 a0_1, .int .i64 a0_2] 23 (0, 0))) ∧ Aside0 (w'.heap[gb178]? = some (.cells #[.int .i64 t176, .int .i64 t177] 47 (0, 0))) ∧ Aside0 (Below w.heap.size w w'))
        case atStart => exact ⟨(0), (0), (by first | rfl | (simp; done) | (simp [*]; done)), (by first | rfl | (simp; done) | (simp [*]; done)), H', ⟨Nat.le_refl _⟩, ⟨by (with_reducible repeat (first | apply Kd.R_alloc | apply Kd.R_drewN | apply Kd.R_drew)); exact Kd.R_mono (Kd.R_far (p := ⟨gb178, 1, none⟩) (Kd.R_far (p := ⟨gb178, 0, none⟩) (Kd.R_types HO175.out BK178.out (by decide)) (fun _ hk => hk.2) (.int .i64 t176)) (fun _ hk => hk.2) (.int .i64 t177)) (fun _ hk => trivial)⟩, ⟨by (with_reducible repeat (first | refine blk_drewN ?_ _ | refine blk_drew ?_ | refine blk_alloc ?_ _)); refine blk_far ?_ NB167_178.out _; (with_reducible repeat (first | refine blk_drewN ?_ _ | refine blk_drew ?_ | refine blk_alloc ?_ _)); refine blk_far ?_ NB167_178.out _; (with_reducible repeat (first | refine blk_drewN ?_ _ | refine blk_drew ?_ | refine blk_alloc ?_ _)); exact BK167.out⟩, ⟨by (with_reducible repeat (first | refine blk_drewN ?_ _ | refine blk_drew ?_ | refine blk_alloc ?_ _)); refine blk_put (cs := #[.int .i64 t176, .int .i64 0]) ?_ 1 _ rfl; (with_reducible repeat (first | refine blk_drewN ?_ _ | refine blk_drew ?_ | refine blk_alloc ?_ _)); refine blk_put (cs := #[.int .i64 0, .int .i64 0]) ?_ 0 _ rfl; (with_reducible repeat (first | refine blk_drewN ?_ _ | refine blk_drew ?_ | refine blk_alloc ?_ _)); exact BK178.out⟩, ⟨by repeat (first | (with_reducible first | exact HB.out | apply below_alloc | apply pw_below_drewN | apply below_drew1 | refine below_set ?_ GE167.out | refine below_set ?_ GE178.out) | exact HB.out)⟩⟩
        case round =>
          clear H'
          try clear c1
          try clear p2
          try clear c5
          try clear c5b0
          try clear c5b1
          try clear c9
          try clear c11
          try clear c15
          try clear c18
          try clear hcz15_0
          try clear hcz15_1
          try clear hcz15_2
          try clear hcz19_0
          try clear hcz19_1
          try clear hcz8_0
          try clear hcz8_1
          try clear hcz8_2
          try clear hfz15_0
          try clear hfz15_1
          try clear hfz15_2
          try clear hfz19_0
          try clear hfz19_1
          try clear hfz8_0
          try clear hfz8_1
          try clear hfz8_2
          try clear p2
          obtain ⟨x7_2, x8_2, rfl, rfl, HA, HK2, HO_5, BK167, BK178, HB⟩ := hrel
          cases gk with
          | zero => exact absurd HA.out (by simp [quillpenlaw04_ScanRuns.l0])
          | succ k2 =>
            have H := HA.out
            clear HA
            simp only [quillpenlaw04_ScanRuns.l0] at H
            by_cases c20 : x8_2 ≤ (a1.size : Int)
            · rw [if_pos c20] at H
              have c20b0 : decide (x8_2 ≤ (a1.size : Int)) = true := decide_eq_true c20
              clear c20
              have HC21 := Aside0.mk H
              clear H
              go_upto_if 36 with (first | ((with_reducible refine gate_dst (N := 9) rfl ?_); refine box_event ?hg (N := 9) ?hd (cs := #[.int .i64 0, .int .i64 0, .int .i64 0, .int .i64 0, .int .i64 0, .int .i64 0]) (t := 35) ?hr ?_; (case hd => rfl); (case hg => rfl); (case hr => first | (go_simp; done) | (go_simp; rfl)); intro gb180 hg w22 hbox hb; have n0_ := Aside0.mk (Kd.R_below (by (with_reducible repeat (first | apply Kd.R_alloc | apply Kd.R_drewN | apply Kd.R_drew)); exact HO_5.out) hb); have n1_ := Aside0.mk (blk_below (g := gb167) (o := .cells #[.int .u8 a0_0, .int .u8 a0_1, .int .i64 a0_2] 23 (0, 0)) (by (with_reducible repeat (first | refine blk_drewN ?_ _ | refine blk_drew ?_ | refine blk_alloc ?_ _)); exact BK167.out) hb); have n2_ := Aside0.mk (blk_below (g := gb178) (o := .cells #[.int .i64 t176, .int .i64 t177] 47 (0, 0)) (by (with_reducible repeat (first | refine blk_drewN ?_ _ | refine blk_drew ?_ | refine blk_alloc ?_ _)); exact BK178.out) hb); have n3_ := Aside0.mk (below_step (by repeat (first | (with_reducible first | exact HB.out | apply below_alloc | apply pw_below_drewN | apply below_drew1 | refine below_set ?_ GE167.out | refine below_set ?_ GE178.out) | exact HB.out)) hb); have n4_ := Aside0.mk (hbox); have n5_ := Aside0.mk ((by rw [hg]; exact (below_size (by repeat (first | (with_reducible first | exact HB.out | apply below_alloc | apply pw_below_drewN | apply below_drew1 | refine below_set ?_ GE167.out | refine below_set ?_ GE178.out) | exact HB.out))) : w.heap.size ≤ gb180)); have n6_ := Aside0.mk ((by rw [hg]; exact (below_size (by repeat (first | (with_reducible first | exact HB.out | apply below_alloc | apply pw_below_drewN | apply below_drew1 | refine below_set ?_ GE167.out | refine below_set ?_ GE178.out) | exact HB.out))) : w.heap.size ≤ gb180)); have n7_ := Aside0.mk ((by rw [hg]; exact Nat.ne_of_lt (blk_lt (g := gb167) (o := .cells #[.int .u8 a0_0, .int .u8 a0_1, .int .i64 a0_2] 23 (0, 0)) (by (with_reducible repeat (first | refine blk_drewN ?_ _ | refine blk_drew ?_ | refine blk_alloc ?_ _)); exact BK167.out)) : gb167 ≠ gb180)); have n8_ := Aside0.mk ((by rw [hg]; exact Nat.ne_of_gt (blk_lt (g := gb167) (o := .cells #[.int .u8 a0_0, .int .u8 a0_1, .int .i64 a0_2] 23 (0, 0)) (by (with_reducible repeat (first | refine blk_drewN ?_ _ | refine blk_drew ?_ | refine blk_alloc ?_ _)); exact BK167.out)) : gb180 ≠ gb167)); have n9_ := Aside0.mk ((by rw [hg]; exact Nat.ne_of_lt (blk_lt (g := gb178) (o := .cells #[.int .i64 t176, .int .i64 t177] 47 (0, 0)) (by (with_reducible repeat (first | refine blk_drewN ?_ _ | refine blk_drew ?_ | refine blk_alloc ?_ _)); exact BK178.out)) : gb178 ≠ gb180)); have n10_ := Aside0.mk ((by rw [hg]; exact Nat.ne_of_gt (blk_lt (g := gb178) (o := .cells #[.int .i64 t176, .int .i64 t177] 47 (0, 0)) (by (with_reducible repeat (first | refine blk_drewN ?_ _ | refine blk_drew ?_ | refine blk_alloc ?_ _)); exact BK178.out)) : gb180 ≠ gb178)); clear HO_5; clear BK167; clear BK178; clear HB; have HO_5 := n0_; have BK167 := n1_; have BK178 := n2_; have HB := n3_; have BK180 := n4_; have GW180 := n5_; have GE180 := n6_; have NB167_180 := n7_; have NB180_167 := n8_; have NB178_180 := n9_; have NB180_178 := n10_; clear n0_ n1_ n2_ n3_ n4_ n5_ n6_ n7_ n8_ n9_ n10_; clear hb hbox hg))
              (try simp only [Act.put, List.setIfInBounds_toArray, List.set_cons_zero, List.set_cons_succ])
              go_cut [7, 10] (fun v7 v10 wc => ∃ (kq : Nat) (x7_20 : Int) (x10_20 : Int) (x181000_20 : Int) (x181001_20 : Int) (x181002_20 : Int) (x181003_20 : Int) (x181004_20 : Int) (x181005_20 : Int), v7 = .int .i64 x7_20 ∧ v10 = .int .i64 x10_20 ∧ Aside0 (quillpenlaw04_ScanRuns.j2 kq a1 t173 x7_20 x8_2 x10_20 a0_0 a0_1 a0_2 t176 t177 x181000_20 x181001_20 x181002_20 x181003_20 x181004_20 x181005_20 = some r) ∧ Aside0 (kq ≤ k2) ∧ Aside0 (Kd.R k30 30 wc w.heap.size (fun _ => True) v174 t173) ∧ Aside0 (wc.heap[gb167]? = some (.cells #[.int .u8 a0_0, .int .u8 a0_1, .int .i64 a0_2] 23 (0, 0))) ∧ Aside0 (wc.heap[gb178]? = some (.cells #[.int .i64 t176, .int .i64 t177] 47 (0, 0))) ∧ Aside0 (wc.heap[gb180]? = some (.cells #[.int .i64 x181000_20, .int .i64 x181001_20, .int .i64 x181002_20, .int .i64 x181003_20, .int .i64 x181004_20, .int .i64 x181005_20] 35 (0, 0))) ∧ Aside0 (Below w.heap.size w wc))
              case first =>
                have H := HC21.out
                clear HC21
                by_cases c23 : x8_2 < (a1.size : Int)
                · rw [if_pos c23] at H
                  have c23b0 : decide (x8_2 < (a1.size : Int)) = true := decide_eq_true c23
                  clear c23
                  (first | rw [c23b0] | (simp only [i64_w, i32_w]; rw [c23b0]) | skip)
                  replace H := Option.bind_eq_some_iff.mp H
                  obtain ⟨⟨t181, t182, t183⟩, A240, H⟩ := H
                  replace H : (if 0 ≤ x8_2 then ((quillpenref04_Step.f t181 t182 t183 x7_2 (wrap64 (bt a1 x8_2))).bind fun bt184 => (quillpenlaw04_ScanRuns.j2 k2 a1 t173 bt184.2.2.2.2.2.2.1 x8_2 bt184.2.2.2.2.2.2.2 a0_0 a0_1 a0_2 t176 t177 bt184.1 bt184.2.1 bt184.2.2.1 bt184.2.2.2.1 bt184.2.2.2.2.1 bt184.2.2.2.2.2.1)) else (none)) = some r := H
                  have A24 := Aside0.mk A240
                  clear A240
                  by_cases c25 : 0 ≤ x8_2
                  · rw [if_pos c25] at H
                    have c25b0 : decide (0 ≤ x8_2) = true := decide_eq_true c25
                    clear c25
                    replace H := Option.bind_eq_some_iff.mp H
                    obtain ⟨⟨t184, t185, t186, t187, t188, t189, t190, t191⟩, A270, H⟩ := H
                    replace H : (quillpenlaw04_ScanRuns.j2 k2 a1 t173 t190 x8_2 t191 a0_0 a0_1 a0_2 t176 t177 t184 t185 t186 t187 t188 t189) = some r := H
                    have A27 := Aside0.mk A270
                    clear A270
                    have H' := Aside0.mk H
                    clear H
                    try go_wp2
                    have n0_ := Aside0.mk (Kd.R_drew HO_5.out)
                    have n1_ := Aside0.mk (blk_drew BK167.out)
                    have n2_ := Aside0.mk (blk_drew BK178.out)
                    have n3_ := Aside0.mk (blk_drew BK180.out)
                    have n4_ := Aside0.mk (below_drew1 HB.out)
                    clear HO_5
                    clear BK167
                    clear BK178
                    clear BK180
                    clear HB
                    have HO_5 := n0_
                    have BK167 := n1_
                    have BK178 := n2_
                    have BK180 := n3_
                    have HB := n4_
                    clear n0_ n1_ n2_ n3_ n4_
                    have p26 : 0 ≤ (x8_2 : Int) := of_decide_eq_true (by first | (with_reducible assumption) | assumption)
                    have q26 : x8_2 < (a1.size : Int) := of_decide_eq_true (by first | (with_reducible assumption) | assumption)
                    have hx26 := bt_at a1 x8_2
                    replace p26 := eq_true p26
                    replace q26 := eq_true q26
                    refine start_ (n := 15) (S := fun w' => w'.cell? ⟨gb167, 0, none⟩ = some (.int .u8 a0_0) ∧ w'.cell? ⟨gb167, 1, none⟩ = some (.int .u8 a0_1) ∧ w'.cell? ⟨gb167, 2, none⟩ = some (.int .i64 a0_2)) (ds := []) #[false, false, false, false, false, false, false, false, false, false, false, false, false, false, false] (by kernel_rfl) rfl rfl ⟨(blk_cell BK167.out 0).trans rfl, (blk_cell BK167.out 1).trans rfl, (blk_cell BK167.out 2).trans rfl⟩ (fun hHeld => ?_); refine with_tabW quillpenlaw04_ScanRuns.tab11 quillpenlaw04_ScanRuns.bits11 (fun HT_ HW_ => ?_)
                    generalize w22.drew = w28 at HO_5 BK167 BK178 BK180 HB hHeld ⊢
                    refine pure_ (i := 2) (N := some 40) (v := ?_) (a' := ?_) #[false, false, true, false, false, false, false, false, false, false, false, false, false, false, false] rfl rfl (any_of HT_.out (by kernel_rfl)) (fun _ _ _ h => h) (Or.inl ⟨by rfl, ?_⟩) ?_ ?_
                    rotate_left
                    · intro w'
                      go_simp
                      with_reducible rfl
                    rotate_left
                    · simp only [Act.put, List.setIfInBounds_toArray, List.set_cons_zero, List.set_cons_succ, i64_w, i32_w]
                      rfl
                    refine pure_ (i := 3) (N := some 41) (v := ?_) (a' := ?_) #[false, false, true, true, false, false, false, false, false, false, false, false, false, false, false] rfl rfl (any_of HT_.out (by kernel_rfl)) (fun _ _ _ h => h) (Or.inl ⟨by rfl, ?_⟩) ?_ ?_
                    rotate_left
                    · intro w'
                      go_simp
                      with_reducible rfl
                    rotate_left
                    · simp only [Act.put, List.setIfInBounds_toArray, List.set_cons_zero, List.set_cons_succ, i64_w, i32_w]
                      rfl
                    refine pure_ (i := 4) (N := some 42) (v := ?_) (a' := ?_) #[false, false, true, true, true, false, false, false, false, false, false, false, false, false, false] rfl rfl (any_of HT_.out (by kernel_rfl)) (fun _ _ _ h => h) (Or.inl ⟨by rfl, ?_⟩) ?_ ?_
                    rotate_left
                    · intro w'
                      go_simp
                      with_reducible rfl
                    rotate_left
                    · simp only [Act.put, List.setIfInBounds_toArray, List.set_cons_zero, List.set_cons_succ, i64_w, i32_w]
                      rfl
                    refine take_ (i := 0) (N := some 38) (v := ?_) (a' := ?_) #[true, false, true, true, true, false, false, false, false, false, false, false, false, false, false] rfl rfl (take_ofW HT_.out HW_.out (by kernel_rfl)) (fun _ _ _ h => h) (Or.inl ⟨by rfl, ?_⟩) hHeld ?_ ?_
                    rotate_left
                    · rintro w' ⟨s0, s1, s2⟩
                      go_simp
                      with_reducible rfl
                    rotate_left
                    · simp only [Act.put, List.setIfInBounds_toArray, List.set_cons_zero, List.set_cons_succ, i64_w, i32_w]
                      rfl
                    refine take_ (i := 5) (N := some 43) (v := ?_) (a' := ?_) #[true, false, true, true, true, true, false, false, false, false, false, false, false, false, false] rfl rfl (take_ofW HT_.out HW_.out (by kernel_rfl)) (fun _ _ _ h => h) (Or.inl ⟨by rfl, ?_⟩) hHeld ?_ ?_
                    rotate_left
                    · rintro w' ⟨s0, s1, s2⟩
                      go_simp
                      with_reducible rfl
                    rotate_left
                    · simp only [Act.put, List.setIfInBounds_toArray, List.set_cons_zero, List.set_cons_succ, i64_w, i32_w]
                      rfl
                    refine pure_ (i := 6) (N := some 44) (v := ?_) (a' := ?_) #[true, false, true, true, true, true, true, false, false, false, false, false, false, false, false] rfl rfl (any_of HT_.out (by kernel_rfl)) (fun _ _ _ h => h) (Or.inl ⟨by rfl, ?_⟩) ?_ ?_
                    rotate_left
                    · intro w'
                      go_simp
                      with_reducible rfl
                    rotate_left
                    · simp only [Act.put, List.setIfInBounds_toArray, List.set_cons_zero, List.set_cons_succ, i64_w, i32_w]
                      rfl
                    refine one_ (i := 1) (N := some 39) #[true, true, true, true, true, true, true, false, false, false, false, false, false, false, false] rfl rfl (one_of HT_.out (by kernel_rfl)) (by decide) (fun K hK => ?_)
                    refine goes_ Try.func8 (by kernel_rfl) rfl #[.agg #[.int .u8 a0_0, .int .u8 a0_1, .int .i64 a0_2]] (by rfl) rfl rfl (by (try simp only [List.map_toArray, List.map_cons, List.map_nil]); first | done | rfl | (simp only [List.length_drop, List.length_take]; rfl)) ?_
                    with_reducible refine (quillpenlaw01_Ref.calls a0_0 a0_1 a0_2 t181 t182 t183 _ A24.out).mono ?_
                    rintro e w29 ⟨rfl, hb⟩
                    refine ⟨_, rfl, ?_⟩
                    have n0_ := Aside0.mk (Kd.R_below (by (with_reducible repeat (first | apply Kd.R_alloc | apply Kd.R_drewN | apply Kd.R_drew)); exact HO_5.out) hb)
                    have n1_ := Aside0.mk (blk_below (g := gb167) (o := .cells #[.int .u8 a0_0, .int .u8 a0_1, .int .i64 a0_2] 23 (0, 0)) (by (with_reducible repeat (first | refine blk_drewN ?_ _ | refine blk_drew ?_ | refine blk_alloc ?_ _)); exact BK167.out) hb)
                    have n2_ := Aside0.mk (blk_below (g := gb178) (o := .cells #[.int .i64 t176, .int .i64 t177] 47 (0, 0)) (by (with_reducible repeat (first | refine blk_drewN ?_ _ | refine blk_drew ?_ | refine blk_alloc ?_ _)); exact BK178.out) hb)
                    have n3_ := Aside0.mk (blk_below (g := gb180) (o := .cells #[.int .i64 0, .int .i64 0, .int .i64 0, .int .i64 0, .int .i64 0, .int .i64 0] 35 (0, 0)) (by (with_reducible repeat (first | refine blk_drewN ?_ _ | refine blk_drew ?_ | refine blk_alloc ?_ _)); exact BK180.out) hb)
                    have n4_ := Aside0.mk (below_step (by repeat (first | (with_reducible first | exact HB.out | apply below_alloc | apply pw_below_drewN | apply below_drew1 | refine below_set ?_ GE167.out | refine below_set ?_ GE178.out | refine below_set ?_ GE180.out) | exact HB.out)) hb)
                    clear HO_5
                    clear BK167
                    clear BK178
                    clear BK180
                    clear HB
                    have HO_5 := n0_
                    have BK167 := n1_
                    have BK178 := n2_
                    have BK180 := n3_
                    have HB := n4_
                    clear n0_ n1_ n2_ n3_ n4_
                    (try clear hb)
                    (try clear hb2)
                    (try clear hk)
                    (try clear hi)
                    refine hK.out _ _ ⟨(blk_cell BK167.out 0).trans rfl, (blk_cell BK167.out 1).trans rfl, (blk_cell BK167.out 2).trans rfl⟩ (fun hHeld => ?_)
                    clear hK K
                    refine norm_ (a' := ?_) ?_ ?_
                    rotate_left
                    · show Act.put _ (some 39) _ = _
                      simp only [Act.put, List.setIfInBounds_toArray, List.set_cons_zero, List.set_cons_succ, i64_w, i32_w]
                      rfl
                    refine one_ (i := 7) (N := some 45) #[true, true, true, true, true, true, true, true, false, false, false, false, false, false, false] rfl rfl (one_of HT_.out (by kernel_rfl)) (by decide) (fun K hK => ?_)
                    refine goes_ Try.func11 (by kernel_rfl) rfl #[.agg #[.int .i64 t181, .int .i64 t182, .int .i64 t183], .int .i64 x7_2, .int .i64 (wrap64 (bt a1 x8_2))] (by rfl) rfl rfl (by (try simp only [List.map_toArray, List.map_cons, List.map_nil]); first | done | rfl | (simp only [List.length_drop, List.length_take]; rfl)) ?_
                    with_reducible refine (quillpenref04_Step.calls t181 t182 t183 x7_2 (wrap64 (bt a1 x8_2)) t184 t185 t186 t187 t188 t189 t190 t191 _ A27.out).mono ?_
                    rintro e w30 ⟨rfl, hb⟩
                    refine ⟨_, rfl, ?_⟩
                    have n0_ := Aside0.mk (Kd.R_below (by (with_reducible repeat (first | apply Kd.R_alloc | apply Kd.R_drewN | apply Kd.R_drew)); exact HO_5.out) hb)
                    have n1_ := Aside0.mk (blk_below (g := gb167) (o := .cells #[.int .u8 a0_0, .int .u8 a0_1, .int .i64 a0_2] 23 (0, 0)) (by (with_reducible repeat (first | refine blk_drewN ?_ _ | refine blk_drew ?_ | refine blk_alloc ?_ _)); exact BK167.out) hb)
                    have n2_ := Aside0.mk (blk_below (g := gb178) (o := .cells #[.int .i64 t176, .int .i64 t177] 47 (0, 0)) (by (with_reducible repeat (first | refine blk_drewN ?_ _ | refine blk_drew ?_ | refine blk_alloc ?_ _)); exact BK178.out) hb)
                    have n3_ := Aside0.mk (blk_below (g := gb180) (o := .cells #[.int .i64 0, .int .i64 0, .int .i64 0, .int .i64 0, .int .i64 0, .int .i64 0] 35 (0, 0)) (by (with_reducible repeat (first | refine blk_drewN ?_ _ | refine blk_drew ?_ | refine blk_alloc ?_ _)); exact BK180.out) hb)
                    have n4_ := Aside0.mk (below_step (by repeat (first | (with_reducible first | exact HB.out | apply below_alloc | apply pw_below_drewN | apply below_drew1 | refine below_set ?_ GE167.out | refine below_set ?_ GE178.out | refine below_set ?_ GE180.out) | exact HB.out)) hb)
                    clear HO_5
                    clear BK167
                    clear BK178
                    clear BK180
                    clear HB
                    have HO_5 := n0_
                    have BK167 := n1_
                    have BK178 := n2_
                    have BK180 := n3_
                    have HB := n4_
                    clear n0_ n1_ n2_ n3_ n4_
                    (try clear hb)
                    (try clear hb2)
                    (try clear hk)
                    (try clear hi)
                    refine hK.out _ _ ⟨(blk_cell BK167.out 0).trans rfl, (blk_cell BK167.out 1).trans rfl, (blk_cell BK167.out 2).trans rfl⟩ (fun hHeld => ?_)
                    clear hK K
                    refine norm_ (a' := ?_) ?_ ?_
                    rotate_left
                    · show Act.put _ (some 45) _ = _
                      simp only [Act.put, List.setIfInBounds_toArray, List.set_cons_zero, List.set_cons_succ, i64_w, i32_w]
                      rfl
                    refine pure_ (i := 8) (N := some 37) (v := ?_) (a' := ?_) #[true, true, true, true, true, true, true, true, true, false, false, false, false, false, false] rfl rfl (any_of HT_.out (by kernel_rfl)) (fun _ _ _ h => h) (Or.inl ⟨by rfl, ?_⟩) ?_ ?_
                    rotate_left
                    · intro w'
                      go_simp
                      with_reducible rfl
                    rotate_left
                    · simp only [Act.put, List.setIfInBounds_toArray, List.set_cons_zero, List.set_cons_succ, i64_w, i32_w]
                      rfl
                    refine pure_ (i := 9) (N := some 46) (v := ?_) (a' := ?_) #[true, true, true, true, true, true, true, true, true, true, false, false, false, false, false] rfl rfl (any_of HT_.out (by kernel_rfl)) (fun _ _ _ h => h) (Or.inl ⟨by rfl, ?_⟩) ?_ ?_
                    rotate_left
                    · intro w'
                      go_simp
                      with_reducible rfl
                    rotate_left
                    · simp only [Act.put, List.setIfInBounds_toArray, List.set_cons_zero, List.set_cons_succ, i64_w, i32_w]
                      rfl
                    refine pure_ (i := 10) (N := some 47) (v := ?_) (a' := ?_) #[true, true, true, true, true, true, true, true, true, true, true, false, false, false, false] rfl rfl (any_of HT_.out (by kernel_rfl)) (fun _ _ _ h => h) (Or.inl ⟨by rfl, ?_⟩) ?_ ?_
                    rotate_left
                    · intro w'
                      go_simp
                      with_reducible rfl
                    rotate_left
                    · simp only [Act.put, List.setIfInBounds_toArray, List.set_cons_zero, List.set_cons_succ, i64_w, i32_w]
                      rfl
                    refine pure_ (i := 11) (N := some 48) (v := ?_) (a' := ?_) #[true, true, true, true, true, true, true, true, true, true, true, true, false, false, false] rfl rfl (any_of HT_.out (by kernel_rfl)) (fun _ _ _ h => h) (Or.inl ⟨by rfl, ?_⟩) ?_ ?_
                    rotate_left
                    · intro w'
                      go_simp
                      with_reducible rfl
                    rotate_left
                    · simp only [Act.put, List.setIfInBounds_toArray, List.set_cons_zero, List.set_cons_succ, i64_w, i32_w]
                      rfl
                    refine one_ (i := 12) (N := none) #[true, true, true, true, true, true, true, true, true, true, true, true, true, false, false] rfl rfl (one_of HT_.out (by kernel_rfl)) (by decide) (fun K hK => ?_)
                    have hs31 : w30.cell? ⟨gb180, 0, none⟩ = some (.int .i64 0) := (blk_cell BK180.out 0).trans rfl
                    have hfs31 := blk_frozen BK180.out 0
                    have hns31_0 := NB167_180.out
                    have hns31_1 := NB178_180.out
                    have hms31_0 := NB180_167.out
                    have hms31_1 := NB180_178.out
                    have hs32 : w30.cell? ⟨gb180, 1, none⟩ = some (.int .i64 0) := (blk_cell BK180.out 1).trans rfl
                    have hfs32 := blk_frozen BK180.out 1
                    have hns32_0 := NB167_180.out
                    have hns32_1 := NB178_180.out
                    have hms32_0 := NB180_167.out
                    have hms32_1 := NB180_178.out
                    have hs33 : w30.cell? ⟨gb180, 2, none⟩ = some (.int .i64 0) := (blk_cell BK180.out 2).trans rfl
                    have hfs33 := blk_frozen BK180.out 2
                    have hns33_0 := NB167_180.out
                    have hns33_1 := NB178_180.out
                    have hms33_0 := NB180_167.out
                    have hms33_1 := NB180_178.out
                    have hs34 : w30.cell? ⟨gb180, 3, none⟩ = some (.int .i64 0) := (blk_cell BK180.out 3).trans rfl
                    have hfs34 := blk_frozen BK180.out 3
                    have hns34_0 := NB167_180.out
                    have hns34_1 := NB178_180.out
                    have hms34_0 := NB180_167.out
                    have hms34_1 := NB180_178.out
                    have hs35 : w30.cell? ⟨gb180, 4, none⟩ = some (.int .i64 0) := (blk_cell BK180.out 4).trans rfl
                    have hfs35 := blk_frozen BK180.out 4
                    have hns35_0 := NB167_180.out
                    have hns35_1 := NB178_180.out
                    have hms35_0 := NB180_167.out
                    have hms35_1 := NB180_178.out
                    have hs36 : w30.cell? ⟨gb180, 5, none⟩ = some (.int .i64 0) := (blk_cell BK180.out 5).trans rfl
                    have hfs36 := blk_frozen BK180.out 5
                    have hns36_0 := NB167_180.out
                    have hns36_1 := NB178_180.out
                    have hms36_0 := NB180_167.out
                    have hms36_1 := NB180_178.out
                    refine skip_ (w1 := ?_) (by rfl) rfl ?_ ?_
                    rotate_left
                    · go_simp
                      rfl
                    refine hK.out _ _ ⟨((cell_far (p := ⟨gb180, _, none⟩) NB167_180.out _).trans (((cell_far (p := ⟨gb180, _, none⟩) NB167_180.out _).trans (((cell_far (p := ⟨gb180, _, none⟩) NB167_180.out _).trans (((cell_far (p := ⟨gb180, _, none⟩) NB167_180.out _).trans (((cell_far (p := ⟨gb180, _, none⟩) NB167_180.out _).trans (((cell_far (p := ⟨gb180, _, none⟩) NB167_180.out _).trans (hHeld.1)))))))))))), ((cell_far (p := ⟨gb180, _, none⟩) NB167_180.out _).trans (((cell_far (p := ⟨gb180, _, none⟩) NB167_180.out _).trans (((cell_far (p := ⟨gb180, _, none⟩) NB167_180.out _).trans (((cell_far (p := ⟨gb180, _, none⟩) NB167_180.out _).trans (((cell_far (p := ⟨gb180, _, none⟩) NB167_180.out _).trans (((cell_far (p := ⟨gb180, _, none⟩) NB167_180.out _).trans (hHeld.2.1)))))))))))), ((cell_far (p := ⟨gb180, _, none⟩) NB167_180.out _).trans (((cell_far (p := ⟨gb180, _, none⟩) NB167_180.out _).trans (((cell_far (p := ⟨gb180, _, none⟩) NB167_180.out _).trans (((cell_far (p := ⟨gb180, _, none⟩) NB167_180.out _).trans (((cell_far (p := ⟨gb180, _, none⟩) NB167_180.out _).trans (((cell_far (p := ⟨gb180, _, none⟩) NB167_180.out _).trans (hHeld.2.2))))))))))))⟩ (fun hHeld => ?_)
                    clear hK K
                    refine pure_ (i := 13) (N := some 7) (v := ?_) (a' := ?_) #[true, true, true, true, true, true, true, true, true, true, true, true, true, true, false] rfl rfl (any_of HT_.out (by kernel_rfl)) (fun _ _ _ h => h) (Or.inl ⟨by rfl, ?_⟩) ?_ ?_
                    rotate_left
                    · intro w'
                      go_simp
                      with_reducible rfl
                    rotate_left
                    · simp only [Act.put, List.setIfInBounds_toArray, List.set_cons_zero, List.set_cons_succ, i64_w, i32_w]
                      rfl
                    refine pure_ (i := 14) (N := some 10) (v := ?_) (a' := ?_) #[true, true, true, true, true, true, true, true, true, true, true, true, true, true, true] rfl rfl (any_of HT_.out (by kernel_rfl)) (fun _ _ _ h => h) (Or.inl ⟨by rfl, ?_⟩) ?_ ?_
                    rotate_left
                    · intro w'
                      go_simp
                      with_reducible rfl
                    rotate_left
                    · simp only [Act.put, List.setIfInBounds_toArray, List.set_cons_zero, List.set_cons_succ, i64_w, i32_w]
                      rfl
                    refine done_ (done_of HT_.out (by kernel_rfl)) ?_
                    try go_wp2
                    go_meet
                    case rel => exact ⟨_, (t190), (t191), (t184), (t185), (t186), (t187), (t188), (t189), (by first | rfl | (simp; done) | (simp [*]; done)), (by first | rfl | (simp; done) | (simp [*]; done)), H', ⟨by have := HJ2.out; have := HK2.out; first | omega | exact Nat.le_refl _⟩, ⟨by (with_reducible repeat (first | apply Kd.R_alloc | apply Kd.R_drewN | apply Kd.R_drew)); exact Kd.R_mono (Kd.R_far (p := ⟨gb180, 5, none⟩) (Kd.R_far (p := ⟨gb180, 4, none⟩) (Kd.R_far (p := ⟨gb180, 3, none⟩) (Kd.R_far (p := ⟨gb180, 2, none⟩) (Kd.R_far (p := ⟨gb180, 1, none⟩) (Kd.R_far (p := ⟨gb180, 0, none⟩) (Kd.R_types HO_5.out BK180.out (by decide)) (fun _ hk => hk.2) (.int .i64 t184)) (fun _ hk => hk.2) (.int .i64 t185)) (fun _ hk => hk.2) (.int .i64 t186)) (fun _ hk => hk.2) (.int .i64 t187)) (fun _ hk => hk.2) (.int .i64 t188)) (fun _ hk => hk.2) (.int .i64 t189)) (fun _ hk => trivial)⟩, ⟨by (with_reducible repeat (first | refine blk_drewN ?_ _ | refine blk_drew ?_ | refine blk_alloc ?_ _)); refine blk_far ?_ NB167_180.out _; (with_reducible repeat (first | refine blk_drewN ?_ _ | refine blk_drew ?_ | refine blk_alloc ?_ _)); refine blk_far ?_ NB167_180.out _; (with_reducible repeat (first | refine blk_drewN ?_ _ | refine blk_drew ?_ | refine blk_alloc ?_ _)); refine blk_far ?_ NB167_180.out _; (with_reducible repeat (first | refine blk_drewN ?_ _ | refine blk_drew ?_ | refine blk_alloc ?_ _)); refine blk_far ?_ NB167_180.out _; (with_reducible repeat (first | refine blk_drewN ?_ _ | refine blk_drew ?_ | refine blk_alloc ?_ _)); refine blk_far ?_ NB167_180.out _; (with_reducible repeat (first | refine blk_drewN ?_ _ | refine blk_drew ?_ | refine blk_alloc ?_ _)); refine blk_far ?_ NB167_180.out _; (with_reducible repeat (first | refine blk_drewN ?_ _ | refine blk_drew ?_ | refine blk_alloc ?_ _)); exact BK167.out⟩, ⟨by (with_reducible repeat (first | refine blk_drewN ?_ _ | refine blk_drew ?_ | refine blk_alloc ?_ _)); refine blk_far ?_ NB178_180.out _; (with_reducible repeat (first | refine blk_drewN ?_ _ | refine blk_drew ?_ | refine blk_alloc ?_ _)); refine blk_far ?_ NB178_180.out _; (with_reducible repeat (first | refine blk_drewN ?_ _ | refine blk_drew ?_ | refine blk_alloc ?_ _)); refine blk_far ?_ NB178_180.out _; (with_reducible repeat (first | refine blk_drewN ?_ _ | refine blk_drew ?_ | refine blk_alloc ?_ _)); refine blk_far ?_ NB178_180.out _; (with_reducible repeat (first | refine blk_drewN ?_ _ | refine blk_drew ?_ | refine blk_alloc ?_ _)); refine blk_far ?_ NB178_180.out _; (with_reducible repeat (first | refine blk_drewN ?_ _ | refine blk_drew ?_ | refine blk_alloc ?_ _)); refine blk_far ?_ NB178_180.out _; (with_reducible repeat (first | refine blk_drewN ?_ _ | refine blk_drew ?_ | refine blk_alloc ?_ _)); exact BK178.out⟩, ⟨by (with_reducible repeat (first | refine blk_drewN ?_ _ | refine blk_drew ?_ | refine blk_alloc ?_ _)); refine blk_put (cs := #[.int .i64 t184, .int .i64 t185, .int .i64 t186, .int .i64 t187, .int .i64 t188, .int .i64 0]) ?_ 5 _ rfl; (with_reducible repeat (first | refine blk_drewN ?_ _ | refine blk_drew ?_ | refine blk_alloc ?_ _)); refine blk_put (cs := #[.int .i64 t184, .int .i64 t185, .int .i64 t186, .int .i64 t187, .int .i64 0, .int .i64 0]) ?_ 4 _ rfl; (with_reducible repeat (first | refine blk_drewN ?_ _ | refine blk_drew ?_ | refine blk_alloc ?_ _)); refine blk_put (cs := #[.int .i64 t184, .int .i64 t185, .int .i64 t186, .int .i64 0, .int .i64 0, .int .i64 0]) ?_ 3 _ rfl; (with_reducible repeat (first | refine blk_drewN ?_ _ | refine blk_drew ?_ | refine blk_alloc ?_ _)); refine blk_put (cs := #[.int .i64 t184, .int .i64 t185, .int .i64 0, .int .i64 0, .int .i64 0, .int .i64 0]) ?_ 2 _ rfl; (with_reducible repeat (first | refine blk_drewN ?_ _ | refine blk_drew ?_ | refine blk_alloc ?_ _)); refine blk_put (cs := #[.int .i64 t184, .int .i64 0, .int .i64 0, .int .i64 0, .int .i64 0, .int .i64 0]) ?_ 1 _ rfl; (with_reducible repeat (first | refine blk_drewN ?_ _ | refine blk_drew ?_ | refine blk_alloc ?_ _)); refine blk_put (cs := #[.int .i64 0, .int .i64 0, .int .i64 0, .int .i64 0, .int .i64 0, .int .i64 0]) ?_ 0 _ rfl; (with_reducible repeat (first | refine blk_drewN ?_ _ | refine blk_drew ?_ | refine blk_alloc ?_ _)); exact BK180.out⟩, ⟨by repeat (first | (with_reducible first | exact HB.out | apply below_alloc | apply pw_below_drewN | apply below_drew1 | refine below_set ?_ GE167.out | refine below_set ?_ GE178.out | refine below_set ?_ GE180.out) | exact HB.out)⟩⟩
                  · rw [if_neg c25] at H
                    exact absurd H (by simp)
                · rw [if_neg c23] at H
                  have c23b0 : decide (x8_2 < (a1.size : Int)) = false := decide_eq_false c23
                  clear c23
                  (first | rw [c23b0] | (simp only [i64_w, i32_w]; rw [c23b0]) | skip)
                  replace H := Option.bind_eq_some_iff.mp H
                  obtain ⟨⟨t192, t193, t194, t195, t196, t197, t198⟩, A370, H⟩ := H
                  replace H : (quillpenlaw04_ScanRuns.j2 k2 a1 t173 x7_2 x8_2 t198 a0_0 a0_1 a0_2 t176 t177 t192 t193 t194 t195 t196 t197) = some r := H
                  have A37 := Aside0.mk A370
                  clear A370
                  have H' := Aside0.mk H
                  clear H
                  go_wp2_with (first | ((with_reducible refine gate_callee (f := 14) rfl ?_); refine goesL_ (some 51) rfl rfl Try.func14 (by kernel_rfl) rfl #[.int .i64 x7_2] rfl (by (try simp only [List.map_toArray, List.map_cons, List.map_nil]); first | done | rfl | (simp only [List.length_drop, List.length_take]; rfl)) ?_; (with_reducible refine (quillpenref04_Close.calls x7_2 t192 t193 t194 t195 t196 t197 t198 _ A37.out).mono ?_); rintro e w38 ⟨rfl, hb⟩; refine ⟨_, rfl, ?_⟩; have n0_ := Aside0.mk (Kd.R_below (by (with_reducible repeat (first | apply Kd.R_alloc | apply Kd.R_drewN | apply Kd.R_drew)); exact HO_5.out) hb); have n1_ := Aside0.mk (blk_below (g := gb167) (o := .cells #[.int .u8 a0_0, .int .u8 a0_1, .int .i64 a0_2] 23 (0, 0)) (by (with_reducible repeat (first | refine blk_drewN ?_ _ | refine blk_drew ?_ | refine blk_alloc ?_ _)); exact BK167.out) hb); have n2_ := Aside0.mk (blk_below (g := gb178) (o := .cells #[.int .i64 t176, .int .i64 t177] 47 (0, 0)) (by (with_reducible repeat (first | refine blk_drewN ?_ _ | refine blk_drew ?_ | refine blk_alloc ?_ _)); exact BK178.out) hb); have n3_ := Aside0.mk (blk_below (g := gb180) (o := .cells #[.int .i64 0, .int .i64 0, .int .i64 0, .int .i64 0, .int .i64 0, .int .i64 0] 35 (0, 0)) (by (with_reducible repeat (first | refine blk_drewN ?_ _ | refine blk_drew ?_ | refine blk_alloc ?_ _)); exact BK180.out) hb); have n4_ := Aside0.mk (below_step (by repeat (first | (with_reducible first | exact HB.out | apply below_alloc | apply pw_below_drewN | apply below_drew1 | refine below_set ?_ GE167.out | refine below_set ?_ GE178.out | refine below_set ?_ GE180.out) | exact HB.out)) hb); clear HO_5; clear BK167; clear BK178; clear BK180; clear HB; have HO_5 := n0_; have BK167 := n1_; have BK178 := n2_; have BK180 := n3_; have HB := n4_; clear n0_ n1_ n2_ n3_ n4_; (try clear hb); (try clear hb2); (try clear hk); (try clear hi); have hnb39 := NB180_167.out; have hnc39 := NB167_180.out; have hnb40 := NB180_178.out; have hnc40 := NB178_180.out; have hcz41_0 : w38.cell? ⟨gb180, 0, none⟩ = some (.int .i64 0) := (blk_cell BK180.out 0).trans rfl; have hcz41_1 : w38.cell? ⟨gb180, 1, none⟩ = some (.int .i64 0) := (blk_cell BK180.out 1).trans rfl; have hcz41_2 : w38.cell? ⟨gb180, 2, none⟩ = some (.int .i64 0) := (blk_cell BK180.out 2).trans rfl; have hcz41_3 : w38.cell? ⟨gb180, 3, none⟩ = some (.int .i64 0) := (blk_cell BK180.out 3).trans rfl; have hcz41_4 : w38.cell? ⟨gb180, 4, none⟩ = some (.int .i64 0) := (blk_cell BK180.out 4).trans rfl; have hcz41_5 : w38.cell? ⟨gb180, 5, none⟩ = some (.int .i64 0) := (blk_cell BK180.out 5).trans rfl; have hfz41_0 := blk_frozen BK180.out 0; have hfz41_1 := blk_frozen BK180.out 1; have hfz41_2 := blk_frozen BK180.out 2; have hfz41_3 := blk_frozen BK180.out 3; have hfz41_4 := blk_frozen BK180.out 4; have hfz41_5 := blk_frozen BK180.out 5))
                  go_meet
                  case rel => exact ⟨_, (x7_2), (t198), (t192), (t193), (t194), (t195), (t196), (t197), (by first | rfl | (simp; done) | (simp [*]; done)), (by first | rfl | (simp; done) | (simp [*]; done)), H', ⟨by have := HJ2.out; have := HK2.out; first | omega | exact Nat.le_refl _⟩, ⟨by (with_reducible repeat (first | apply Kd.R_alloc | apply Kd.R_drewN | apply Kd.R_drew)); exact Kd.R_mono (Kd.R_far (p := ⟨gb180, 5, none⟩) (Kd.R_far (p := ⟨gb180, 4, none⟩) (Kd.R_far (p := ⟨gb180, 3, none⟩) (Kd.R_far (p := ⟨gb180, 2, none⟩) (Kd.R_far (p := ⟨gb180, 1, none⟩) (Kd.R_far (p := ⟨gb180, 0, none⟩) (Kd.R_types HO_5.out BK180.out (by decide)) (fun _ hk => hk.2) (.int .i64 t192)) (fun _ hk => hk.2) (.int .i64 t193)) (fun _ hk => hk.2) (.int .i64 t194)) (fun _ hk => hk.2) (.int .i64 t195)) (fun _ hk => hk.2) (.int .i64 t196)) (fun _ hk => hk.2) (.int .i64 t197)) (fun _ hk => trivial)⟩, ⟨by (with_reducible repeat (first | refine blk_drewN ?_ _ | refine blk_drew ?_ | refine blk_alloc ?_ _)); refine blk_far ?_ NB167_180.out _; (with_reducible repeat (first | refine blk_drewN ?_ _ | refine blk_drew ?_ | refine blk_alloc ?_ _)); refine blk_far ?_ NB167_180.out _; (with_reducible repeat (first | refine blk_drewN ?_ _ | refine blk_drew ?_ | refine blk_alloc ?_ _)); refine blk_far ?_ NB167_180.out _; (with_reducible repeat (first | refine blk_drewN ?_ _ | refine blk_drew ?_ | refine blk_alloc ?_ _)); refine blk_far ?_ NB167_180.out _; (with_reducible repeat (first | refine blk_drewN ?_ _ | refine blk_drew ?_ | refine blk_alloc ?_ _)); refine blk_far ?_ NB167_180.out _; (with_reducible repeat (first | refine blk_drewN ?_ _ | refine blk_drew ?_ | refine blk_alloc ?_ _)); refine blk_far ?_ NB167_180.out _; (with_reducible repeat (first | refine blk_drewN ?_ _ | refine blk_drew ?_ | refine blk_alloc ?_ _)); exact BK167.out⟩, ⟨by (with_reducible repeat (first | refine blk_drewN ?_ _ | refine blk_drew ?_ | refine blk_alloc ?_ _)); refine blk_far ?_ NB178_180.out _; (with_reducible repeat (first | refine blk_drewN ?_ _ | refine blk_drew ?_ | refine blk_alloc ?_ _)); refine blk_far ?_ NB178_180.out _; (with_reducible repeat (first | refine blk_drewN ?_ _ | refine blk_drew ?_ | refine blk_alloc ?_ _)); refine blk_far ?_ NB178_180.out _; (with_reducible repeat (first | refine blk_drewN ?_ _ | refine blk_drew ?_ | refine blk_alloc ?_ _)); refine blk_far ?_ NB178_180.out _; (with_reducible repeat (first | refine blk_drewN ?_ _ | refine blk_drew ?_ | refine blk_alloc ?_ _)); refine blk_far ?_ NB178_180.out _; (with_reducible repeat (first | refine blk_drewN ?_ _ | refine blk_drew ?_ | refine blk_alloc ?_ _)); refine blk_far ?_ NB178_180.out _; (with_reducible repeat (first | refine blk_drewN ?_ _ | refine blk_drew ?_ | refine blk_alloc ?_ _)); exact BK178.out⟩, ⟨by (with_reducible repeat (first | refine blk_drewN ?_ _ | refine blk_drew ?_ | refine blk_alloc ?_ _)); refine blk_put (cs := #[.int .i64 t192, .int .i64 t193, .int .i64 t194, .int .i64 t195, .int .i64 t196, .int .i64 0]) ?_ 5 _ rfl; (with_reducible repeat (first | refine blk_drewN ?_ _ | refine blk_drew ?_ | refine blk_alloc ?_ _)); refine blk_put (cs := #[.int .i64 t192, .int .i64 t193, .int .i64 t194, .int .i64 t195, .int .i64 0, .int .i64 0]) ?_ 4 _ rfl; (with_reducible repeat (first | refine blk_drewN ?_ _ | refine blk_drew ?_ | refine blk_alloc ?_ _)); refine blk_put (cs := #[.int .i64 t192, .int .i64 t193, .int .i64 t194, .int .i64 0, .int .i64 0, .int .i64 0]) ?_ 3 _ rfl; (with_reducible repeat (first | refine blk_drewN ?_ _ | refine blk_drew ?_ | refine blk_alloc ?_ _)); refine blk_put (cs := #[.int .i64 t192, .int .i64 t193, .int .i64 0, .int .i64 0, .int .i64 0, .int .i64 0]) ?_ 2 _ rfl; (with_reducible repeat (first | refine blk_drewN ?_ _ | refine blk_drew ?_ | refine blk_alloc ?_ _)); refine blk_put (cs := #[.int .i64 t192, .int .i64 0, .int .i64 0, .int .i64 0, .int .i64 0, .int .i64 0]) ?_ 1 _ rfl; (with_reducible repeat (first | refine blk_drewN ?_ _ | refine blk_drew ?_ | refine blk_alloc ?_ _)); refine blk_put (cs := #[.int .i64 0, .int .i64 0, .int .i64 0, .int .i64 0, .int .i64 0, .int .i64 0]) ?_ 0 _ rfl; (with_reducible repeat (first | refine blk_drewN ?_ _ | refine blk_drew ?_ | refine blk_alloc ?_ _)); exact BK180.out⟩, ⟨by repeat (first | (with_reducible first | exact HB.out | apply below_alloc | apply pw_below_drewN | apply below_drew1 | refine below_set ?_ GE167.out | refine below_set ?_ GE178.out | refine below_set ?_ GE180.out) | exact HB.out)⟩⟩
              case rest =>
                clear HC21
                try clear c1
                try clear c2
                try clear p2
                try clear q2
                try clear hx2
                try clear c3
                try clear c4
                try clear c5
                try clear c5b0
                try clear c5b1
                try clear p6
                try clear c8
                try clear c9
                try clear c11
                try clear c14
                try clear c15
                try clear c18
                try clear c20
                try clear c20b0
                try clear c23
                try clear c23b0
                try clear c25
                try clear c25b0
                try clear p26
                try clear q26
                try clear hx26
                try clear c39
                try clear c40
                try clear hcz15_0
                try clear hcz15_1
                try clear hcz15_2
                try clear hcz19_0
                try clear hcz19_1
                try clear hcz41_0
                try clear hcz41_1
                try clear hcz41_2
                try clear hcz41_3
                try clear hcz41_4
                try clear hcz41_5
                try clear hcz8_0
                try clear hcz8_1
                try clear hcz8_2
                try clear hfz15_0
                try clear hfz15_1
                try clear hfz15_2
                try clear hfz19_0
                try clear hfz19_1
                try clear hfz41_0
                try clear hfz41_1
                try clear hfz41_2
                try clear hfz41_3
                try clear hfz41_4
                try clear hfz41_5
                try clear hfz8_0
                try clear hfz8_1
                try clear hfz8_2
                try clear p2
                try clear p26
                try clear q26
                obtain ⟨kq, x7_20, x10_20, x181000_20, x181001_20, x181002_20, x181003_20, x181004_20, x181005_20, rfl, rfl, HA, HJ20, HO_5, BK167, BK178, BK180, HB⟩ := hcut
                cases kq with
                | zero => exact absurd HA.out (by simp [quillpenlaw04_ScanRuns.j2])
                | succ kj20 =>
                  have H := HA.out
                  clear HA
                  simp only [quillpenlaw04_ScanRuns.j2] at H
                  by_cases c42 : x10_20 = 0
                  · rw [if_pos c42] at H
                    have c42b0 : (x10_20 == 0) = true := beq_iff_eq.mpr c42
                    have c42b1 : (x10_20 != 0) = false := bne_eq_false_iff_eq.mpr c42
                    clear c42
                    by_cases c43 : x8_2 ≥ (t173.length : Int)
                    · rw [if_pos c43] at H
                      have c43b0 : decide ((t173.length : Int) ≤ x8_2) = true := decide_eq_true c43
                      clear c43
                      obtain rfl := Option.some.inj H
                      try go_wp2
                      have n0_ := Aside0.mk (Kd.R_drew HO_5.out)
                      have n1_ := Aside0.mk (blk_drew BK167.out)
                      have n2_ := Aside0.mk (blk_drew BK178.out)
                      have n3_ := Aside0.mk (blk_drew BK180.out)
                      have n4_ := Aside0.mk (below_drew1 HB.out)
                      clear HO_5
                      clear BK167
                      clear BK178
                      clear BK180
                      clear HB
                      have HO_5 := n0_
                      have BK167 := n1_
                      have BK178 := n2_
                      have BK180 := n3_
                      have HB := n4_
                      clear n0_ n1_ n2_ n3_ n4_
                      obtain ⟨Ao45, co45, eo45⟩ := Kd.R_slice HO_5.out
                      (first | subst eo45 | (injection eo45 with f1_ f2_ f3_; have f4_ := f1_.symm; have f5_ := f3_.symm; clear f1_ f2_ f3_; subst f4_; subst f5_))
                      refine start_ (n := 13) (S := fun w' => True) (ds := []) #[false, false, false, false, false, false, false, false, false, false, false, false, false] (by kernel_rfl) rfl rfl trivial (fun hHeld => ?_); refine with_tabW quillpenlaw04_ScanRuns.tab15 quillpenlaw04_ScanRuns.bits15 (fun HT_ HW_ => ?_)
                      generalize wc.drew = w44 at HO_5 BK167 BK178 BK180 HB hHeld ⊢
                      refine pure_ (i := 0) (N := some 70) (v := ?_) (a' := ?_) #[true, false, false, false, false, false, false, false, false, false, false, false, false] rfl rfl (any_of HT_.out (by kernel_rfl)) (fun _ _ _ h => h) (Or.inl ⟨by rfl, ?_⟩) ?_ ?_
                      rotate_left
                      · intro w'
                        go_simp
                        with_reducible rfl
                      rotate_left
                      · simp only [Act.put, List.setIfInBounds_toArray, List.set_cons_zero, List.set_cons_succ, i64_w, i32_w]
                        rfl
                      refine pure_ (i := 1) (N := some 71) (v := ?_) (a' := ?_) #[true, true, false, false, false, false, false, false, false, false, false, false, false] rfl rfl (any_of HT_.out (by kernel_rfl)) (fun _ _ _ h => h) (Or.inl ⟨by rfl, ?_⟩) ?_ ?_
                      rotate_left
                      · intro w'
                        go_simp
                        with_reducible rfl
                      rotate_left
                      · simp only [Act.put, List.setIfInBounds_toArray, List.set_cons_zero, List.set_cons_succ, i64_w, i32_w]
                        rfl
                      refine pure_ (i := 2) (N := some 72) (v := ?_) (a' := ?_) #[true, true, true, false, false, false, false, false, false, false, false, false, false] rfl rfl (any_of HT_.out (by kernel_rfl)) (fun _ _ _ h => h) (Or.inl ⟨by rfl, ?_⟩) ?_ ?_
                      rotate_left
                      · intro w'
                        go_simp
                        with_reducible rfl
                      rotate_left
                      · simp only [Act.put, List.setIfInBounds_toArray, List.set_cons_zero, List.set_cons_succ, i64_w, i32_w]
                        rfl
                      refine pure_ (i := 3) (N := some 73) (v := ?_) (a' := ?_) #[true, true, true, true, false, false, false, false, false, false, false, false, false] rfl rfl (any_of HT_.out (by kernel_rfl)) (fun _ _ _ h => h) (Or.inl ⟨by rfl, ?_⟩) ?_ ?_
                      rotate_left
                      · intro w'
                        go_simp
                        with_reducible rfl
                      rotate_left
                      · simp only [Act.put, List.setIfInBounds_toArray, List.set_cons_zero, List.set_cons_succ, i64_w, i32_w]
                        rfl
                      refine pure_ (i := 4) (N := some 74) (v := ?_) (a' := ?_) #[true, true, true, true, true, false, false, false, false, false, false, false, false] rfl rfl (any_of HT_.out (by kernel_rfl)) (fun _ _ _ h => h) (Or.inl ⟨by rfl, ?_⟩) ?_ ?_
                      rotate_left
                      · intro w'
                        go_simp
                        with_reducible rfl
                      rotate_left
                      · simp only [Act.put, List.setIfInBounds_toArray, List.set_cons_zero, List.set_cons_succ, i64_w, i32_w]
                        rfl
                      refine pure_ (i := 5) (N := some 75) (v := undef) (a' := ?_) #[true, true, true, true, true, true, false, false, false, false, false, false, false] rfl rfl (any_of HT_.out (by kernel_rfl)) (fun _ _ _ h => h) (Or.inr ⟨by rfl, rfl⟩) ?_ ?_
                      rotate_left
                      · simp only [Act.put, List.setIfInBounds_toArray, List.set_cons_zero, List.set_cons_succ, i64_w, i32_w]
                        rfl
                      refine pure_ (i := 6) (N := some 76) (v := undef) (a' := ?_) #[true, true, true, true, true, true, true, false, false, false, false, false, false] rfl rfl (any_of HT_.out (by kernel_rfl)) (fun _ _ _ h => h) (Or.inr ⟨by rfl, rfl⟩) ?_ ?_
                      rotate_left
                      · simp only [Act.put, List.setIfInBounds_toArray, List.set_cons_zero, List.set_cons_succ, i64_w, i32_w]
                        rfl
                      refine pure_ (i := 7) (N := some 77) (v := undef) (a' := ?_) #[true, true, true, true, true, true, true, true, false, false, false, false, false] rfl rfl (any_of HT_.out (by kernel_rfl)) (fun _ _ _ h => h) (Or.inr ⟨by rfl, rfl⟩) ?_ ?_
                      rotate_left
                      · simp only [Act.put, List.setIfInBounds_toArray, List.set_cons_zero, List.set_cons_succ, i64_w, i32_w]
                        rfl
                      refine pure_ (i := 8) (N := some 78) (v := undef) (a' := ?_) #[true, true, true, true, true, true, true, true, true, false, false, false, false] rfl rfl (any_of HT_.out (by kernel_rfl)) (fun _ _ _ h => h) (Or.inr ⟨by rfl, rfl⟩) ?_ ?_
                      rotate_left
                      · simp only [Act.put, List.setIfInBounds_toArray, List.set_cons_zero, List.set_cons_succ, i64_w, i32_w]
                        rfl
                      refine pure_ (i := 9) (N := some 79) (v := undef) (a' := ?_) #[true, true, true, true, true, true, true, true, true, true, false, false, false] rfl rfl (any_of HT_.out (by kernel_rfl)) (fun _ _ _ h => h) (Or.inr ⟨by rfl, rfl⟩) ?_ ?_
                      rotate_left
                      · simp only [Act.put, List.setIfInBounds_toArray, List.set_cons_zero, List.set_cons_succ, i64_w, i32_w]
                        rfl
                      refine pure_ (i := 10) (N := some 80) (v := undef) (a' := ?_) #[true, true, true, true, true, true, true, true, true, true, true, false, false] rfl rfl (any_of HT_.out (by kernel_rfl)) (fun _ _ _ h => h) (Or.inr ⟨by rfl, rfl⟩) ?_ ?_
                      rotate_left
                      · simp only [Act.put, List.setIfInBounds_toArray, List.set_cons_zero, List.set_cons_succ, i64_w, i32_w]
                        rfl
                      refine pure_ (i := 11) (N := some 81) (v := undef) (a' := ?_) #[true, true, true, true, true, true, true, true, true, true, true, true, false] rfl rfl (any_of HT_.out (by kernel_rfl)) (fun _ _ _ h => h) (Or.inr ⟨by rfl, rfl⟩) ?_ ?_
                      rotate_left
                      · simp only [Act.put, List.setIfInBounds_toArray, List.set_cons_zero, List.set_cons_succ, i64_w, i32_w]
                        rfl
                      refine pure_ (i := 12) (N := some 82) (v := ?_) (a' := ?_) #[true, true, true, true, true, true, true, true, true, true, true, true, true] rfl rfl (any_of HT_.out (by kernel_rfl)) (fun _ _ _ h => h) (Or.inl ⟨by rfl, ?_⟩) ?_ ?_
                      rotate_left
                      · intro w'
                        go_simp
                        with_reducible rfl
                      rotate_left
                      · simp only [Act.put, List.setIfInBounds_toArray, List.set_cons_zero, List.set_cons_succ, i64_w, i32_w]
                        rfl
                      refine done_ (done_of HT_.out (by kernel_rfl)) ?_
                      try go_wp2
                      go_ret
                      exact ⟨by first | rfl | (simp [errW_none, errW_some] <;> rfl) | (simp [*, errW_none, errW_some] <;> rfl), by repeat (first | (with_reducible first | exact HB.out | apply below_alloc | apply pw_below_drewN | apply below_drew1 | refine below_set ?_ GE167.out | refine below_set ?_ GE178.out | refine below_set ?_ GE180.out) | exact HB.out)⟩
                    · rw [if_neg c43] at H
                      have c43b0 : decide ((t173.length : Int) ≤ x8_2) = false := decide_eq_false c43
                      clear c43
                      by_cases c46 : 0 ≤ x8_2
                      · rw [if_pos c46] at H
                        have c46b0 : decide (0 ≤ x8_2) = true := decide_eq_true c46
                        clear c46
                        by_cases c47 : x8_2 < (t173.length : Int)
                        · rw [if_pos c47] at H
                          have c47b0 : decide (x8_2 < (t173.length : Int)) = true := decide_eq_true c47
                          clear c47
                          replace H := Option.bind_eq_some_iff.mp H
                          obtain ⟨⟨t200, t201, t202, t203, t204, t205⟩, A480, H⟩ := H
                          replace H : (if (!(t200 == x181000_20) || (!(t201 == x181001_20) || (!(t202 == x181002_20) || (!(t203 == x181003_20) || (!(t204 == x181004_20) || (!(t205 == x181005_20))))))) = true then (some false) else (quillpenlaw04_ScanRuns.l0 kj20 a1 t173 x7_20 (wrap64 (x8_2 + 1)) a0_0 a0_1 a0_2 t176 t177)) = some r := H
                          have A48 := Aside0.mk A480
                          clear A480
                          by_cases c49 : (!(t200 == x181000_20) || (!(t201 == x181001_20) || (!(t202 == x181002_20) || (!(t203 == x181003_20) || (!(t204 == x181004_20) || (!(t205 == x181005_20))))))) = true
                          · rw [if_pos c49] at H
                            have c49b0 : (!(t200 == x181000_20) || (!(t201 == x181001_20) || (!(t202 == x181002_20) || (!(t203 == x181003_20) || (!(t204 == x181004_20) || (!(t205 == x181005_20))))))) = true := c49
                            clear c49
                            obtain rfl := Option.some.inj H
                            try go_wp2
                            have n0_ := Aside0.mk (Kd.R_drew HO_5.out)
                            have n1_ := Aside0.mk (blk_drew BK167.out)
                            have n2_ := Aside0.mk (blk_drew BK178.out)
                            have n3_ := Aside0.mk (blk_drew BK180.out)
                            have n4_ := Aside0.mk (below_drew1 HB.out)
                            clear HO_5
                            clear BK167
                            clear BK178
                            clear BK180
                            clear HB
                            have HO_5 := n0_
                            have BK167 := n1_
                            have BK178 := n2_
                            have BK180 := n3_
                            have HB := n4_
                            clear n0_ n1_ n2_ n3_ n4_
                            obtain ⟨Ao51, co51, eo51⟩ := Kd.R_slice HO_5.out
                            (first | subst eo51 | (injection eo51 with f1_ f2_ f3_; have f4_ := f1_.symm; have f5_ := f3_.symm; clear f1_ f2_ f3_; subst f4_; subst f5_))
                            have p199 : 0 ≤ (x8_2 : Int) := of_decide_eq_true (by first | (with_reducible assumption) | assumption)
                            have q199 : x8_2 < (t173.length : Int) := of_decide_eq_true (by first | (with_reducible assumption) | assumption)
                            obtain ⟨ad199, e199, hx199_0, hx199_1, hx199_2, hx199_3, hx199_4, hx199_5⟩ := at_T30 (Kd.R_reads' HO_5.out).2.2 x8_2 p199 q199
                            cases e199
                            replace p199 := eq_true p199
                            replace q199 := eq_true q199
                            refine start_ (n := 13) (S := fun w' => w'.cell? ⟨gb180, 0, none⟩ = some (.int .i64 x181000_20) ∧ w'.cell? ⟨gb180, 1, none⟩ = some (.int .i64 x181001_20) ∧ w'.cell? ⟨gb180, 2, none⟩ = some (.int .i64 x181002_20) ∧ w'.cell? ⟨gb180, 3, none⟩ = some (.int .i64 x181003_20) ∧ w'.cell? ⟨gb180, 4, none⟩ = some (.int .i64 x181004_20) ∧ w'.cell? ⟨gb180, 5, none⟩ = some (.int .i64 x181005_20) ∧ w'.cell? (ad199.add ((x8_2).toNat * 6)) = some (.bool ((rd_T30 t173 x8_2).f0)) ∧ w'.cell? ⟨(ad199.add ((x8_2).toNat * 6)).block, (ad199.add ((x8_2).toNat * 6)).off + 1, none⟩ = some (.bool ((rd_T30 t173 x8_2).f1)) ∧ w'.cell? ⟨(ad199.add ((x8_2).toNat * 6)).block, (ad199.add ((x8_2).toNat * 6)).off + 2, none⟩ = some (.bool ((rd_T30 t173 x8_2).f2)) ∧ w'.cell? ⟨(ad199.add ((x8_2).toNat * 6)).block, (ad199.add ((x8_2).toNat * 6)).off + 3, none⟩ = some (.bool ((rd_T30 t173 x8_2).f3)) ∧ w'.cell? ⟨(ad199.add ((x8_2).toNat * 6)).block, (ad199.add ((x8_2).toNat * 6)).off + 4, none⟩ = some (.bool ((rd_T30 t173 x8_2).f4)) ∧ w'.cell? ⟨(ad199.add ((x8_2).toNat * 6)).block, (ad199.add ((x8_2).toNat * 6)).off + 5, none⟩ = some (.int .u8 ((rd_T30 t173 x8_2).f5))) (ds := []) #[false, false, false, false, false, false, false, false, false, false, false, false, false] (by kernel_rfl) rfl rfl ⟨(blk_cell BK180.out 0).trans rfl, (blk_cell BK180.out 1).trans rfl, (blk_cell BK180.out 2).trans rfl, (blk_cell BK180.out 3).trans rfl, (blk_cell BK180.out 4).trans rfl, (blk_cell BK180.out 5).trans rfl, hx199_0, hx199_1, hx199_2, hx199_3, hx199_4, hx199_5⟩ (fun hHeld => ?_); refine with_tabW quillpenlaw04_ScanRuns.tab15 quillpenlaw04_ScanRuns.bits15 (fun HT_ HW_ => ?_)
                            generalize wc.drew = w50 at HO_5 BK167 BK178 BK180 HB hx199_0 hx199_1 hx199_2 hx199_3 hx199_4 hx199_5 hHeld ⊢
                            refine pure_ (i := 0) (N := some 70) (v := ?_) (a' := ?_) #[true, false, false, false, false, false, false, false, false, false, false, false, false] rfl rfl (any_of HT_.out (by kernel_rfl)) (fun _ _ _ h => h) (Or.inl ⟨by rfl, ?_⟩) ?_ ?_
                            rotate_left
                            · intro w'
                              go_simp
                              with_reducible rfl
                            rotate_left
                            · simp only [Act.put, List.setIfInBounds_toArray, List.set_cons_zero, List.set_cons_succ, i64_w, i32_w]
                              rfl
                            refine pure_ (i := 1) (N := some 71) (v := ?_) (a' := ?_) #[true, true, false, false, false, false, false, false, false, false, false, false, false] rfl rfl (any_of HT_.out (by kernel_rfl)) (fun _ _ _ h => h) (Or.inl ⟨by rfl, ?_⟩) ?_ ?_
                            rotate_left
                            · intro w'
                              go_simp
                              with_reducible rfl
                            rotate_left
                            · simp only [Act.put, List.setIfInBounds_toArray, List.set_cons_zero, List.set_cons_succ, i64_w, i32_w]
                              rfl
                            refine pure_ (i := 2) (N := some 72) (v := ?_) (a' := ?_) #[true, true, true, false, false, false, false, false, false, false, false, false, false] rfl rfl (any_of HT_.out (by kernel_rfl)) (fun _ _ _ h => h) (Or.inl ⟨by rfl, ?_⟩) ?_ ?_
                            rotate_left
                            · intro w'
                              go_simp
                              with_reducible rfl
                            rotate_left
                            · simp only [Act.put, List.setIfInBounds_toArray, List.set_cons_zero, List.set_cons_succ, i64_w, i32_w]
                              rfl
                            refine pure_ (i := 3) (N := some 73) (v := ?_) (a' := ?_) #[true, true, true, true, false, false, false, false, false, false, false, false, false] rfl rfl (any_of HT_.out (by kernel_rfl)) (fun _ _ _ h => h) (Or.inl ⟨by rfl, ?_⟩) ?_ ?_
                            rotate_left
                            · intro w'
                              go_simp
                              with_reducible rfl
                            rotate_left
                            · simp only [Act.put, List.setIfInBounds_toArray, List.set_cons_zero, List.set_cons_succ, i64_w, i32_w]
                              rfl
                            refine pure_ (i := 4) (N := some 74) (v := ?_) (a' := ?_) #[true, true, true, true, true, false, false, false, false, false, false, false, false] rfl rfl (any_of HT_.out (by kernel_rfl)) (fun _ _ _ h => h) (Or.inl ⟨by rfl, ?_⟩) ?_ ?_
                            rotate_left
                            · intro w'
                              go_simp
                              with_reducible rfl
                            rotate_left
                            · simp only [Act.put, List.setIfInBounds_toArray, List.set_cons_zero, List.set_cons_succ, i64_w, i32_w]
                              rfl
                            refine pure_ (i := 5) (N := some 75) (v := ?_) (a' := ?_) #[true, true, true, true, true, true, false, false, false, false, false, false, false] rfl rfl (any_of HT_.out (by kernel_rfl)) (fun _ _ _ h => h) (Or.inl ⟨by rfl, ?_⟩) ?_ ?_
                            rotate_left
                            · intro w'
                              go_simp
                              with_reducible rfl
                            rotate_left
                            · simp only [Act.put, List.setIfInBounds_toArray, List.set_cons_zero, List.set_cons_succ, i64_w, i32_w]
                              rfl
                            refine pure_ (i := 6) (N := some 76) (v := ?_) (a' := ?_) #[true, true, true, true, true, true, true, false, false, false, false, false, false] rfl rfl (any_of HT_.out (by kernel_rfl)) (fun _ _ _ h => h) (Or.inl ⟨by rfl, ?_⟩) ?_ ?_
                            rotate_left
                            · intro w'
                              go_simp
                              with_reducible rfl
                            rotate_left
                            · simp only [Act.put, List.setIfInBounds_toArray, List.set_cons_zero, List.set_cons_succ, i64_w, i32_w]
                              rfl
                            refine pure_ (i := 7) (N := some 77) (v := ?_) (a' := ?_) #[true, true, true, true, true, true, true, true, false, false, false, false, false] rfl rfl (any_of HT_.out (by kernel_rfl)) (fun _ _ _ h => h) (Or.inl ⟨by rfl, ?_⟩) ?_ ?_
                            rotate_left
                            · intro w'
                              go_simp
                              with_reducible rfl
                            rotate_left
                            · simp only [Act.put, List.setIfInBounds_toArray, List.set_cons_zero, List.set_cons_succ, i64_w, i32_w]
                              rfl
                            refine take_ (i := 8) (N := some 78) (v := ?_) (a' := ?_) #[true, true, true, true, true, true, true, true, true, false, false, false, false] rfl rfl (take_ofW HT_.out HW_.out (by kernel_rfl)) (fun _ _ _ h => h) (Or.inl ⟨by rfl, ?_⟩) hHeld ?_ ?_
                            rotate_left
                            · rintro w' ⟨s0, s1, s2, s3, s4, s5, s6, s7, s8, s9, s10, s11⟩
                              go_simp
                              with_reducible rfl
                            rotate_left
                            · simp only [Act.put, List.setIfInBounds_toArray, List.set_cons_zero, List.set_cons_succ, i64_w, i32_w]
                              rfl
                            refine take_ (i := 10) (N := some 80) (v := ?_) (a' := ?_) #[true, true, true, true, true, true, true, true, true, false, true, false, false] rfl rfl (take_ofW HT_.out HW_.out (by kernel_rfl)) (fun _ _ _ h => h) (Or.inl ⟨by rfl, ?_⟩) hHeld ?_ ?_
                            rotate_left
                            · rintro w' ⟨s0, s1, s2, s3, s4, s5, s6, s7, s8, s9, s10, s11⟩
                              go_simp
                              with_reducible rfl
                            rotate_left
                            · simp only [Act.put, List.setIfInBounds_toArray, List.set_cons_zero, List.set_cons_succ, i64_w, i32_w]
                              rfl
                            refine one_ (i := 9) (N := some 79) #[true, true, true, true, true, true, true, true, true, true, true, false, false] rfl rfl (one_of HT_.out (by kernel_rfl)) (by decide) (fun K hK => ?_)
                            refine goes_ Try.func12 (by kernel_rfl) rfl #[.agg #[.bool ((rd_T30 t173 x8_2).f0), .bool ((rd_T30 t173 x8_2).f1), .bool ((rd_T30 t173 x8_2).f2), .bool ((rd_T30 t173 x8_2).f3), .bool ((rd_T30 t173 x8_2).f4), .int .u8 ((rd_T30 t173 x8_2).f5)]] (by rfl) rfl rfl (by (try simp only [List.map_toArray, List.map_cons, List.map_nil]); first | done | rfl | (simp only [List.length_drop, List.length_take]; rfl)) ?_
                            with_reducible refine (quillpenlaw04_Ref.calls ((rd_T30 t173 x8_2).f0) ((rd_T30 t173 x8_2).f1) ((rd_T30 t173 x8_2).f2) ((rd_T30 t173 x8_2).f3) ((rd_T30 t173 x8_2).f4) ((rd_T30 t173 x8_2).f5) t200 t201 t202 t203 t204 t205 _ A48.out).mono ?_
                            rintro e w52 ⟨rfl, hb⟩
                            have HS6_ := (hb.cell (World.block_lt_of_cell? _ _ (hHeld.2.2.2.2.2.2.1))).trans (hHeld.2.2.2.2.2.2.1)
                            have HS7_ := (hb.cell (World.block_lt_of_cell? _ _ (hHeld.2.2.2.2.2.2.2.1))).trans (hHeld.2.2.2.2.2.2.2.1)
                            have HS8_ := (hb.cell (World.block_lt_of_cell? _ _ (hHeld.2.2.2.2.2.2.2.2.1))).trans (hHeld.2.2.2.2.2.2.2.2.1)
                            have HS9_ := (hb.cell (World.block_lt_of_cell? _ _ (hHeld.2.2.2.2.2.2.2.2.2.1))).trans (hHeld.2.2.2.2.2.2.2.2.2.1)
                            have HS10_ := (hb.cell (World.block_lt_of_cell? _ _ (hHeld.2.2.2.2.2.2.2.2.2.2.1))).trans (hHeld.2.2.2.2.2.2.2.2.2.2.1)
                            have HS11_ := (hb.cell (World.block_lt_of_cell? _ _ (hHeld.2.2.2.2.2.2.2.2.2.2.2))).trans (hHeld.2.2.2.2.2.2.2.2.2.2.2)
                            refine ⟨_, rfl, ?_⟩
                            have n0_ := Aside0.mk (Kd.R_below (by (with_reducible repeat (first | apply Kd.R_alloc | apply Kd.R_drewN | apply Kd.R_drew)); exact HO_5.out) hb)
                            have n1_ := Aside0.mk (blk_below (g := gb167) (o := .cells #[.int .u8 a0_0, .int .u8 a0_1, .int .i64 a0_2] 23 (0, 0)) (by (with_reducible repeat (first | refine blk_drewN ?_ _ | refine blk_drew ?_ | refine blk_alloc ?_ _)); exact BK167.out) hb)
                            have n2_ := Aside0.mk (blk_below (g := gb178) (o := .cells #[.int .i64 t176, .int .i64 t177] 47 (0, 0)) (by (with_reducible repeat (first | refine blk_drewN ?_ _ | refine blk_drew ?_ | refine blk_alloc ?_ _)); exact BK178.out) hb)
                            have n3_ := Aside0.mk (blk_below (g := gb180) (o := .cells #[.int .i64 x181000_20, .int .i64 x181001_20, .int .i64 x181002_20, .int .i64 x181003_20, .int .i64 x181004_20, .int .i64 x181005_20] 35 (0, 0)) (by (with_reducible repeat (first | refine blk_drewN ?_ _ | refine blk_drew ?_ | refine blk_alloc ?_ _)); exact BK180.out) hb)
                            have n4_ := Aside0.mk (below_step (by repeat (first | (with_reducible first | exact HB.out | apply below_alloc | apply pw_below_drewN | apply below_drew1 | refine below_set ?_ GE167.out | refine below_set ?_ GE178.out | refine below_set ?_ GE180.out) | exact HB.out)) hb)
                            clear HO_5
                            clear BK167
                            clear BK178
                            clear BK180
                            clear HB
                            have HO_5 := n0_
                            have BK167 := n1_
                            have BK178 := n2_
                            have BK180 := n3_
                            have HB := n4_
                            clear n0_ n1_ n2_ n3_ n4_
                            (try clear hb)
                            (try clear hb2)
                            (try clear hk)
                            (try clear hi)
                            refine hK.out _ _ ⟨(blk_cell BK180.out 0).trans rfl, (blk_cell BK180.out 1).trans rfl, (blk_cell BK180.out 2).trans rfl, (blk_cell BK180.out 3).trans rfl, (blk_cell BK180.out 4).trans rfl, (blk_cell BK180.out 5).trans rfl, HS6_, HS7_, HS8_, HS9_, HS10_, HS11_⟩ (fun hHeld => ?_)
                            clear hK K
                            refine norm_ (a' := ?_) ?_ ?_
                            rotate_left
                            · show Act.put _ (some 79) _ = _
                              simp only [Act.put, List.setIfInBounds_toArray, List.set_cons_zero, List.set_cons_succ, i64_w, i32_w]
                              rfl
                            refine pure_ (i := 11) (N := some 81) (v := ?_) (a' := ?_) #[true, true, true, true, true, true, true, true, true, true, true, true, false] rfl rfl (any_of HT_.out (by kernel_rfl)) (fun _ _ _ h => h) (Or.inl ⟨by rfl, ?_⟩) ?_ ?_
                            rotate_left
                            · intro w'
                              go_simp
                              with_reducible rfl
                            rotate_left
                            · simp only [Act.put, List.setIfInBounds_toArray, List.set_cons_zero, List.set_cons_succ, i64_w, i32_w]
                              rfl
                            refine pure_ (i := 12) (N := some 82) (v := ?_) (a' := ?_) #[true, true, true, true, true, true, true, true, true, true, true, true, true] rfl rfl (any_of HT_.out (by kernel_rfl)) (fun _ _ _ h => h) (Or.inl ⟨by rfl, ?_⟩) ?_ ?_
                            rotate_left
                            · intro w'
                              go_simp
                              with_reducible rfl
                            rotate_left
                            · simp only [Act.put, List.setIfInBounds_toArray, List.set_cons_zero, List.set_cons_succ, i64_w, i32_w]
                              rfl
                            refine done_ (done_of HT_.out (by kernel_rfl)) ?_
                            try go_wp2
                            go_ret
                            exact ⟨by first | rfl | (simp [errW_none, errW_some] <;> rfl) | (simp [*, errW_none, errW_some] <;> rfl), by repeat (first | (with_reducible first | exact HB.out | apply below_alloc | apply pw_below_drewN | apply below_drew1 | refine below_set ?_ GE167.out | refine below_set ?_ GE178.out | refine below_set ?_ GE180.out) | exact HB.out)⟩
                          · rw [if_neg c49] at H
                            have c49b0 : (!(t200 == x181000_20) || (!(t201 == x181001_20) || (!(t202 == x181002_20) || (!(t203 == x181003_20) || (!(t204 == x181004_20) || (!(t205 == x181005_20))))))) = false := by simpa using c49
                            clear c49
                            have H' := Aside0.mk H
                            clear H
                            try go_wp2
                            have n0_ := Aside0.mk (Kd.R_drew HO_5.out)
                            have n1_ := Aside0.mk (blk_drew BK167.out)
                            have n2_ := Aside0.mk (blk_drew BK178.out)
                            have n3_ := Aside0.mk (blk_drew BK180.out)
                            have n4_ := Aside0.mk (below_drew1 HB.out)
                            clear HO_5
                            clear BK167
                            clear BK178
                            clear BK180
                            clear HB
                            have HO_5 := n0_
                            have BK167 := n1_
                            have BK178 := n2_
                            have BK180 := n3_
                            have HB := n4_
                            clear n0_ n1_ n2_ n3_ n4_
                            obtain ⟨Ao54, co54, eo54⟩ := Kd.R_slice HO_5.out
                            (first | subst eo54 | (injection eo54 with f1_ f2_ f3_; have f4_ := f1_.symm; have f5_ := f3_.symm; clear f1_ f2_ f3_; subst f4_; subst f5_))
                            have p199 : 0 ≤ (x8_2 : Int) := of_decide_eq_true (by first | (with_reducible assumption) | assumption)
                            have q199 : x8_2 < (t173.length : Int) := of_decide_eq_true (by first | (with_reducible assumption) | assumption)
                            obtain ⟨ad199, e199, hx199_0, hx199_1, hx199_2, hx199_3, hx199_4, hx199_5⟩ := at_T30 (Kd.R_reads' HO_5.out).2.2 x8_2 p199 q199
                            cases e199
                            replace p199 := eq_true p199
                            replace q199 := eq_true q199
                            refine start_ (n := 13) (S := fun w' => w'.cell? ⟨gb180, 0, none⟩ = some (.int .i64 x181000_20) ∧ w'.cell? ⟨gb180, 1, none⟩ = some (.int .i64 x181001_20) ∧ w'.cell? ⟨gb180, 2, none⟩ = some (.int .i64 x181002_20) ∧ w'.cell? ⟨gb180, 3, none⟩ = some (.int .i64 x181003_20) ∧ w'.cell? ⟨gb180, 4, none⟩ = some (.int .i64 x181004_20) ∧ w'.cell? ⟨gb180, 5, none⟩ = some (.int .i64 x181005_20) ∧ w'.cell? (ad199.add ((x8_2).toNat * 6)) = some (.bool ((rd_T30 t173 x8_2).f0)) ∧ w'.cell? ⟨(ad199.add ((x8_2).toNat * 6)).block, (ad199.add ((x8_2).toNat * 6)).off + 1, none⟩ = some (.bool ((rd_T30 t173 x8_2).f1)) ∧ w'.cell? ⟨(ad199.add ((x8_2).toNat * 6)).block, (ad199.add ((x8_2).toNat * 6)).off + 2, none⟩ = some (.bool ((rd_T30 t173 x8_2).f2)) ∧ w'.cell? ⟨(ad199.add ((x8_2).toNat * 6)).block, (ad199.add ((x8_2).toNat * 6)).off + 3, none⟩ = some (.bool ((rd_T30 t173 x8_2).f3)) ∧ w'.cell? ⟨(ad199.add ((x8_2).toNat * 6)).block, (ad199.add ((x8_2).toNat * 6)).off + 4, none⟩ = some (.bool ((rd_T30 t173 x8_2).f4)) ∧ w'.cell? ⟨(ad199.add ((x8_2).toNat * 6)).block, (ad199.add ((x8_2).toNat * 6)).off + 5, none⟩ = some (.int .u8 ((rd_T30 t173 x8_2).f5))) (ds := []) #[false, false, false, false, false, false, false, false, false, false, false, false, false] (by kernel_rfl) rfl rfl ⟨(blk_cell BK180.out 0).trans rfl, (blk_cell BK180.out 1).trans rfl, (blk_cell BK180.out 2).trans rfl, (blk_cell BK180.out 3).trans rfl, (blk_cell BK180.out 4).trans rfl, (blk_cell BK180.out 5).trans rfl, hx199_0, hx199_1, hx199_2, hx199_3, hx199_4, hx199_5⟩ (fun hHeld => ?_); refine with_tabW quillpenlaw04_ScanRuns.tab15 quillpenlaw04_ScanRuns.bits15 (fun HT_ HW_ => ?_)
                            generalize wc.drew = w53 at HO_5 BK167 BK178 BK180 HB hx199_0 hx199_1 hx199_2 hx199_3 hx199_4 hx199_5 hHeld ⊢
                            refine pure_ (i := 0) (N := some 70) (v := ?_) (a' := ?_) #[true, false, false, false, false, false, false, false, false, false, false, false, false] rfl rfl (any_of HT_.out (by kernel_rfl)) (fun _ _ _ h => h) (Or.inl ⟨by rfl, ?_⟩) ?_ ?_
                            rotate_left
                            · intro w'
                              go_simp
                              with_reducible rfl
                            rotate_left
                            · simp only [Act.put, List.setIfInBounds_toArray, List.set_cons_zero, List.set_cons_succ, i64_w, i32_w]
                              rfl
                            refine pure_ (i := 1) (N := some 71) (v := ?_) (a' := ?_) #[true, true, false, false, false, false, false, false, false, false, false, false, false] rfl rfl (any_of HT_.out (by kernel_rfl)) (fun _ _ _ h => h) (Or.inl ⟨by rfl, ?_⟩) ?_ ?_
                            rotate_left
                            · intro w'
                              go_simp
                              with_reducible rfl
                            rotate_left
                            · simp only [Act.put, List.setIfInBounds_toArray, List.set_cons_zero, List.set_cons_succ, i64_w, i32_w]
                              rfl
                            refine pure_ (i := 2) (N := some 72) (v := ?_) (a' := ?_) #[true, true, true, false, false, false, false, false, false, false, false, false, false] rfl rfl (any_of HT_.out (by kernel_rfl)) (fun _ _ _ h => h) (Or.inl ⟨by rfl, ?_⟩) ?_ ?_
                            rotate_left
                            · intro w'
                              go_simp
                              with_reducible rfl
                            rotate_left
                            · simp only [Act.put, List.setIfInBounds_toArray, List.set_cons_zero, List.set_cons_succ, i64_w, i32_w]
                              rfl
                            refine pure_ (i := 3) (N := some 73) (v := ?_) (a' := ?_) #[true, true, true, true, false, false, false, false, false, false, false, false, false] rfl rfl (any_of HT_.out (by kernel_rfl)) (fun _ _ _ h => h) (Or.inl ⟨by rfl, ?_⟩) ?_ ?_
                            rotate_left
                            · intro w'
                              go_simp
                              with_reducible rfl
                            rotate_left
                            · simp only [Act.put, List.setIfInBounds_toArray, List.set_cons_zero, List.set_cons_succ, i64_w, i32_w]
                              rfl
                            refine pure_ (i := 4) (N := some 74) (v := ?_) (a' := ?_) #[true, true, true, true, true, false, false, false, false, false, false, false, false] rfl rfl (any_of HT_.out (by kernel_rfl)) (fun _ _ _ h => h) (Or.inl ⟨by rfl, ?_⟩) ?_ ?_
                            rotate_left
                            · intro w'
                              go_simp
                              with_reducible rfl
                            rotate_left
                            · simp only [Act.put, List.setIfInBounds_toArray, List.set_cons_zero, List.set_cons_succ, i64_w, i32_w]
                              rfl
                            refine pure_ (i := 5) (N := some 75) (v := ?_) (a' := ?_) #[true, true, true, true, true, true, false, false, false, false, false, false, false] rfl rfl (any_of HT_.out (by kernel_rfl)) (fun _ _ _ h => h) (Or.inl ⟨by rfl, ?_⟩) ?_ ?_
                            rotate_left
                            · intro w'
                              go_simp
                              with_reducible rfl
                            rotate_left
                            · simp only [Act.put, List.setIfInBounds_toArray, List.set_cons_zero, List.set_cons_succ, i64_w, i32_w]
                              rfl
                            refine pure_ (i := 6) (N := some 76) (v := ?_) (a' := ?_) #[true, true, true, true, true, true, true, false, false, false, false, false, false] rfl rfl (any_of HT_.out (by kernel_rfl)) (fun _ _ _ h => h) (Or.inl ⟨by rfl, ?_⟩) ?_ ?_
                            rotate_left
                            · intro w'
                              go_simp
                              with_reducible rfl
                            rotate_left
                            · simp only [Act.put, List.setIfInBounds_toArray, List.set_cons_zero, List.set_cons_succ, i64_w, i32_w]
                              rfl
                            refine pure_ (i := 7) (N := some 77) (v := ?_) (a' := ?_) #[true, true, true, true, true, true, true, true, false, false, false, false, false] rfl rfl (any_of HT_.out (by kernel_rfl)) (fun _ _ _ h => h) (Or.inl ⟨by rfl, ?_⟩) ?_ ?_
                            rotate_left
                            · intro w'
                              go_simp
                              with_reducible rfl
                            rotate_left
                            · simp only [Act.put, List.setIfInBounds_toArray, List.set_cons_zero, List.set_cons_succ, i64_w, i32_w]
                              rfl
                            refine take_ (i := 8) (N := some 78) (v := ?_) (a' := ?_) #[true, true, true, true, true, true, true, true, true, false, false, false, false] rfl rfl (take_ofW HT_.out HW_.out (by kernel_rfl)) (fun _ _ _ h => h) (Or.inl ⟨by rfl, ?_⟩) hHeld ?_ ?_
                            rotate_left
                            · rintro w' ⟨s0, s1, s2, s3, s4, s5, s6, s7, s8, s9, s10, s11⟩
                              go_simp
                              with_reducible rfl
                            rotate_left
                            · simp only [Act.put, List.setIfInBounds_toArray, List.set_cons_zero, List.set_cons_succ, i64_w, i32_w]
                              rfl
                            refine take_ (i := 10) (N := some 80) (v := ?_) (a' := ?_) #[true, true, true, true, true, true, true, true, true, false, true, false, false] rfl rfl (take_ofW HT_.out HW_.out (by kernel_rfl)) (fun _ _ _ h => h) (Or.inl ⟨by rfl, ?_⟩) hHeld ?_ ?_
                            rotate_left
                            · rintro w' ⟨s0, s1, s2, s3, s4, s5, s6, s7, s8, s9, s10, s11⟩
                              go_simp
                              with_reducible rfl
                            rotate_left
                            · simp only [Act.put, List.setIfInBounds_toArray, List.set_cons_zero, List.set_cons_succ, i64_w, i32_w]
                              rfl
                            refine one_ (i := 9) (N := some 79) #[true, true, true, true, true, true, true, true, true, true, true, false, false] rfl rfl (one_of HT_.out (by kernel_rfl)) (by decide) (fun K hK => ?_)
                            refine goes_ Try.func12 (by kernel_rfl) rfl #[.agg #[.bool ((rd_T30 t173 x8_2).f0), .bool ((rd_T30 t173 x8_2).f1), .bool ((rd_T30 t173 x8_2).f2), .bool ((rd_T30 t173 x8_2).f3), .bool ((rd_T30 t173 x8_2).f4), .int .u8 ((rd_T30 t173 x8_2).f5)]] (by rfl) rfl rfl (by (try simp only [List.map_toArray, List.map_cons, List.map_nil]); first | done | rfl | (simp only [List.length_drop, List.length_take]; rfl)) ?_
                            with_reducible refine (quillpenlaw04_Ref.calls ((rd_T30 t173 x8_2).f0) ((rd_T30 t173 x8_2).f1) ((rd_T30 t173 x8_2).f2) ((rd_T30 t173 x8_2).f3) ((rd_T30 t173 x8_2).f4) ((rd_T30 t173 x8_2).f5) t200 t201 t202 t203 t204 t205 _ A48.out).mono ?_
                            rintro e w55 ⟨rfl, hb⟩
                            have HS6_ := (hb.cell (World.block_lt_of_cell? _ _ (hHeld.2.2.2.2.2.2.1))).trans (hHeld.2.2.2.2.2.2.1)
                            have HS7_ := (hb.cell (World.block_lt_of_cell? _ _ (hHeld.2.2.2.2.2.2.2.1))).trans (hHeld.2.2.2.2.2.2.2.1)
                            have HS8_ := (hb.cell (World.block_lt_of_cell? _ _ (hHeld.2.2.2.2.2.2.2.2.1))).trans (hHeld.2.2.2.2.2.2.2.2.1)
                            have HS9_ := (hb.cell (World.block_lt_of_cell? _ _ (hHeld.2.2.2.2.2.2.2.2.2.1))).trans (hHeld.2.2.2.2.2.2.2.2.2.1)
                            have HS10_ := (hb.cell (World.block_lt_of_cell? _ _ (hHeld.2.2.2.2.2.2.2.2.2.2.1))).trans (hHeld.2.2.2.2.2.2.2.2.2.2.1)
                            have HS11_ := (hb.cell (World.block_lt_of_cell? _ _ (hHeld.2.2.2.2.2.2.2.2.2.2.2))).trans (hHeld.2.2.2.2.2.2.2.2.2.2.2)
                            refine ⟨_, rfl, ?_⟩
                            have n0_ := Aside0.mk (Kd.R_below (by (with_reducible repeat (first | apply Kd.R_alloc | apply Kd.R_drewN | apply Kd.R_drew)); exact HO_5.out) hb)
                            have n1_ := Aside0.mk (blk_below (g := gb167) (o := .cells #[.int .u8 a0_0, .int .u8 a0_1, .int .i64 a0_2] 23 (0, 0)) (by (with_reducible repeat (first | refine blk_drewN ?_ _ | refine blk_drew ?_ | refine blk_alloc ?_ _)); exact BK167.out) hb)
                            have n2_ := Aside0.mk (blk_below (g := gb178) (o := .cells #[.int .i64 t176, .int .i64 t177] 47 (0, 0)) (by (with_reducible repeat (first | refine blk_drewN ?_ _ | refine blk_drew ?_ | refine blk_alloc ?_ _)); exact BK178.out) hb)
                            have n3_ := Aside0.mk (blk_below (g := gb180) (o := .cells #[.int .i64 x181000_20, .int .i64 x181001_20, .int .i64 x181002_20, .int .i64 x181003_20, .int .i64 x181004_20, .int .i64 x181005_20] 35 (0, 0)) (by (with_reducible repeat (first | refine blk_drewN ?_ _ | refine blk_drew ?_ | refine blk_alloc ?_ _)); exact BK180.out) hb)
                            have n4_ := Aside0.mk (below_step (by repeat (first | (with_reducible first | exact HB.out | apply below_alloc | apply pw_below_drewN | apply below_drew1 | refine below_set ?_ GE167.out | refine below_set ?_ GE178.out | refine below_set ?_ GE180.out) | exact HB.out)) hb)
                            clear HO_5
                            clear BK167
                            clear BK178
                            clear BK180
                            clear HB
                            have HO_5 := n0_
                            have BK167 := n1_
                            have BK178 := n2_
                            have BK180 := n3_
                            have HB := n4_
                            clear n0_ n1_ n2_ n3_ n4_
                            (try clear hb)
                            (try clear hb2)
                            (try clear hk)
                            (try clear hi)
                            refine hK.out _ _ ⟨(blk_cell BK180.out 0).trans rfl, (blk_cell BK180.out 1).trans rfl, (blk_cell BK180.out 2).trans rfl, (blk_cell BK180.out 3).trans rfl, (blk_cell BK180.out 4).trans rfl, (blk_cell BK180.out 5).trans rfl, HS6_, HS7_, HS8_, HS9_, HS10_, HS11_⟩ (fun hHeld => ?_)
                            clear hK K
                            refine norm_ (a' := ?_) ?_ ?_
                            rotate_left
                            · show Act.put _ (some 79) _ = _
                              simp only [Act.put, List.setIfInBounds_toArray, List.set_cons_zero, List.set_cons_succ, i64_w, i32_w]
                              rfl
                            refine pure_ (i := 11) (N := some 81) (v := ?_) (a' := ?_) #[true, true, true, true, true, true, true, true, true, true, true, true, false] rfl rfl (any_of HT_.out (by kernel_rfl)) (fun _ _ _ h => h) (Or.inl ⟨by rfl, ?_⟩) ?_ ?_
                            rotate_left
                            · intro w'
                              go_simp
                              with_reducible rfl
                            rotate_left
                            · simp only [Act.put, List.setIfInBounds_toArray, List.set_cons_zero, List.set_cons_succ, i64_w, i32_w]
                              rfl
                            refine pure_ (i := 12) (N := some 82) (v := ?_) (a' := ?_) #[true, true, true, true, true, true, true, true, true, true, true, true, true] rfl rfl (any_of HT_.out (by kernel_rfl)) (fun _ _ _ h => h) (Or.inl ⟨by rfl, ?_⟩) ?_ ?_
                            rotate_left
                            · intro w'
                              go_simp
                              with_reducible rfl
                            rotate_left
                            · simp only [Act.put, List.setIfInBounds_toArray, List.set_cons_zero, List.set_cons_succ, i64_w, i32_w]
                              rfl
                            refine done_ (done_of HT_.out (by kernel_rfl)) ?_
                            try go_wp2
                            go_roundg kj20
                            case measure => have := HJ2.out; have := HK2.out; have := HJ20.out; omega
                            case rel => exact ⟨(x7_20), (wrap64 (x8_2 + 1)), (by first | rfl | (simp; done) | (simp [*]; done)), (by first | rfl | (simp; done) | (simp [*]; done)), H', ⟨by have := HJ2.out; have := HK2.out; have := HJ20.out; omega⟩, ⟨by (with_reducible repeat (first | apply Kd.R_alloc | apply Kd.R_drewN | apply Kd.R_drew)); exact HO_5.out⟩, ⟨by (with_reducible repeat (first | refine blk_drewN ?_ _ | refine blk_drew ?_ | refine blk_alloc ?_ _)); exact BK167.out⟩, ⟨by (with_reducible repeat (first | refine blk_drewN ?_ _ | refine blk_drew ?_ | refine blk_alloc ?_ _)); exact BK178.out⟩, ⟨by repeat (first | (with_reducible first | exact HB.out | apply below_alloc | apply pw_below_drewN | apply below_drew1 | refine below_set ?_ GE167.out | refine below_set ?_ GE178.out | refine below_set ?_ GE180.out) | exact HB.out)⟩⟩
                        · rw [if_neg c47] at H
                          exact absurd H (by simp)
                      · rw [if_neg c46] at H
                        exact absurd H (by simp)
                  · rw [if_neg c42] at H
                    have c42b0 : (x10_20 == 0) = false := beq_eq_false_iff_ne.mpr c42
                    have c42b1 : (x10_20 != 0) = true := bne_iff_ne.mpr c42
                    by_cases c56 : (t173.length : Int) = x8_2
                    · rw [if_pos c56] at H
                      have c56b0 : ((t173.length : Int) == x8_2) = true := beq_iff_eq.mpr c56
                      have c56b1 : ((t173.length : Int) != x8_2) = false := bne_eq_false_iff_eq.mpr c56
                      clear c56
                      by_cases c57 : (t176 == x10_20 && (t177 == x8_2)) = true
                      · rw [if_pos c57] at H
                        have c57b0 : (t176 == x10_20 && (t177 == x8_2)) = true := c57
                        (try (have c57b1 : decide (t176 = x10_20 && (t177 == x8_2)) = true := by simpa using c57))
                        (try (have c57b2 : (t176 == x10_20 && (t177 == x8_2)) = true := by simpa using c57))
                        clear c57
                        replace H := Option.bind_eq_some_iff.mp H
                        obtain ⟨t206, A580, H⟩ := H
                        replace H : (some t206) = some r := H
                        have A58 := Aside0.mk A580
                        clear A580
                        obtain rfl := Option.some.inj H
                        obtain ⟨Ao59, co59, eo59⟩ := Kd.R_slice HO_5.out
                        subst eo59
                        have hnb60 := NB178_167.out
                        have hnc60 := NB167_178.out
                        have hnb61 := NB178_180.out
                        have hnc61 := NB180_178.out
                        have hcz62_0 : wc.cell? ⟨gb178, 0, none⟩ = some (.int .i64 t176) := (blk_cell BK178.out 0).trans rfl
                        have hcz62_1 : wc.cell? ⟨gb178, 1, none⟩ = some (.int .i64 t177) := (blk_cell BK178.out 1).trans rfl
                        have hfz62_0 := blk_frozen BK178.out 0
                        have hfz62_1 := blk_frozen BK178.out 1
                        go_wp2_with (first | (go_at_call 9; (with_reducible refine (quillpenlaw04_awake.calls kj20  t206 _ A58.out).mono ?_); rintro e w63 ⟨rfl, hb⟩; have n0_ := Aside0.mk (Kd.R_below (by (with_reducible repeat (first | apply Kd.R_alloc | apply Kd.R_drewN | apply Kd.R_drew)); exact HO_5.out) hb); have n1_ := Aside0.mk (blk_below (g := gb167) (o := .cells #[.int .u8 a0_0, .int .u8 a0_1, .int .i64 a0_2] 23 (0, 0)) (by (with_reducible repeat (first | refine blk_drewN ?_ _ | refine blk_drew ?_ | refine blk_alloc ?_ _)); exact BK167.out) hb); have n2_ := Aside0.mk (blk_below (g := gb178) (o := .cells #[.int .i64 t176, .int .i64 t177] 47 (0, 0)) (by (with_reducible repeat (first | refine blk_drewN ?_ _ | refine blk_drew ?_ | refine blk_alloc ?_ _)); exact BK178.out) hb); have n3_ := Aside0.mk (blk_below (g := gb180) (o := .cells #[.int .i64 x181000_20, .int .i64 x181001_20, .int .i64 x181002_20, .int .i64 x181003_20, .int .i64 x181004_20, .int .i64 x181005_20] 35 (0, 0)) (by (with_reducible repeat (first | refine blk_drewN ?_ _ | refine blk_drew ?_ | refine blk_alloc ?_ _)); exact BK180.out) hb); have n4_ := Aside0.mk (below_step (by repeat (first | (with_reducible first | exact HB.out | apply below_alloc | apply pw_below_drewN | apply below_drew1 | refine below_set ?_ GE167.out | refine below_set ?_ GE178.out | refine below_set ?_ GE180.out) | exact HB.out)) hb); clear HO_5; clear BK167; clear BK178; clear BK180; clear HB; have HO_5 := n0_; have BK167 := n1_; have BK178 := n2_; have BK180 := n3_; have HB := n4_; clear n0_ n1_ n2_ n3_ n4_; (try clear hb); (try clear hb2); (try clear hk); (try clear hi)))
                        go_ret
                        exact ⟨by first | rfl | (simp [errW_none, errW_some] <;> rfl) | (simp [*, errW_none, errW_some] <;> rfl), by repeat (first | (with_reducible first | exact HB.out | apply below_alloc | apply pw_below_drewN | apply below_drew1 | refine below_set ?_ GE167.out | refine below_set ?_ GE178.out | refine below_set ?_ GE180.out) | exact HB.out)⟩
                      · rw [if_neg c57] at H
                        have c57b0 : (t176 == x10_20 && (t177 == x8_2)) = false := by simpa using c57
                        (try (have c57b1 : decide (t176 = x10_20 && (t177 == x8_2)) = false := by simpa using c57))
                        (try (have c57b2 : (t176 == x10_20 && (t177 == x8_2)) = false := by simpa using c57))
                        (try (have c57b3 : ¬ (t176 = x10_20 && (t177 == x8_2)) := by simpa using c57))
                        clear c57
                        obtain rfl := Option.some.inj H
                        obtain ⟨Ao64, co64, eo64⟩ := Kd.R_slice HO_5.out
                        subst eo64
                        have hnb65 := NB178_167.out
                        have hnc65 := NB167_178.out
                        have hnb66 := NB178_180.out
                        have hnc66 := NB180_178.out
                        have hcz67_0 : wc.cell? ⟨gb178, 0, none⟩ = some (.int .i64 t176) := (blk_cell BK178.out 0).trans rfl
                        have hcz67_1 : wc.cell? ⟨gb178, 1, none⟩ = some (.int .i64 t177) := (blk_cell BK178.out 1).trans rfl
                        have hfz67_0 := blk_frozen BK178.out 0
                        have hfz67_1 := blk_frozen BK178.out 1
                        go_wp2
                        go_ret
                        exact ⟨by first | rfl | (simp [errW_none, errW_some] <;> rfl) | (simp [*, errW_none, errW_some] <;> rfl), by repeat (first | (with_reducible first | exact HB.out | apply below_alloc | apply pw_below_drewN | apply below_drew1 | refine below_set ?_ GE167.out | refine below_set ?_ GE178.out | refine below_set ?_ GE180.out) | exact HB.out)⟩
                    · rw [if_neg c56] at H
                      have c56b0 : ((t173.length : Int) == x8_2) = false := beq_eq_false_iff_ne.mpr c56
                      have c56b1 : ((t173.length : Int) != x8_2) = true := bne_iff_ne.mpr c56
                      obtain rfl := Option.some.inj H
                      obtain ⟨Ao68, co68, eo68⟩ := Kd.R_slice HO_5.out
                      subst eo68
                      go_wp2
                      go_ret
                      exact ⟨by first | rfl | (simp [errW_none, errW_some] <;> rfl) | (simp [*, errW_none, errW_some] <;> rfl), by repeat (first | (with_reducible first | exact HB.out | apply below_alloc | apply pw_below_drewN | apply below_drew1 | refine below_set ?_ GE167.out | refine below_set ?_ GE178.out | refine below_set ?_ GE180.out) | exact HB.out)⟩
            · rw [if_neg c20] at H
              have c20b0 : decide (x8_2 ≤ (a1.size : Int)) = false := decide_eq_false c20
              clear c20
              by_cases c69 : (t173.length : Int) = (wrap64 ((a1.size : Int) + 1))
              · rw [if_pos c69] at H
                have c69b0 : ((t173.length : Int) == (wrap64 ((a1.size : Int) + 1))) = true := beq_iff_eq.mpr c69
                have c69b1 : ((t173.length : Int) != (wrap64 ((a1.size : Int) + 1))) = false := bne_eq_false_iff_eq.mpr c69
                clear c69
                by_cases c70 : (t176 == 0 && (t177 == 0)) = true
                · rw [if_pos c70] at H
                  have c70b0 : (t176 == 0 && (t177 == 0)) = true := c70
                  (try (have c70b1 : decide (t176 = 0 && (t177 == 0)) = true := by simpa using c70))
                  (try (have c70b2 : (t176 == 0 && (t177 == 0)) = true := by simpa using c70))
                  clear c70
                  replace H := Option.bind_eq_some_iff.mp H
                  obtain ⟨t179, A710, H⟩ := H
                  replace H : (some t179) = some r := H
                  have A71 := Aside0.mk A710
                  clear A710
                  obtain rfl := Option.some.inj H
                  obtain ⟨Ao72, co72, eo72⟩ := Kd.R_slice HO_5.out
                  subst eo72
                  have hnb73 := NB178_167.out
                  have hnc73 := NB167_178.out
                  have hcz74_0 : wr.cell? ⟨gb178, 0, none⟩ = some (.int .i64 t176) := (blk_cell BK178.out 0).trans rfl
                  have hcz74_1 : wr.cell? ⟨gb178, 1, none⟩ = some (.int .i64 t177) := (blk_cell BK178.out 1).trans rfl
                  have hfz74_0 := blk_frozen BK178.out 0
                  have hfz74_1 := blk_frozen BK178.out 1
                  go_wp2_with (first | (go_at_call 9; (with_reducible refine (quillpenlaw04_awake.calls k2  t179 _ A71.out).mono ?_); rintro e w75 ⟨rfl, hb⟩; have n0_ := Aside0.mk (Kd.R_below (by (with_reducible repeat (first | apply Kd.R_alloc | apply Kd.R_drewN | apply Kd.R_drew)); exact HO_5.out) hb); have n1_ := Aside0.mk (blk_below (g := gb167) (o := .cells #[.int .u8 a0_0, .int .u8 a0_1, .int .i64 a0_2] 23 (0, 0)) (by (with_reducible repeat (first | refine blk_drewN ?_ _ | refine blk_drew ?_ | refine blk_alloc ?_ _)); exact BK167.out) hb); have n2_ := Aside0.mk (blk_below (g := gb178) (o := .cells #[.int .i64 t176, .int .i64 t177] 47 (0, 0)) (by (with_reducible repeat (first | refine blk_drewN ?_ _ | refine blk_drew ?_ | refine blk_alloc ?_ _)); exact BK178.out) hb); have n3_ := Aside0.mk (below_step (by repeat (first | (with_reducible first | exact HB.out | apply below_alloc | apply pw_below_drewN | apply below_drew1 | refine below_set ?_ GE167.out | refine below_set ?_ GE178.out) | exact HB.out)) hb); clear HO_5; clear BK167; clear BK178; clear HB; have HO_5 := n0_; have BK167 := n1_; have BK178 := n2_; have HB := n3_; clear n0_ n1_ n2_ n3_; (try clear hb); (try clear hb2); (try clear hk); (try clear hi)))
                  go_ret
                  exact ⟨by first | rfl | (simp [errW_none, errW_some] <;> rfl) | (simp [*, errW_none, errW_some] <;> rfl), by repeat (first | (with_reducible first | exact HB.out | apply below_alloc | apply pw_below_drewN | apply below_drew1 | refine below_set ?_ GE167.out | refine below_set ?_ GE178.out) | exact HB.out)⟩
                · rw [if_neg c70] at H
                  have c70b0 : (t176 == 0 && (t177 == 0)) = false := by simpa using c70
                  (try (have c70b1 : decide (t176 = 0 && (t177 == 0)) = false := by simpa using c70))
                  (try (have c70b2 : (t176 == 0 && (t177 == 0)) = false := by simpa using c70))
                  (try (have c70b3 : ¬ (t176 = 0 && (t177 == 0)) := by simpa using c70))
                  clear c70
                  obtain rfl := Option.some.inj H
                  obtain ⟨Ao76, co76, eo76⟩ := Kd.R_slice HO_5.out
                  subst eo76
                  have hnb77 := NB178_167.out
                  have hnc77 := NB167_178.out
                  have hcz78_0 : wr.cell? ⟨gb178, 0, none⟩ = some (.int .i64 t176) := (blk_cell BK178.out 0).trans rfl
                  have hcz78_1 : wr.cell? ⟨gb178, 1, none⟩ = some (.int .i64 t177) := (blk_cell BK178.out 1).trans rfl
                  have hfz78_0 := blk_frozen BK178.out 0
                  have hfz78_1 := blk_frozen BK178.out 1
                  go_wp2
                  go_ret
                  exact ⟨by first | rfl | (simp [errW_none, errW_some] <;> rfl) | (simp [*, errW_none, errW_some] <;> rfl), by repeat (first | (with_reducible first | exact HB.out | apply below_alloc | apply pw_below_drewN | apply below_drew1 | refine below_set ?_ GE167.out | refine below_set ?_ GE178.out) | exact HB.out)⟩
              · rw [if_neg c69] at H
                have c69b0 : ((t173.length : Int) == (wrap64 ((a1.size : Int) + 1))) = false := beq_eq_false_iff_ne.mpr c69
                have c69b1 : ((t173.length : Int) != (wrap64 ((a1.size : Int) + 1))) = true := bne_iff_ne.mpr c69
                obtain rfl := Option.some.inj H
                obtain ⟨Ao79, co79, eo79⟩ := Kd.R_slice HO_5.out
                subst eo79
                go_wp2
                go_ret
                exact ⟨by first | rfl | (simp [errW_none, errW_some] <;> rfl) | (simp [*, errW_none, errW_some] <;> rfl), by repeat (first | (with_reducible first | exact HB.out | apply below_alloc | apply pw_below_drewN | apply below_drew1 | refine below_set ?_ GE167.out | refine below_set ?_ GE178.out) | exact HB.out)⟩

/-- THE ONE PURE STATEMENT of quillpenlaw04_ScanRuns: yours. -/
def quillpenlaw04_ScanRuns.Pure : Prop := ∀ (a0_0 : Int) (a0_1 : Int) (a0_2 : Int) (a1 : ByteArray), (Lit.int .u8 a0_0).wf = true → (Lit.int .u8 a0_1).wf = true → (Lit.int .i64 a0_2).wf = true → a1.size ≤ 140737488351232 → ∃ k, quillpenlaw04_ScanRuns.f k a0_0 a0_1 a0_2 a1 = some true
theorem quillpenlaw04_ScanRuns.walk (P : quillpenlaw04_ScanRuns.Pure) (a0_0 : Int) (a0_1 : Int) (a0_2 : Int) (a1 : ByteArray) (w : World) (w0_0 : (Lit.int .u8 a0_0).wf = true) (w0_1 : (Lit.int .u8 a0_1).wf = true) (w0_2 : (Lit.int .i64 a0_2).wf = true) (w1 : a1.size ≤ 140737488351232) :
    Calls Try.prog 5 #[.agg #[.int .u8 a0_0, .int .u8 a0_1, .int .i64 a0_2], .string a1] w fun e w' => e = .returned (.bool true) ∧ Below w.heap.size w w' := by
  obtain ⟨k, h⟩ := P a0_0 a0_1 a0_2 a1 w0_0 w0_1 w0_2 w1
  refine (quillpenlaw04_ScanRuns.calls k a0_0 a0_1 a0_2 a1 true w h).mono ?_
  rintro e w' ⟨rfl, hd⟩
  exact ⟨rfl, hd⟩

end Go.Proofs.Ytpejppnkdaiilaa.XScanRuns
