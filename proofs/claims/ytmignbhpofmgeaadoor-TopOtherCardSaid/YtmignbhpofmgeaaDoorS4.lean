/- What the proof of quillpentop.TopOther rests on: the kit's words as print.sh lays them for this seat, the functions' contracts, the plain laws (part 5 of 9, put together by wip/tools/shake.py). -/
import Derived.Test.YtmignbhpofmgeaaDoorS3
import Derived.Lib.Strings
namespace Go.Proofs.YtmignbhpofmgeaaDoor.PTopChunks
open Go.RowKit Go.Proofs.YtmignbhpofmgeaaDoorW.PrintWords Go.Proofs.YtmignbhpofmgeaaDoorW.PrintLast Go.Proofs.YtmignbhpofmgeaaDoorW.PrintMore
attribute [local go_sem] max2_int min2_int max_two min_two max_three min_three max_four min_four   -- for this text's walks alone
set_option linter.unusedVariables false
set_option linter.unusedSimpArgs false
def quillpenref07_Held.f (a0 : Int) (a1 : Int) : Option (Int) := if a0 < 0 then (some 0) else (if a0 > a1 then (some a1) else (some a0))
set_option maxHeartbeats 8000000 in
set_option maxRecDepth 100000 in
theorem quillpenref07_Held.calls (a0 : Int) (a1 : Int) (r : Int) (w : World) (h : quillpenref07_Held.f a0 a1 = some r) :
    Calls Tryd.prog 45 #[.int .i64 a0, .int .i64 a1] w fun e w' => e = .returned (.int .i64 r) ∧ Drawn0 w w' := by
  have H : (if a0 < 0 then (some 0) else (if a0 > a1 then (some a1) else (some a0))) = some r := h
  clear h
  by_cases c3 : a0 < 0
  · rw [if_pos c3] at H
    have c3b0 : decide (a0 < 0) = true := decide_eq_true c3
    clear c3
    obtain rfl := Option.some.inj H
    go_enter Tryd.func45, Tryd.ntmps45
    go_wp2
    go_ret
    exact ⟨by first | rfl | (simp; done) | (simp [*]; done), by repeat (first | exact Drawn0.refl _ | apply Drawn0.step)⟩
  · rw [if_neg c3] at H
    have c3b0 : decide (a0 < 0) = false := decide_eq_false c3
    clear c3
    by_cases c4 : a0 > a1
    · rw [if_pos c4] at H
      have c4b0 : decide (a1 < a0) = true := decide_eq_true c4
      clear c4
      obtain rfl := Option.some.inj H
      go_enter Tryd.func45, Tryd.ntmps45
      go_wp2
      go_ret
      exact ⟨by first | rfl | (simp; done) | (simp [*]; done), by repeat (first | exact Drawn0.refl _ | apply Drawn0.step)⟩
    · rw [if_neg c4] at H
      have c4b0 : decide (a1 < a0) = false := decide_eq_false c4
      clear c4
      obtain rfl := Option.some.inj H
      go_enter Tryd.func45, Tryd.ntmps45
      go_wp2
      go_ret
      exact ⟨by first | rfl | (simp; done) | (simp [*]; done), by repeat (first | exact Drawn0.refl _ | apply Drawn0.step)⟩
mutual
def quillpenref07_By.l0 : Nat → ByteArray → List Int → Bool → List Int → Int → Int → Option (List ByteArray)
  | 0, _, _, _, _, _, _ => none
  | k + 1, x0, x1, x5, x13, x14, x15 => if x15 < x14 then (if 0 ≤ x15 then (if x15 < (x13.length : Int) then (if x5 = true then (quillpenref07_By.l0 k x0 x1 true x13 x14 (wrap64 (x15 + 1))) else (quillpenref07_By.l0 k x0 x1 (decide ((rd x13 x15) > 0)) x13 x14 (wrap64 (x15 + 1)))) else (none)) else (none)) else (if x0.toList = ([] : List UInt8) then (quillpenref07_By.j1 k x0 x1 true) else (quillpenref07_By.j1 k x0 x1 (!x5)))
def quillpenref07_By.j1 : Nat → ByteArray → List Int → Bool → Option (List ByteArray)
  | 0, _, _, _ => none
  | k + 1, x0, x1, x30 => if x30 = true then (some (([x0] : List ByteArray))) else (quillpenref07_By.l1 k x0 x1 ([] : List ByteArray) 0)
def quillpenref07_By.l1 : Nat → ByteArray → List Int → List ByteArray → Int → Option (List ByteArray)
  | 0, _, _, _, _ => none
  | k + 1, x0, x1, x8, x9 => if x9 < (x0.size : Int) then (quillpenref07_By.l2 k x0 x1 x8 x9 x1 (x1.length : Int) 0) else (some x8)
def quillpenref07_By.l2 : Nat → ByteArray → List Int → List ByteArray → Int → List Int → Int → Int → Option (List ByteArray)
  | 0, _, _, _, _, _, _, _ => none
  | k + 1, x0, x1, x8, x9, x37, x38, x39 => if x39 < x38 then (if 0 ≤ x39 then (if x39 < (x37.length : Int) then (if x9 < (x0.size : Int) then ((quillpenref07_Held.f (rd x37 x39) (wrap64 ((x0.size : Int) - x9))).bind fun t165 => (if 0 ≤ x9 then (if x9 ≤ (wrap64 (x9 + t165)) then (if (wrap64 (x9 + t165)) ≤ (x0.size : Int) then (if x8.length < 8796093022208 then (quillpenref07_By.l2 k x0 x1 (x8 ++ [x0.extract (x9 : Int).toNat ((wrap64 (x9 + t165)) : Int).toNat]) (wrap64 (x9 + t165)) x37 x38 (wrap64 (x39 + 1))) else (none)) else (none)) else (none)) else (none))) else (quillpenref07_By.l2 k x0 x1 x8 x9 x37 x38 (wrap64 (x39 + 1)))) else (none)) else (none)) else (quillpenref07_By.l1 k x0 x1 x8 x9)
end
def quillpenref07_By.f (k : Nat) (a0 : ByteArray) (l1 : List Int) : Option (List ByteArray) := quillpenref07_By.l0 k a0 l1 false l1 (l1.length : Int) 0
set_option maxHeartbeats 8000000 in
set_option maxRecDepth 100000 in
theorem quillpenref07_By.calls (k : Nat) (a0 : ByteArray) (A1 : Option Addr) (c1 : Nat) (l1 : List Int) (r : List ByteArray) (w : World) (hr1 : Kd.C (Kd.int .i64) w A1 l1.length l1) (hc1 : l1.length ≤ c1) (h : quillpenref07_By.f k a0 l1 = some r) :
    Calls Tryd.prog 32 #[.string a0, .slice A1 l1.length c1] w fun e w' => ∃ v0_ : Value, e = .returned (v0_) ∧ Kd.R Kd.string 9 w' w.heap.size (fun _ => True) v0_ r ∧ Below w.heap.size w w' := by
  have HR1 := Aside0.mk hr1
  have HC1 := Aside0.mk hc1
  clear hr1 hc1
  have HB := Aside0.mk (Below.refl w.heap.size w)
  have H : (quillpenref07_By.l0 k a0 l1 false l1 (l1.length : Int) 0) = some r := h
  clear h
  have H' := Aside0.mk H
  clear H
  go_enter Tryd.func32, Tryd.ntmps32
  go_wp2
  go_loopg [5, 15] k (fun kq v5 v15 w' => ∃ (x5_1 : Bool) (x15_1 : Int), v5 = .bool x5_1 ∧ v15 = .int .i64 x15_1 ∧ Aside0 (quillpenref07_By.l0 kq a0 l1 x5_1 l1 (l1.length : Int) x15_1 = some r) ∧ Aside0 (kq ≤ k) ∧ Aside0 (Below w.heap.size w w'))
  case atStart => exact ⟨(false), (0), (by first | rfl | (simp; done) | (simp [*]; done)), (by first | rfl | (simp; done) | (simp [*]; done)), H', ⟨Nat.le_refl _⟩, ⟨by repeat (first | (with_reducible first | exact HB.out | apply below_alloc | apply pw_below_drewN | apply below_drew1) | exact HB.out)⟩⟩
  case round =>
    clear H'
    try clear c1
    try clear p2
    obtain ⟨x5_1, x15_1, rfl, rfl, HA, HK1, HB⟩ := hrel
    cases gk with
    | zero => exact absurd HA.out (by simp [quillpenref07_By.l0])
    | succ k1 =>
      have H := HA.out
      clear HA
      simp only [quillpenref07_By.l0] at H
      by_cases c3 : x15_1 < (l1.length : Int)
      · rw [if_pos c3] at H
        have c3b0 : decide (x15_1 < (l1.length : Int)) = true := decide_eq_true c3
        clear c3
        by_cases c4 : 0 ≤ x15_1
        · rw [if_pos c4] at H
          have c4b0 : decide (0 ≤ x15_1) = true := decide_eq_true c4
          clear c4
          by_cases c5 : x15_1 < (l1.length : Int)
          · rw [if_pos c5] at H
            have c5b0 : decide (x15_1 < (l1.length : Int)) = true := decide_eq_true c5
            clear c5
            by_cases c6 : x5_1 = true
            · subst c6
              have H1 : (quillpenref07_By.l0 k1 a0 l1 true l1 (l1.length : Int) (wrap64 (x15_1 + 1))) = some r := by rw [if_pos rfl] at H; exact H
              clear H
              have H := H1
              clear H1
              have H' := Aside0.mk H
              clear H
              have p160 : 0 ≤ (x15_1 : Int) := of_decide_eq_true (by first | (with_reducible assumption) | assumption)
              have q160 : x15_1 < (l1.length : Int) := of_decide_eq_true (by first | (with_reducible assumption) | assumption)
              obtain ⟨ad160, e160, hx160_0⟩ := Kd.at_int HR1.out x15_1 p160 q160
              cases e160
              replace hx160_0 := (HB.out.cell (World.block_lt_of_cell? w _ hx160_0)).trans hx160_0
              replace p160 := eq_true p160
              replace q160 := eq_true q160
              go_wp2
              go_roundg k1
              case measure => have := HK1.out; omega
              case rel => exact ⟨(true), (wrap64 (x15_1 + 1)), (by first | rfl | (simp; done) | (simp [*]; done)), (by first | rfl | (simp; done) | (simp [*]; done)), H', ⟨by have := HK1.out; omega⟩, ⟨by repeat (first | (with_reducible first | exact HB.out | apply below_alloc | apply pw_below_drewN | apply below_drew1) | exact HB.out)⟩⟩
            · replace c6 := Bool.eq_false_iff.mpr c6
              subst c6
              have H1 : (quillpenref07_By.l0 k1 a0 l1 (decide ((rd l1 x15_1) > 0)) l1 (l1.length : Int) (wrap64 (x15_1 + 1))) = some r := by rw [if_neg (show ¬ (false = true) by decide)] at H; exact H
              clear H
              have H := H1
              clear H1
              have H' := Aside0.mk H
              clear H
              have p160 : 0 ≤ (x15_1 : Int) := of_decide_eq_true (by first | (with_reducible assumption) | assumption)
              have q160 : x15_1 < (l1.length : Int) := of_decide_eq_true (by first | (with_reducible assumption) | assumption)
              obtain ⟨ad160, e160, hx160_0⟩ := Kd.at_int HR1.out x15_1 p160 q160
              cases e160
              replace hx160_0 := (HB.out.cell (World.block_lt_of_cell? w _ hx160_0)).trans hx160_0
              replace p160 := eq_true p160
              replace q160 := eq_true q160
              go_wp2
              go_roundg k1
              case measure => have := HK1.out; omega
              case rel => exact ⟨(decide ((rd l1 x15_1) > 0)), (wrap64 (x15_1 + 1)), (by first | rfl | (simp; done) | (simp [*]; done)), (by first | rfl | (simp; done) | (simp [*]; done)), H', ⟨by have := HK1.out; omega⟩, ⟨by repeat (first | (with_reducible first | exact HB.out | apply below_alloc | apply pw_below_drewN | apply below_drew1) | exact HB.out)⟩⟩
          · rw [if_neg c5] at H
            exact absurd H (by simp)
        · rw [if_neg c4] at H
          exact absurd H (by simp)
      · rw [if_neg c3] at H
        have c3b0 : decide (x15_1 < (l1.length : Int)) = false := decide_eq_false c3
        clear c3
        have HC7 := Aside0.mk H
        clear H
        go_upto_region 7 with (fail)
        go_cut [30] (fun v30 wc => ∃ (kq : Nat) (x30_6 : Bool), v30 = .bool x30_6 ∧ Aside0 (quillpenref07_By.j1 kq a0 l1 x30_6 = some r) ∧ Aside0 (kq ≤ k1) ∧ Aside0 (Below w.heap.size w wc))
        case first =>
          have H := HC7.out
          clear HC7
          by_cases c8 : a0.toList = ([] : List UInt8)
          · rw [if_pos c8] at H
            have c8b0 : (a0.toList == ([] : List UInt8)) = true := beq_iff_eq.mpr c8
            have c8b1 : (a0.toList != ([] : List UInt8)) = false := bne_eq_false_iff_eq.mpr c8
            clear c8
            (first | rw [c8b0] | (simp only [i64_w, i32_w]; rw [c8b0]) | skip)
            have H' := Aside0.mk H
            clear H
            go_wp2
            go_meet
            case rel => exact ⟨_, (true), (by first | rfl | (simp; done) | (simp [*]; done)), H', ⟨by have := HK1.out; first | omega | exact Nat.le_refl _⟩, ⟨by repeat (first | (with_reducible first | exact HB.out | apply below_alloc | apply pw_below_drewN | apply below_drew1) | exact HB.out)⟩⟩
          · rw [if_neg c8] at H
            have c8b0 : (a0.toList == ([] : List UInt8)) = false := beq_eq_false_iff_ne.mpr c8
            have c8b1 : (a0.toList != ([] : List UInt8)) = true := bne_iff_ne.mpr c8
            (first | rw [c8b0] | (simp only [i64_w, i32_w]; rw [c8b0]) | skip)
            have H' := Aside0.mk H
            clear H
            go_wp2
            go_meet
            case rel => exact ⟨_, (!x5_1), (by first | rfl | (simp; done) | (simp [*]; done)), H', ⟨by have := HK1.out; first | omega | exact Nat.le_refl _⟩, ⟨by repeat (first | (with_reducible first | exact HB.out | apply below_alloc | apply pw_below_drewN | apply below_drew1) | exact HB.out)⟩⟩
        case rest =>
          clear HC7
          try clear c1
          try clear p1
          try clear q1
          try clear hx1
          try clear p2
          try clear c3
          try clear c3b0
          try clear c4
          try clear c4b0
          try clear c5
          try clear c5b0
          try clear c6
          try clear p6
          try clear c8
          try clear c8b0
          try clear c8b1
          try clear hx160_0
          try clear p160
          try clear p2
          try clear q160
          obtain ⟨kq, x30_6, rfl, HA, HJ6, HB⟩ := hcut
          cases kq with
          | zero => exact absurd HA.out (by simp [quillpenref07_By.j1])
          | succ kj6 =>
            have H := HA.out
            clear HA
            simp only [quillpenref07_By.j1] at H
            by_cases c9 : x30_6 = true
            · subst c9
              have H1 : (some (([a0] : List ByteArray))) = some r := by rw [if_pos rfl] at H; exact H
              clear H
              have H := H1
              clear H1
              obtain ⟨y161, hy161⟩ : ∃ y_ : List ByteArray, y_ = (([a0] : List ByteArray)) := ⟨_, rfl⟩
              replace H : (some y161) = some r := by first | (rw [hy161]; with_reducible exact H) | (have H2_ := (Option.bind_some _ _).symm.trans H; rw [hy161]; with_reducible exact H2_) | (have H2_ := (Option.bind_some _ _).symm.trans H; with_reducible exact H2_) | with_reducible exact H | (rw [hy161]; exact H) | exact H
              have Ny161 := Aside0.mk hy161
              clear hy161
              obtain rfl := Option.some.inj H
              go_wp2_with (first | ((with_reducible refine gate_dst (N := 32) rfl ?_); refine Kd.R_lit Kd.string _ 9 ?hg (N := 32) ?hd (xs := ([a0] : List ByteArray)) (inner := [.string a0]) (ok := fun _ => True) (okp := fun _ => True) ?hr ?hp (fun _ hk => hk) trivial (Below.refl _ _) (Nat.le_refl _) (by simp) ?_; (case hd => rfl); (case hg => rfl); (case hr => first | (go_simp; done) | (go_simp; rfl)); (case hp => exact (Reps.one (show Kd.M Kd.string _ _ _ a0 [.string a0] from rfl) (Reps.none _ _))); intro v162 w10 ho11 hb hg_ hnew_; clear hg_ hnew_; (first | rw [← Ny161.out] at ho11 | (simp only [Int.reduceToNat] at ho11; rw [← Ny161.out] at ho11)); have n0_ := Aside0.mk (Kd.R_lower ho11 (below_size (by repeat (first | (with_reducible first | exact HB.out | apply below_alloc | apply pw_below_drewN | apply below_drew1) | exact HB.out)))); have n1_ := Aside0.mk (below_step (by repeat (first | (with_reducible first | exact HB.out | apply below_alloc | apply pw_below_drewN | apply below_drew1) | exact HB.out)) hb); clear HB; have HO163 := n0_; have HB := n1_; clear n0_ n1_; clear hb ho11))
              go_ret
              exact ⟨_, by first | rfl | (simp [errW_none, errW_some] <;> rfl) | (simp [*, errW_none, errW_some] <;> rfl), by (with_reducible repeat (first | apply Kd.R_alloc | apply Kd.R_drewN | apply Kd.R_drew)); exact HO163.out, by repeat (first | (with_reducible first | exact HB.out | apply below_alloc | apply pw_below_drewN | apply below_drew1) | exact HB.out)⟩
            · replace c9 := Bool.eq_false_iff.mpr c9
              subst c9
              have H1 : (quillpenref07_By.l1 kj6 a0 l1 ([] : List ByteArray) 0) = some r := by rw [if_neg (show ¬ (false = true) by decide)] at H; exact H
              clear H
              have H := H1
              clear H1
              have H' := Aside0.mk H
              clear H
              go_wp2
              go_loopg [8, 9] kj6 (fun kq v8 v9 w' => ∃ (x8_3 : List ByteArray) (x9_3 : Int), v9 = .int .i64 x9_3 ∧ Aside0 (quillpenref07_By.l1 kq a0 l1 x8_3 x9_3 = some r) ∧ Aside0 (kq ≤ kj6) ∧ Aside0 (Kd.R Kd.string 9 w' w.heap.size (fun _ => True) v8 x8_3) ∧ Aside0 (Below w.heap.size w w'))
              case atStart => exact ⟨(([] : List ByteArray)), (0), (by first | rfl | (simp; done) | (simp [*]; done)), H', ⟨Nat.le_refl _⟩, ⟨by first | exact Kd.R_nil _ _ _ _ _ | exact Kd.N_nil _ _ _ _ _ | exact Kd.V_nil _ _ _ _ _ | exact Kd.Q_nil _ _ _ _ _ | exact Kd.S_nil _ _ _ _ _⟩, ⟨by repeat (first | (with_reducible first | exact HB.out | apply below_alloc | apply pw_below_drewN | apply below_drew1) | exact HB.out)⟩⟩
              case round =>
                clear H'
                try clear c1
                try clear p1
                try clear q1
                try clear hx1
                try clear p2
                try clear c3
                try clear c3b0
                try clear c4
                try clear c4b0
                try clear c5
                try clear c5b0
                try clear c6
                try clear p6
                try clear c8
                try clear c8b0
                try clear c8b1
                try clear c9
                try clear hx160_0
                try clear p1
                try clear p160
                try clear p2
                try clear p6
                try clear q1
                try clear q160
                obtain ⟨x8_3, x9_3, rfl, HA, HK3, HO_8, HB⟩ := hrel
                cases gk with
                | zero => exact absurd HA.out (by simp [quillpenref07_By.l1])
                | succ k3 =>
                  have H := HA.out
                  clear HA
                  simp only [quillpenref07_By.l1] at H
                  by_cases c12 : x9_3 < (a0.size : Int)
                  · rw [if_pos c12] at H
                    have c12b0 : decide (x9_3 < (a0.size : Int)) = true := decide_eq_true c12
                    clear c12
                    have H' := Aside0.mk H
                    clear H
                    go_wp2
                    go_loopg [8, 9, 39] k3 (fun kq v8 v9 v39 w' => ∃ (x8_4 : List ByteArray) (x9_4 : Int) (x39_4 : Int), v9 = .int .i64 x9_4 ∧ v39 = .int .i64 x39_4 ∧ Aside0 (quillpenref07_By.l2 kq a0 l1 x8_4 x9_4 l1 (l1.length : Int) x39_4 = some r) ∧ Aside0 (kq ≤ k3) ∧ Aside0 (Kd.R Kd.string 9 w' w.heap.size (fun _ => True) v8 x8_4) ∧ Aside0 (Below w.heap.size w w'))
                    case atStart => exact ⟨(x8_3), (x9_3), (0), (by first | rfl | (simp; done) | (simp [*]; done)), (by first | rfl | (simp; done) | (simp [*]; done)), H', ⟨Nat.le_refl _⟩, ⟨by (with_reducible repeat (first | apply Kd.R_alloc | apply Kd.R_drewN | apply Kd.R_drew)); exact HO_8.out⟩, ⟨by repeat (first | (with_reducible first | exact HB.out | apply below_alloc | apply pw_below_drewN | apply below_drew1) | exact HB.out)⟩⟩
                    case round =>
                      clear H'
                      try clear c1
                      try clear p1
                      try clear q1
                      try clear hx1
                      try clear p2
                      try clear c3
                      try clear c3b0
                      try clear c4
                      try clear c4b0
                      try clear c5
                      try clear c5b0
                      try clear c6
                      try clear p6
                      try clear c8
                      try clear c8b0
                      try clear c8b1
                      try clear c9
                      try clear c12
                      try clear c12b0
                      try clear hx160_0
                      try clear p1
                      try clear p160
                      try clear p2
                      try clear p6
                      try clear q1
                      try clear q160
                      obtain ⟨x8_4, x9_4, x39_4, rfl, rfl, HA, HK4, HO_8, HB⟩ := hrel
                      cases gk with
                      | zero => exact absurd HA.out (by simp [quillpenref07_By.l2])
                      | succ k4 =>
                        have H := HA.out
                        clear HA
                        simp only [quillpenref07_By.l2] at H
                        by_cases c13 : x39_4 < (l1.length : Int)
                        · rw [if_pos c13] at H
                          have c13b0 : decide (x39_4 < (l1.length : Int)) = true := decide_eq_true c13
                          clear c13
                          by_cases c14 : 0 ≤ x39_4
                          · rw [if_pos c14] at H
                            have c14b0 : decide (0 ≤ x39_4) = true := decide_eq_true c14
                            clear c14
                            by_cases c15 : x39_4 < (l1.length : Int)
                            · rw [if_pos c15] at H
                              have c15b0 : decide (x39_4 < (l1.length : Int)) = true := decide_eq_true c15
                              clear c15
                              by_cases c16 : x9_4 < (a0.size : Int)
                              · rw [if_pos c16] at H
                                have c16b0 : decide (x9_4 < (a0.size : Int)) = true := decide_eq_true c16
                                clear c16
                                replace H := Option.bind_eq_some_iff.mp H
                                obtain ⟨t165, A170, H⟩ := H
                                replace H : (if 0 ≤ x9_4 then (if x9_4 ≤ (wrap64 (x9_4 + t165)) then (if (wrap64 (x9_4 + t165)) ≤ (a0.size : Int) then (if x8_4.length < 8796093022208 then (quillpenref07_By.l2 k4 a0 l1 (x8_4 ++ [a0.extract (x9_4 : Int).toNat ((wrap64 (x9_4 + t165)) : Int).toNat]) (wrap64 (x9_4 + t165)) l1 (l1.length : Int) (wrap64 (x39_4 + 1))) else (none)) else (none)) else (none)) else (none)) = some r := H
                                have A17 := Aside0.mk A170
                                clear A170
                                by_cases c18 : 0 ≤ x9_4
                                · rw [if_pos c18] at H
                                  have c18b0 := eq_true c18
                                  have c18b1 : decide (0 ≤ x9_4) = true := decide_eq_true c18
                                  clear c18
                                  by_cases c19 : x9_4 ≤ (wrap64 (x9_4 + t165))
                                  · rw [if_pos c19] at H
                                    have c19b0 := eq_true c19
                                    have c19b1 : decide (x9_4 ≤ (wrap64 (x9_4 + t165))) = true := decide_eq_true c19
                                    by_cases c20 : (wrap64 (x9_4 + t165)) ≤ (a0.size : Int)
                                    · rw [if_pos c20] at H
                                      have c20b0 := eq_true c20
                                      have c20b1 : decide ((wrap64 (x9_4 + t165)) ≤ (a0.size : Int)) = true := decide_eq_true c20
                                      by_cases c21 : x8_4.length < 8796093022208
                                      · rw [if_pos c21] at H
                                        have LMc21 := Aside0.mk c21
                                        clear c21
                                        obtain ⟨y166, hy166⟩ : ∃ y_ : List ByteArray, y_ = (x8_4 ++ [a0.extract (x9_4 : Int).toNat ((wrap64 (x9_4 + t165)) : Int).toNat]) := ⟨_, rfl⟩
                                        replace H : (quillpenref07_By.l2 k4 a0 l1 y166 (wrap64 (x9_4 + t165)) l1 (l1.length : Int) (wrap64 (x39_4 + 1))) = some r := by first | (rw [hy166]; with_reducible exact H) | (have H2_ := (Option.bind_some _ _).symm.trans H; rw [hy166]; with_reducible exact H2_) | (have H2_ := (Option.bind_some _ _).symm.trans H; with_reducible exact H2_) | with_reducible exact H | (rw [hy166]; exact H) | exact H
                                        have Ny166 := Aside0.mk hy166
                                        clear hy166
                                        have H' := Aside0.mk H
                                        clear H
                                        have p164 : 0 ≤ (x39_4 : Int) := of_decide_eq_true (by first | (with_reducible assumption) | assumption)
                                        have q164 : x39_4 < (l1.length : Int) := of_decide_eq_true (by first | (with_reducible assumption) | assumption)
                                        obtain ⟨ad164, e164, hx164_0⟩ := Kd.at_int HR1.out x39_4 p164 q164
                                        cases e164
                                        replace hx164_0 := (HB.out.cell (World.block_lt_of_cell? w _ hx164_0)).trans hx164_0
                                        replace p164 := eq_true p164
                                        replace q164 := eq_true q164
                                        go_wp2_with (first | ((with_reducible refine gate_callee (f := 45) rfl ?_); refine goesL_ (some 53) rfl rfl Tryd.func45 (by kernel_rfl) rfl #[.int .i64 (rd l1 x39_4), .int .i64 (wrap64 ((a0.size : Int) - x9_4))] rfl (by (try simp only [List.map_toArray, List.map_cons, List.map_nil]); first | done | rfl | (simp only [List.length_drop, List.length_take]; rfl)) ?_; (with_reducible refine (quillpenref07_Held.calls (rd l1 x39_4) (wrap64 ((a0.size : Int) - x9_4)) t165 _ A17.out).mono ?_); rintro e w' ⟨rfl, ⟨nd, rfl⟩⟩; refine ⟨_, rfl, ?_⟩) | ((with_reducible refine gate_builtin (b := .append) (xs := #[.tmp 55, .tmp 60]) rfl ?_); at_builtin; refine Kd.R_append Kd.string (w0 := w) w.heap.size rfl (.tmp 55) (.tmp 60) 61 9 (.string ⟨#[]⟩) 16 rfl Tryd.underlying61 info9 rfl (by decide) (by omega) u8 x8_4 (a0.extract (x9_4 : Int).toNat ((wrap64 (x9_4 + t165)) : Int).toNat) [.string (a0.extract (x9_4 : Int).toNat ((wrap64 (x9_4 + t165)) : Int).toNat)] (fun _ => True) (fun _ => False) rfl rfl ?aP (fun _ hk => hk.elim) ?aF ?aO ?aB ?aS ?aL ?_; (case aP => exact rfl); (case aB => exact (by repeat (first | (with_reducible first | exact HB.out | apply below_alloc | apply pw_below_drewN | apply below_drew1) | exact HB.out))); (case aF => exact (fun _ _ => trivial)); (case aO => exact (by (with_reducible repeat (first | apply Kd.R_alloc | apply Kd.R_drewN | apply Kd.R_drew)); exact HO_8.out)); (case aS => exact (below_size (by repeat (first | (with_reducible first | exact HB.out | apply below_alloc | apply pw_below_drewN | apply below_drew1) | exact HB.out)))); (case aL => have := LMc21.out; omega); intro v167 w22 ho hb hg hat; rw [← Ny166.out] at ho; have n0_ := Aside0.mk (hb); have n1_ := Aside0.mk (ho); clear HB; clear HO_8; have HB := n0_; have HO168 := n1_; clear n0_ n1_; clear ho hb hg hat))
                                        go_roundg k4
                                        case measure => have := HK1.out; have := HJ6.out; have := HK3.out; have := HK4.out; omega
                                        case rel => exact ⟨(y166), (wrap64 (x9_4 + t165)), (wrap64 (x39_4 + 1)), (by first | rfl | (simp; done) | (simp [*]; done)), (by first | rfl | (simp; done) | (simp [*]; done)), H', ⟨by have := HK1.out; have := HJ6.out; have := HK3.out; have := HK4.out; omega⟩, ⟨by (with_reducible repeat (first | apply Kd.R_alloc | apply Kd.R_drewN | apply Kd.R_drew)); exact HO168.out⟩, ⟨by repeat (first | (with_reducible first | exact HB.out | apply below_alloc | apply pw_below_drewN | apply below_drew1) | exact HB.out)⟩⟩
                                      · rw [if_neg c21] at H
                                        exact absurd H (by simp)
                                    · rw [if_neg c20] at H
                                      exact absurd H (by simp)
                                  · rw [if_neg c19] at H
                                    exact absurd H (by simp)
                                · rw [if_neg c18] at H
                                  exact absurd H (by simp)
                              · rw [if_neg c16] at H
                                have c16b0 : decide (x9_4 < (a0.size : Int)) = false := decide_eq_false c16
                                clear c16
                                have H' := Aside0.mk H
                                clear H
                                have p164 : 0 ≤ (x39_4 : Int) := of_decide_eq_true (by first | (with_reducible assumption) | assumption)
                                have q164 : x39_4 < (l1.length : Int) := of_decide_eq_true (by first | (with_reducible assumption) | assumption)
                                obtain ⟨ad164, e164, hx164_0⟩ := Kd.at_int HR1.out x39_4 p164 q164
                                cases e164
                                replace hx164_0 := (HB.out.cell (World.block_lt_of_cell? w _ hx164_0)).trans hx164_0
                                replace p164 := eq_true p164
                                replace q164 := eq_true q164
                                go_wp2
                                go_roundg k4
                                case measure => have := HK1.out; have := HJ6.out; have := HK3.out; have := HK4.out; omega
                                case rel => exact ⟨(x8_4), (x9_4), (wrap64 (x39_4 + 1)), (by first | rfl | (simp; done) | (simp [*]; done)), (by first | rfl | (simp; done) | (simp [*]; done)), H', ⟨by have := HK1.out; have := HJ6.out; have := HK3.out; have := HK4.out; omega⟩, ⟨by (with_reducible repeat (first | apply Kd.R_alloc | apply Kd.R_drewN | apply Kd.R_drew)); exact HO_8.out⟩, ⟨by repeat (first | (with_reducible first | exact HB.out | apply below_alloc | apply pw_below_drewN | apply below_drew1) | exact HB.out)⟩⟩
                            · rw [if_neg c15] at H
                              exact absurd H (by simp)
                          · rw [if_neg c14] at H
                            exact absurd H (by simp)
                        · rw [if_neg c13] at H
                          have c13b0 : decide (x39_4 < (l1.length : Int)) = false := decide_eq_false c13
                          clear c13
                          have H' := Aside0.mk H
                          clear H
                          go_wp2
                          go_roundg k4
                          case measure => have := HK1.out; have := HJ6.out; have := HK3.out; have := HK4.out; omega
                          case rel => exact ⟨(x8_4), (x9_4), (by first | rfl | (simp; done) | (simp [*]; done)), H', ⟨by have := HK1.out; have := HJ6.out; have := HK3.out; have := HK4.out; omega⟩, ⟨by (with_reducible repeat (first | apply Kd.R_alloc | apply Kd.R_drewN | apply Kd.R_drew)); exact HO_8.out⟩, ⟨by repeat (first | (with_reducible first | exact HB.out | apply below_alloc | apply pw_below_drewN | apply below_drew1) | exact HB.out)⟩⟩
                  · rw [if_neg c12] at H
                    have c12b0 : decide (x9_3 < (a0.size : Int)) = false := decide_eq_false c12
                    clear c12
                    obtain rfl := Option.some.inj H
                    go_wp2
                    go_ret
                    exact ⟨_, by first | rfl | (simp [errW_none, errW_some] <;> rfl) | (simp [*, errW_none, errW_some] <;> rfl), by (with_reducible repeat (first | apply Kd.R_alloc | apply Kd.R_drewN | apply Kd.R_drew)); exact HO_8.out, by repeat (first | (with_reducible first | exact HB.out | apply below_alloc | apply pw_below_drewN | apply below_drew1) | exact HB.out)⟩
def quillpenref05_Same.l0 : Nat → List ByteArray → List ByteArray → Int → Int → Option (Bool)
  | 0, _, _, _, _ => none
  | k + 1, x0, x1, x12, x13 => if x13 < x12 then (if 0 ≤ x13 then (if x13 < (x0.length : Int) then (if x13 < (x1.length : Int) then (if (rdOf ByteArray.empty x0 x13).toList = (rdOf ByteArray.empty x1 x13).toList then (quillpenref05_Same.l0 k x0 x1 x12 (wrap64 (x13 + 1))) else (some false)) else (none)) else (none)) else (none)) else (some true)
def quillpenref05_Same.f (k : Nat) (l0 : List ByteArray) (l1 : List ByteArray) : Option (Bool) := if (l0.length : Int) = (l1.length : Int) then (quillpenref05_Same.l0 k l0 l1 (l0.length : Int) 0) else (some false)
set_option maxHeartbeats 8000000 in
set_option maxRecDepth 100000 in
theorem quillpenref05_Same.calls (k : Nat) (A0 : Option Addr) (c0 : Nat) (l0 : List ByteArray) (A1 : Option Addr) (c1 : Nat) (l1 : List ByteArray) (r : Bool) (w : World) (hr0 : Kd.C Kd.string w A0 l0.length l0) (hc0 : l0.length ≤ c0) (hr1 : Kd.C Kd.string w A1 l1.length l1) (hc1 : l1.length ≤ c1) (h : quillpenref05_Same.f k l0 l1 = some r) :
    Calls Tryd.prog 34 #[.slice A0 l0.length c0, .slice A1 l1.length c1] w fun e w' => e = .returned (.bool r) ∧ Drawn0 w w' := by
  have HR0 := Aside0.mk hr0
  have HC0 := Aside0.mk hc0
  clear hr0 hc0
  have HR1 := Aside0.mk hr1
  have HC1 := Aside0.mk hc1
  clear hr1 hc1
  have H : (if (l0.length : Int) = (l1.length : Int) then (quillpenref05_Same.l0 k l0 l1 (l0.length : Int) 0) else (some false)) = some r := h
  clear h
  by_cases c3 : (l0.length : Int) = (l1.length : Int)
  · rw [if_pos c3] at H
    have c3b0 : ((l0.length : Int) == (l1.length : Int)) = true := beq_iff_eq.mpr c3
    have c3b1 : ((l0.length : Int) != (l1.length : Int)) = false := bne_eq_false_iff_eq.mpr c3
    have c3b2 : (l0.length == l1.length) = true := by first | simpa using c3 | (simp at c3 ⊢; omega)
    clear c3
    have H' := Aside0.mk H
    clear H
    go_enter Tryd.func34, Tryd.ntmps34
    go_wp2
    repeat (go_quiet (fail); try go_wp2)
    go_loopg [13] k (fun kq v13 w' => ∃ (x13_1 : Int), v13 = .int .i64 x13_1 ∧ Aside0 (quillpenref05_Same.l0 kq l0 l1 (l0.length : Int) x13_1 = some r) ∧ Aside0 (kq ≤ k) ∧ Drawn0 w w')
    case atStart => exact ⟨(0), (by first | rfl | (simp; done) | (simp [*]; done)), H', ⟨Nat.le_refl _⟩, by repeat (first | exact Drawn0.refl _ | apply Drawn0.step)⟩
    case round =>
      clear H'
      try clear c1
      try clear p2
      try clear c3
      try clear c3b0
      try clear c3b1
      try clear c3b2
      obtain ⟨x13_1, rfl, HA, HK1, ⟨m1, rfl⟩⟩ := hrel
      cases gk with
      | zero => exact absurd HA.out (by simp [quillpenref05_Same.l0])
      | succ k1 =>
        have H := HA.out
        clear HA
        simp only [quillpenref05_Same.l0] at H
        by_cases c4 : x13_1 < (l0.length : Int)
        · rw [if_pos c4] at H
          have c4b0 : decide (x13_1 < (l0.length : Int)) = true := decide_eq_true c4
          clear c4
          by_cases c5 : 0 ≤ x13_1
          · rw [if_pos c5] at H
            have c5b0 : decide (0 ≤ x13_1) = true := decide_eq_true c5
            clear c5
            by_cases c6 : x13_1 < (l0.length : Int)
            · rw [if_pos c6] at H
              have c6b0 : decide (x13_1 < (l0.length : Int)) = true := decide_eq_true c6
              clear c6
              by_cases c7 : x13_1 < (l1.length : Int)
              · rw [if_pos c7] at H
                have c7b0 : decide (x13_1 < (l1.length : Int)) = true := decide_eq_true c7
                clear c7
                by_cases c8 : (rdOf ByteArray.empty l0 x13_1).toList = (rdOf ByteArray.empty l1 x13_1).toList
                · rw [if_pos c8] at H
                  have c8b0 : ((rdOf ByteArray.empty l0 x13_1).toList == (rdOf ByteArray.empty l1 x13_1).toList) = true := beq_iff_eq.mpr c8
                  have c8b1 : ((rdOf ByteArray.empty l0 x13_1).toList != (rdOf ByteArray.empty l1 x13_1).toList) = false := bne_eq_false_iff_eq.mpr c8
                  clear c8
                  have H' := Aside0.mk H
                  clear H
                  have p172 : 0 ≤ (x13_1 : Int) := of_decide_eq_true (by first | (with_reducible assumption) | assumption)
                  have q172 : x13_1 < (l0.length : Int) := of_decide_eq_true (by first | (with_reducible assumption) | assumption)
                  obtain ⟨ad172, e172, hx172_0⟩ := Kd.at_string HR0.out x13_1 p172 q172
                  cases e172
                  replace p172 := eq_true p172
                  replace q172 := eq_true q172
                  have p173 : 0 ≤ (x13_1 : Int) := of_decide_eq_true (by first | (with_reducible assumption) | assumption)
                  have q173 : x13_1 < (l1.length : Int) := of_decide_eq_true (by first | (with_reducible assumption) | assumption)
                  obtain ⟨ad173, e173, hx173_0⟩ := Kd.at_string HR1.out x13_1 p173 q173
                  cases e173
                  replace p173 := eq_true p173
                  replace q173 := eq_true q173
                  go_wp2
                  repeat (go_quiet (fail); try go_wp2)
                  go_roundg k1
                  case measure => have := HK1.out; omega
                  case rel => exact ⟨(wrap64 (x13_1 + 1)), (by first | rfl | (simp; done) | (simp [*]; done)), H', ⟨by have := HK1.out; omega⟩, by repeat (first | exact Drawn0.refl _ | apply Drawn0.step)⟩
                · rw [if_neg c8] at H
                  have c8b0 : ((rdOf ByteArray.empty l0 x13_1).toList == (rdOf ByteArray.empty l1 x13_1).toList) = false := beq_eq_false_iff_ne.mpr c8
                  have c8b1 : ((rdOf ByteArray.empty l0 x13_1).toList != (rdOf ByteArray.empty l1 x13_1).toList) = true := bne_iff_ne.mpr c8
                  obtain rfl := Option.some.inj H
                  have p172 : 0 ≤ (x13_1 : Int) := of_decide_eq_true (by first | (with_reducible assumption) | assumption)
                  have q172 : x13_1 < (l0.length : Int) := of_decide_eq_true (by first | (with_reducible assumption) | assumption)
                  obtain ⟨ad172, e172, hx172_0⟩ := Kd.at_string HR0.out x13_1 p172 q172
                  cases e172
                  replace p172 := eq_true p172
                  replace q172 := eq_true q172
                  have p173 : 0 ≤ (x13_1 : Int) := of_decide_eq_true (by first | (with_reducible assumption) | assumption)
                  have q173 : x13_1 < (l1.length : Int) := of_decide_eq_true (by first | (with_reducible assumption) | assumption)
                  obtain ⟨ad173, e173, hx173_0⟩ := Kd.at_string HR1.out x13_1 p173 q173
                  cases e173
                  replace p173 := eq_true p173
                  replace q173 := eq_true q173
                  go_wp2
                  repeat (go_quiet (fail); try go_wp2)
                  go_ret
                  exact ⟨by first | rfl | (simp; done) | (simp [*]; done), by repeat (first | exact Drawn0.refl _ | apply Drawn0.step)⟩
              · rw [if_neg c7] at H
                exact absurd H (by simp)
            · rw [if_neg c6] at H
              exact absurd H (by simp)
          · rw [if_neg c5] at H
            exact absurd H (by simp)
        · rw [if_neg c4] at H
          have c4b0 : decide (x13_1 < (l0.length : Int)) = false := decide_eq_false c4
          clear c4
          obtain rfl := Option.some.inj H
          go_wp2
          repeat (go_quiet (fail); try go_wp2)
          go_ret
          exact ⟨by first | rfl | (simp; done) | (simp [*]; done), by repeat (first | exact Drawn0.refl _ | apply Drawn0.step)⟩
  · rw [if_neg c3] at H
    have c3b0 : ((l0.length : Int) == (l1.length : Int)) = false := beq_eq_false_iff_ne.mpr c3
    have c3b1 : ((l0.length : Int) != (l1.length : Int)) = true := bne_iff_ne.mpr c3
    have c3b2 : (l0.length == l1.length) = false := by first | simpa using c3 | (simp at c3 ⊢; omega)
    obtain rfl := Option.some.inj H
    go_enter Tryd.func34, Tryd.ntmps34
    go_wp2
    repeat (go_quiet (fail); try go_wp2)
    go_ret
    exact ⟨by first | rfl | (simp; done) | (simp [*]; done), by repeat (first | exact Drawn0.refl _ | apply Drawn0.step)⟩
def quillpenref05_SameTable.l0 : Nat → List (List ByteArray) → List (List ByteArray) → Int → Int → Option (Bool)
  | 0, _, _, _, _ => none
  | k + 1, x0, x1, x12, x13 => if x13 < x12 then (if 0 ≤ x13 then (if x13 < (x0.length : Int) then (if x13 < (x1.length : Int) then ((quillpenref05_Same.f k (rd_L3 x0 x13) (rd_L3 x1 x13)).bind fun t176 => (if t176 = true then (quillpenref05_SameTable.l0 k x0 x1 x12 (wrap64 (x13 + 1))) else (some false))) else (none)) else (none)) else (none)) else (some true)
def quillpenref05_SameTable.f (k : Nat) (l0 : List (List ByteArray)) (l1 : List (List ByteArray)) : Option (Bool) := if (l0.length : Int) = (l1.length : Int) then (quillpenref05_SameTable.l0 k l0 l1 (l0.length : Int) 0) else (some false)
set_option maxHeartbeats 8000000 in
set_option maxRecDepth 100000 in
theorem quillpenref05_SameTable.calls (k : Nat) (A0 : Option Addr) (c0 : Nat) (l0 : List (List ByteArray)) (A1 : Option Addr) (c1 : Nat) (l1 : List (List ByteArray)) (r : Bool) (w : World) (hr0 : Kd.C (Kd.slice 9 Kd.string) w A0 l0.length l0) (hc0 : l0.length ≤ c0) (hr1 : Kd.C (Kd.slice 9 Kd.string) w A1 l1.length l1) (hc1 : l1.length ≤ c1) (h : quillpenref05_SameTable.f k l0 l1 = some r) :
    Calls Tryd.prog 15 #[.slice A0 l0.length c0, .slice A1 l1.length c1] w fun e w' => e = .returned (.bool r) ∧ Drawn0 w w' := by
  have HR0 := Aside0.mk hr0
  have HC0 := Aside0.mk hc0
  clear hr0 hc0
  have HR1 := Aside0.mk hr1
  have HC1 := Aside0.mk hc1
  clear hr1 hc1
  have H : (if (l0.length : Int) = (l1.length : Int) then (quillpenref05_SameTable.l0 k l0 l1 (l0.length : Int) 0) else (some false)) = some r := h
  clear h
  by_cases c3 : (l0.length : Int) = (l1.length : Int)
  · rw [if_pos c3] at H
    have c3b0 : ((l0.length : Int) == (l1.length : Int)) = true := beq_iff_eq.mpr c3
    have c3b1 : ((l0.length : Int) != (l1.length : Int)) = false := bne_eq_false_iff_eq.mpr c3
    have c3b2 : (l0.length == l1.length) = true := by first | simpa using c3 | (simp at c3 ⊢; omega)
    clear c3
    have H' := Aside0.mk H
    clear H
    go_enter Tryd.func15, Tryd.ntmps15
    go_wp2
    repeat (go_quiet (fail); try go_wp2)
    go_loopg [13] k (fun kq v13 w' => ∃ (x13_1 : Int), v13 = .int .i64 x13_1 ∧ Aside0 (quillpenref05_SameTable.l0 kq l0 l1 (l0.length : Int) x13_1 = some r) ∧ Aside0 (kq ≤ k) ∧ Drawn0 w w')
    case atStart => exact ⟨(0), (by first | rfl | (simp; done) | (simp [*]; done)), H', ⟨Nat.le_refl _⟩, by repeat (first | exact Drawn0.refl _ | apply Drawn0.step)⟩
    case round =>
      clear H'
      try clear c1
      try clear p2
      try clear c3
      try clear c3b0
      try clear c3b1
      try clear c3b2
      obtain ⟨x13_1, rfl, HA, HK1, ⟨m1, rfl⟩⟩ := hrel
      cases gk with
      | zero => exact absurd HA.out (by simp [quillpenref05_SameTable.l0])
      | succ k1 =>
        have H := HA.out
        clear HA
        simp only [quillpenref05_SameTable.l0] at H
        by_cases c4 : x13_1 < (l0.length : Int)
        · rw [if_pos c4] at H
          have c4b0 : decide (x13_1 < (l0.length : Int)) = true := decide_eq_true c4
          clear c4
          by_cases c5 : 0 ≤ x13_1
          · rw [if_pos c5] at H
            have c5b0 : decide (0 ≤ x13_1) = true := decide_eq_true c5
            clear c5
            by_cases c6 : x13_1 < (l0.length : Int)
            · rw [if_pos c6] at H
              have c6b0 : decide (x13_1 < (l0.length : Int)) = true := decide_eq_true c6
              clear c6
              by_cases c7 : x13_1 < (l1.length : Int)
              · rw [if_pos c7] at H
                have c7b0 : decide (x13_1 < (l1.length : Int)) = true := decide_eq_true c7
                clear c7
                replace H := Option.bind_eq_some_iff.mp H
                obtain ⟨t176, A80, H⟩ := H
                replace H : (if t176 = true then (quillpenref05_SameTable.l0 k1 l0 l1 (l0.length : Int) (wrap64 (x13_1 + 1))) else (some false)) = some r := H
                have A8 := Aside0.mk A80
                clear A80
                by_cases c9 : t176 = true
                · subst c9
                  have H1 : (quillpenref05_SameTable.l0 k1 l0 l1 (l0.length : Int) (wrap64 (x13_1 + 1))) = some r := by rw [if_pos rfl] at H; exact H
                  clear H
                  have H := H1
                  clear H1
                  have H' := Aside0.mk H
                  clear H
                  have p174 : 0 ≤ (x13_1 : Int) := of_decide_eq_true (by first | (with_reducible assumption) | assumption)
                  have q174 : x13_1 < (l0.length : Int) := of_decide_eq_true (by first | (with_reducible assumption) | assumption)
                  obtain ⟨ad174, A174_0, c174_0, e174, hx174_0, hl174_0, hi174_0⟩ := at_L3 HR0.out x13_1 p174 q174
                  cases e174
                  have HR174_0 := Aside0.mk hi174_0
                  have HC174_0 := Aside0.mk hl174_0
                  clear hi174_0 hl174_0
                  replace p174 := eq_true p174
                  replace q174 := eq_true q174
                  have p175 : 0 ≤ (x13_1 : Int) := of_decide_eq_true (by first | (with_reducible assumption) | assumption)
                  have q175 : x13_1 < (l1.length : Int) := of_decide_eq_true (by first | (with_reducible assumption) | assumption)
                  obtain ⟨ad175, A175_0, c175_0, e175, hx175_0, hl175_0, hi175_0⟩ := at_L3 HR1.out x13_1 p175 q175
                  cases e175
                  have HR175_0 := Aside0.mk hi175_0
                  have HC175_0 := Aside0.mk hl175_0
                  clear hi175_0 hl175_0
                  replace p175 := eq_true p175
                  replace q175 := eq_true q175
                  go_wp2_with (first | (go_at_call 34; (with_reducible refine (quillpenref05_Same.calls k1 _ _ (rd_L3 l0 x13_1) _ _ (rd_L3 l1 x13_1) true _ ?side1 ?side2 ?side3 ?side4 A8.out).mono ?_); (case side1 => repeat (first | exact HR174_0.out | (with_reducible refine Kd.C_alloc ?_ _) | (with_reducible refine Kd.C_drewN ?_ _) | (with_reducible refine Kd.C_drew ?_))); (case side2 => exact HC174_0.out); (case side3 => repeat (first | exact HR175_0.out | (with_reducible refine Kd.C_alloc ?_ _) | (with_reducible refine Kd.C_drewN ?_ _) | (with_reducible refine Kd.C_drew ?_))); (case side4 => exact HC175_0.out); rintro e w' ⟨rfl, ⟨nd, rfl⟩⟩; (try first | exact ⟨rfl, _, World.drewN_drewN _ _ _⟩ | exact ⟨rfl, _, Eq.trans (World.drewN_drewN _ _ _) (congrArg (World.drewN _) (Nat.add_assoc _ _ _))⟩)))
                  repeat (go_quiet (first | (go_at_call 34; (with_reducible refine (quillpenref05_Same.calls k1 _ _ (rd_L3 l0 x13_1) _ _ (rd_L3 l1 x13_1) true _ ?side1 ?side2 ?side3 ?side4 A8.out).mono ?_); (case side1 => repeat (first | exact HR174_0.out | (with_reducible refine Kd.C_alloc ?_ _) | (with_reducible refine Kd.C_drewN ?_ _) | (with_reducible refine Kd.C_drew ?_))); (case side2 => exact HC174_0.out); (case side3 => repeat (first | exact HR175_0.out | (with_reducible refine Kd.C_alloc ?_ _) | (with_reducible refine Kd.C_drewN ?_ _) | (with_reducible refine Kd.C_drew ?_))); (case side4 => exact HC175_0.out); rintro e w' ⟨rfl, ⟨nd, rfl⟩⟩; (try first | exact ⟨rfl, _, World.drewN_drewN _ _ _⟩ | exact ⟨rfl, _, Eq.trans (World.drewN_drewN _ _ _) (congrArg (World.drewN _) (Nat.add_assoc _ _ _))⟩))); try go_wp2_with (first | (go_at_call 34; (with_reducible refine (quillpenref05_Same.calls k1 _ _ (rd_L3 l0 x13_1) _ _ (rd_L3 l1 x13_1) true _ ?side1 ?side2 ?side3 ?side4 A8.out).mono ?_); (case side1 => repeat (first | exact HR174_0.out | (with_reducible refine Kd.C_alloc ?_ _) | (with_reducible refine Kd.C_drewN ?_ _) | (with_reducible refine Kd.C_drew ?_))); (case side2 => exact HC174_0.out); (case side3 => repeat (first | exact HR175_0.out | (with_reducible refine Kd.C_alloc ?_ _) | (with_reducible refine Kd.C_drewN ?_ _) | (with_reducible refine Kd.C_drew ?_))); (case side4 => exact HC175_0.out); rintro e w' ⟨rfl, ⟨nd, rfl⟩⟩; (try first | exact ⟨rfl, _, World.drewN_drewN _ _ _⟩ | exact ⟨rfl, _, Eq.trans (World.drewN_drewN _ _ _) (congrArg (World.drewN _) (Nat.add_assoc _ _ _))⟩))))
                  go_roundg k1
                  case measure => have := HK1.out; omega
                  case rel => exact ⟨(wrap64 (x13_1 + 1)), (by first | rfl | (simp; done) | (simp [*]; done)), H', ⟨by have := HK1.out; omega⟩, by repeat (first | exact Drawn0.refl _ | apply Drawn0.step)⟩
                · replace c9 := Bool.eq_false_iff.mpr c9
                  subst c9
                  have H1 : (some false) = some r := by rw [if_neg (show ¬ (false = true) by decide)] at H; exact H
                  clear H
                  have H := H1
                  clear H1
                  obtain rfl := Option.some.inj H
                  have p174 : 0 ≤ (x13_1 : Int) := of_decide_eq_true (by first | (with_reducible assumption) | assumption)
                  have q174 : x13_1 < (l0.length : Int) := of_decide_eq_true (by first | (with_reducible assumption) | assumption)
                  obtain ⟨ad174, A174_0, c174_0, e174, hx174_0, hl174_0, hi174_0⟩ := at_L3 HR0.out x13_1 p174 q174
                  cases e174
                  have HR174_0 := Aside0.mk hi174_0
                  have HC174_0 := Aside0.mk hl174_0
                  clear hi174_0 hl174_0
                  replace p174 := eq_true p174
                  replace q174 := eq_true q174
                  have p175 : 0 ≤ (x13_1 : Int) := of_decide_eq_true (by first | (with_reducible assumption) | assumption)
                  have q175 : x13_1 < (l1.length : Int) := of_decide_eq_true (by first | (with_reducible assumption) | assumption)
                  obtain ⟨ad175, A175_0, c175_0, e175, hx175_0, hl175_0, hi175_0⟩ := at_L3 HR1.out x13_1 p175 q175
                  cases e175
                  have HR175_0 := Aside0.mk hi175_0
                  have HC175_0 := Aside0.mk hl175_0
                  clear hi175_0 hl175_0
                  replace p175 := eq_true p175
                  replace q175 := eq_true q175
                  go_wp2_with (first | (go_at_call 34; (with_reducible refine (quillpenref05_Same.calls k1 _ _ (rd_L3 l0 x13_1) _ _ (rd_L3 l1 x13_1) false _ ?side1 ?side2 ?side3 ?side4 A8.out).mono ?_); (case side1 => repeat (first | exact HR174_0.out | (with_reducible refine Kd.C_alloc ?_ _) | (with_reducible refine Kd.C_drewN ?_ _) | (with_reducible refine Kd.C_drew ?_))); (case side2 => exact HC174_0.out); (case side3 => repeat (first | exact HR175_0.out | (with_reducible refine Kd.C_alloc ?_ _) | (with_reducible refine Kd.C_drewN ?_ _) | (with_reducible refine Kd.C_drew ?_))); (case side4 => exact HC175_0.out); rintro e w' ⟨rfl, ⟨nd, rfl⟩⟩; (try first | exact ⟨rfl, _, World.drewN_drewN _ _ _⟩ | exact ⟨rfl, _, Eq.trans (World.drewN_drewN _ _ _) (congrArg (World.drewN _) (Nat.add_assoc _ _ _))⟩)))
                  repeat (go_quiet (first | (go_at_call 34; (with_reducible refine (quillpenref05_Same.calls k1 _ _ (rd_L3 l0 x13_1) _ _ (rd_L3 l1 x13_1) false _ ?side1 ?side2 ?side3 ?side4 A8.out).mono ?_); (case side1 => repeat (first | exact HR174_0.out | (with_reducible refine Kd.C_alloc ?_ _) | (with_reducible refine Kd.C_drewN ?_ _) | (with_reducible refine Kd.C_drew ?_))); (case side2 => exact HC174_0.out); (case side3 => repeat (first | exact HR175_0.out | (with_reducible refine Kd.C_alloc ?_ _) | (with_reducible refine Kd.C_drewN ?_ _) | (with_reducible refine Kd.C_drew ?_))); (case side4 => exact HC175_0.out); rintro e w' ⟨rfl, ⟨nd, rfl⟩⟩; (try first | exact ⟨rfl, _, World.drewN_drewN _ _ _⟩ | exact ⟨rfl, _, Eq.trans (World.drewN_drewN _ _ _) (congrArg (World.drewN _) (Nat.add_assoc _ _ _))⟩))); try go_wp2_with (first | (go_at_call 34; (with_reducible refine (quillpenref05_Same.calls k1 _ _ (rd_L3 l0 x13_1) _ _ (rd_L3 l1 x13_1) false _ ?side1 ?side2 ?side3 ?side4 A8.out).mono ?_); (case side1 => repeat (first | exact HR174_0.out | (with_reducible refine Kd.C_alloc ?_ _) | (with_reducible refine Kd.C_drewN ?_ _) | (with_reducible refine Kd.C_drew ?_))); (case side2 => exact HC174_0.out); (case side3 => repeat (first | exact HR175_0.out | (with_reducible refine Kd.C_alloc ?_ _) | (with_reducible refine Kd.C_drewN ?_ _) | (with_reducible refine Kd.C_drew ?_))); (case side4 => exact HC175_0.out); rintro e w' ⟨rfl, ⟨nd, rfl⟩⟩; (try first | exact ⟨rfl, _, World.drewN_drewN _ _ _⟩ | exact ⟨rfl, _, Eq.trans (World.drewN_drewN _ _ _) (congrArg (World.drewN _) (Nat.add_assoc _ _ _))⟩))))
                  go_ret
                  exact ⟨by first | rfl | (simp; done) | (simp [*]; done), by repeat (first | exact Drawn0.refl _ | apply Drawn0.step)⟩
              · rw [if_neg c7] at H
                exact absurd H (by simp)
            · rw [if_neg c6] at H
              exact absurd H (by simp)
          · rw [if_neg c5] at H
            exact absurd H (by simp)
        · rw [if_neg c4] at H
          have c4b0 : decide (x13_1 < (l0.length : Int)) = false := decide_eq_false c4
          clear c4
          obtain rfl := Option.some.inj H
          go_wp2
          repeat (go_quiet (fail); try go_wp2)
          go_ret
          exact ⟨by first | rfl | (simp; done) | (simp [*]; done), by repeat (first | exact Drawn0.refl _ | apply Drawn0.step)⟩
  · rw [if_neg c3] at H
    have c3b0 : ((l0.length : Int) == (l1.length : Int)) = false := beq_eq_false_iff_ne.mpr c3
    have c3b1 : ((l0.length : Int) != (l1.length : Int)) = true := bne_iff_ne.mpr c3
    have c3b2 : (l0.length == l1.length) = false := by first | simpa using c3 | (simp at c3 ⊢; omega)
    obtain rfl := Option.some.inj H
    go_enter Tryd.func15, Tryd.ntmps15
    go_wp2
    repeat (go_quiet (fail); try go_wp2)
    go_ret
    exact ⟨by first | rfl | (simp; done) | (simp [*]; done), by repeat (first | exact Drawn0.refl _ | apply Drawn0.step)⟩
end Go.Proofs.YtmignbhpofmgeaaDoor.PTopChunks
namespace Go.Proofs.YtmignbhpofmgeaaDoor.Pure
open Go.RowKit Go.Proofs.YtmignbhpofmgeaaDoor Go.Proofs.YtmignbhpofmgeaaDoor.PTopChunks Go.Proofs.YtmignbhpofmgeaaDoorW.PrintWords Go.Proofs.YtmignbhpofmgeaaDoorW.PrintLast Go.Proofs.YtmignbhpofmgeaaDoorW.PrintMore
set_option linter.unusedVariables false
set_option linter.unusedSimpArgs false
/-- Is a number above nought? -/
def isPos (n : Int) : Bool := decide (0 < n)
theorem toList_nil {x : ByteArray} : x.toList = ([] : List UInt8) ↔ x.size = 0 := by
  rw [ByteArray.toList_eq]
  constructor
  · intro h
    have := congrArg List.length h
    simpa using this
  · intro h
    exact List.eq_nil_of_length_eq_zero (by rw [Array.length_toList]; exact h)
/-- From k on it tells r. -/
def Tells {α : Type} (f : Nat → Option α) (r : α) : Prop := ∃ k, ∀ j, k ≤ j → f j = some r
theorem tells_of {α : Type} {f : Nat → Option α} {r : α} (hm : ∀ k, LeO (f k) (f (k + 1))) {k : Nat} (h : f k = some r) : Tells f r :=
  ⟨k, fun j hj => by
    obtain ⟨d, rfl⟩ := Nat.exists_eq_add_of_le hj
    induction d with
    | zero => exact h
    | succ d ih => exact hm _ _ (ih (by omega))⟩
theorem same_tells (l : List ByteArray) (hl : l.length ≤ 1000000) : Tells (fun k => quillpenref05_Same.f k l l) true := by
  have h : ∀ (d i : Nat), i + d = l.length → ∀ k, d < k → quillpenref05_Same.l0 k l l (l.length : Int) (i : Int) = some true := by
    intro d
    induction d with
    | zero =>
      intro i hi k hk
      obtain ⟨k, rfl⟩ := Nat.exists_eq_succ_of_ne_zero (show k ≠ 0 by omega)
      unfold quillpenref05_Same.l0
      rw [if_neg (by omega)]
    | succ d ih =>
      intro i hi k hk
      obtain ⟨k, rfl⟩ := Nat.exists_eq_succ_of_ne_zero (show k ≠ 0 by omega)
      unfold quillpenref05_Same.l0
      rw [if_pos (by omega), if_pos (by omega), if_pos (by omega), if_pos (by omega), if_pos rfl, show wrap64 ((i : Int) + 1) = ((i + 1 : Nat) : Int) from by unfold wrap64; omega]
      exact ih (i + 1) (by omega) k (by omega)
  refine ⟨l.length + 1, fun k hk => ?_⟩
  simp only [quillpenref05_Same.f, if_pos]
  exact h l.length 0 (by omega) k (by omega)
def allOf (l : List ByteArray) : ByteArray := l.foldl (· ++ ·) ByteArray.empty
theorem ext_app (s : ByteArray) (a b c : Nat) (h1 : a ≤ b) (h2 : b ≤ c) : s.extract a b ++ s.extract b c = s.extract a c := by
  apply ByteArray.ext
  rw [ByteArray.data_append, ByteArray.data_extract, ByteArray.data_extract, ByteArray.data_extract, Array.extract_append_extract, Nat.min_eq_left h1, Nat.max_eq_right h2]
theorem ext_all (s : ByteArray) : s.extract 0 s.size = s := by
  apply ByteArray.ext
  rw [ByteArray.data_extract]
  exact Array.extract_size
theorem ext_none (s : ByteArray) (a : Nat) (h : s.size ≤ a) : s.extract a s.size = ByteArray.empty := by
  apply ByteArray.ext
  rw [ByteArray.data_extract]
  exact Array.eq_empty_of_size_eq_zero (by rw [Array.size_extract]; show min s.size s.size - a = 0; omega)
theorem app_none (a : ByteArray) : a ++ ByteArray.empty = a := ByteArray.append_empty
theorem none_app (a : ByteArray) : ByteArray.empty ++ a = a := ByteArray.empty_append
/-- A number within nought and another one. -/
def hold (v m : Int) : Int := mn (mx v 0) m
theorem hold_in {v m : Int} (h : 0 ≤ m) : 0 ≤ hold v m ∧ hold v m ≤ m := by unfold hold mn mx; split <;> split <;> omega
theorem hold_pos {v m : Int} (h : 0 < m) (hv : 0 < v) : 0 < hold v m := by unfold hold mn mx; split <;> split <;> omega
theorem held_is {v m : Int} (h : 0 ≤ m) : quillpenref07_Held.f v m = some (hold v m) := by
  unfold quillpenref07_Held.f hold mn mx
  by_cases h1 : v < 0
  · rw [if_pos h1, if_pos h1, if_neg (by omega)]
  · rw [if_neg h1, if_neg h1]
    by_cases h2 : v > m
    · rw [if_pos h2, if_pos (by omega)]
    · rw [if_neg h2, if_neg (by omega)]
/-- Where the next piece ends. -/
def nextAt (s : ByteArray) (l : List Int) (at_ i : Nat) : Nat := at_ + (hold (rd l ((i % l.length : Nat) : Int)) ((s.size : Int) - at_)).toNat
theorem next_in (s : ByteArray) (l : List Int) (at_ i : Nat) (h : at_ ≤ s.size) : at_ ≤ nextAt s l at_ i ∧ nextAt s l at_ i ≤ s.size := by
  have := hold_in (v := rd l ((i % l.length : Nat) : Int)) (m := (s.size : Int) - at_) (by omega)
  unfold nextAt; omega
def piecesBy (s : ByteArray) (l : List Int) : Nat → Nat → Nat → List ByteArray
  | 0, _, _ => []
  | f + 1, at_, i => if at_ < s.size then s.extract at_ (nextAt s l at_ i) :: piecesBy s l f (nextAt s l at_ i) (i + 1) else []
/-- f rounds are enough. -/
def Fin_ (s : ByteArray) (l : List Int) : Nat → Nat → Nat → Prop
  | 0, at_, _ => s.size ≤ at_
  | f + 1, at_, i => at_ < s.size → Fin_ s l f (nextAt s l at_ i) (i + 1)
theorem pieces_len (s : ByteArray) (l : List Int) : ∀ (f at_ i : Nat), (piecesBy s l f at_ i).length ≤ f := by
  intro f
  induction f with
  | zero => intro _ _; simp [piecesBy]
  | succ f ih =>
    intro at_ i
    unfold piecesBy; split
    · rw [List.length_cons]; have := ih (nextAt s l at_ i) (i + 1); omega
    · simp
theorem fin_more (s : ByteArray) (l : List Int) : ∀ (f at_ i : Nat), Fin_ s l f at_ i → Fin_ s l (f + 1) at_ i := by
  intro f
  induction f with
  | zero => intro at_ i h h2; unfold Fin_ at h; omega
  | succ f ih => intro at_ i h h2; exact ih _ _ (h h2)
theorem fin_more' (s : ByteArray) (l : List Int) (f at_ i : Nat) (h : Fin_ s l f at_ i) : ∀ g, f ≤ g → Fin_ s l g at_ i := by
  intro g hg
  obtain ⟨d, rfl⟩ := Nat.exists_eq_add_of_le hg
  induction d with
  | zero => exact h
  | succ d ih => exact fin_more s l _ _ _ (ih (by omega))
theorem fin_end (s : ByteArray) (l : List Int) (f at_ i : Nat) (h : s.size ≤ at_) : Fin_ s l f at_ i := by
  cases f with
  | zero => exact h
  | succ f => intro h2; omega
theorem fin_step (s : ByteArray) (l : List Int) (p : Nat) (hp : p < l.length) (hv : 0 < rd l (p : Int)) (f : Nat) : ∀ (t at_ i : Nat), at_ ≤ s.size → (i + t) % l.length = p → (∀ a j, at_ < a → a ≤ s.size → Fin_ s l f a j) → Fin_ s l (f + t + 1) at_ i := by
  intro t
  induction t with
  | zero =>
    intro at_ i ha hi hf h2
    have hn := next_in s l at_ i ha
    refine hf _ _ ?_ hn.2
    have := hold_pos (v := rd l ((i % l.length : Nat) : Int)) (m := (s.size : Int) - at_) (by omega) (by rw [show i % l.length = p from by simpa using hi]; exact hv)
    unfold nextAt; omega
  | succ t ih =>
    intro at_ i ha hi hf h2
    have hn := next_in s l at_ i ha
    exact ih _ _ hn.2 (by rw [show i + 1 + t = i + (t + 1) from by omega]; exact hi) (fun a j h1 h2 => hf a j (by omega) h2)
theorem fin_all (s : ByteArray) (l : List Int) (p : Nat) (hp : p < l.length) (hv : 0 < rd l (p : Int)) : ∀ (d at_ i : Nat), s.size - at_ ≤ d → at_ ≤ s.size → Fin_ s l (l.length * d) at_ i := by
  intro d
  induction d with
  | zero => intro at_ i h ha; exact fin_end s l _ _ _ (by omega)
  | succ d ih =>
    intro at_ i h ha
    have hn : 0 < l.length := by omega
    have hm := Nat.mod_lt i hn
    obtain ⟨t, ht, hti⟩ : ∃ t, t < l.length ∧ (i + t) % l.length = p := by
      by_cases hc : i % l.length ≤ p
      · refine ⟨p - i % l.length, by omega, ?_⟩
        rw [Nat.add_mod, Nat.mod_eq_of_lt (show p - i % l.length < l.length by omega), show i % l.length + (p - i % l.length) = p from by omega, Nat.mod_eq_of_lt hp]
      · refine ⟨p + l.length - i % l.length, by omega, ?_⟩
        rw [Nat.add_mod, Nat.mod_eq_of_lt (show p + l.length - i % l.length < l.length by omega), show i % l.length + (p + l.length - i % l.length) = p + l.length from by omega, Nat.add_mod_right, Nat.mod_eq_of_lt hp]
    refine fin_more' s l _ _ _ (fin_step s l p hp hv (l.length * d) t at_ i ha hti (fun a j h1 h2 => ih a j (by omega) h2)) _ ?_
    rw [Nat.mul_succ]; omega
theorem ref_skip (s : ByteArray) (l : List Int) (hn2 : l.length ≤ 100) (at_ : Nat) (ha : s.size ≤ at_) (out : List ByteArray) : ∀ (d j : Nat), j + d = l.length → ∀ k, d + 1 < k → quillpenref07_By.l2 k s l out (at_ : Int) l (l.length : Int) (j : Int) = some out := by
  intro d
  induction d with
  | zero =>
    intro j hj k hk
    obtain ⟨k, rfl⟩ := Nat.exists_eq_succ_of_ne_zero (show k ≠ 0 by omega)
    obtain ⟨k, rfl⟩ := Nat.exists_eq_succ_of_ne_zero (show k ≠ 0 by omega)
    unfold quillpenref07_By.l2
    rw [if_neg (by omega)]
    unfold quillpenref07_By.l1
    rw [if_neg (by omega)]
  | succ d ih =>
    intro j hj k hk
    obtain ⟨k, rfl⟩ := Nat.exists_eq_succ_of_ne_zero (show k ≠ 0 by omega)
    unfold quillpenref07_By.l2
    rw [if_pos (by omega), if_pos (by omega), if_pos (by omega), if_neg (by omega), show wrap64 ((j : Int) + 1) = ((j + 1 : Nat) : Int) from by unfold wrap64; omega]
    exact ih (j + 1) (by omega) k (by omega)
theorem ref_run (s : ByteArray) (l : List Int) (hn : 0 < l.length) (hn2 : l.length ≤ 100) (hs : s.size ≤ 3000) : ∀ (f at_ i j : Nat) (out : List ByteArray), at_ ≤ s.size → Fin_ s l f at_ i → out.length + f ≤ 1000000 → j < l.length → i % l.length = j → ∀ k, 3 * f + 130 ≤ k →
    quillpenref07_By.l2 k s l out (at_ : Int) l (l.length : Int) (j : Int) = some (out ++ piecesBy s l f at_ i) := by
  intro f
  induction f with
  | zero =>
    intro at_ i j out ha hf h1 hj hij k hk
    unfold Fin_ at hf
    rw [ref_skip s l hn2 at_ hf out (l.length - j) j (by omega) k (by omega)]
    simp [piecesBy]
  | succ f ih =>
    intro at_ i j out ha hf h1 hj hij k hk
    by_cases hc : at_ < s.size
    · obtain ⟨k, rfl⟩ := Nat.exists_eq_succ_of_ne_zero (show k ≠ 0 by omega)
      have hin := hold_in (v := rd l (j : Int)) (m := (s.size : Int) - at_) (by omega)
      have hnx := next_in s l at_ i ha
      have hnv : nextAt s l at_ i = at_ + (hold (rd l (j : Int)) ((s.size : Int) - at_)).toNat := by unfold nextAt; rw [hij]
      have hw1 : wrap64 ((s.size : Int) - (at_ : Int)) = (s.size : Int) - at_ := by unfold wrap64; omega
      have hw2 : wrap64 ((at_ : Int) + hold (rd l (j : Int)) ((s.size : Int) - at_)) = ((nextAt s l at_ i : Nat) : Int) := by rw [hnv]; unfold wrap64; omega
      unfold quillpenref07_By.l2
      rw [if_pos (by omega), if_pos (by omega), if_pos (by omega), if_pos (by omega), hw1, held_is (by omega), Option.bind_some, hw2, if_pos (by omega), if_pos (by omega), if_pos (by omega), if_pos (by omega), show wrap64 ((j : Int) + 1) = ((j + 1 : Nat) : Int) from by unfold wrap64; omega]
      rw [show piecesBy s l (f + 1) at_ i = s.extract at_ (nextAt s l at_ i) :: piecesBy s l f (nextAt s l at_ i) (i + 1) from by rw [piecesBy, if_pos hc]]
      rw [Int.toNat_natCast, Int.toNat_natCast, show out ++ s.extract at_ (nextAt s l at_ i) :: piecesBy s l f (nextAt s l at_ i) (i + 1) = (out ++ [s.extract at_ (nextAt s l at_ i)]) ++ piecesBy s l f (nextAt s l at_ i) (i + 1) from by simp]
      by_cases hj2 : j + 1 < l.length
      · exact ih _ (i + 1) (j + 1) _ hnx.2 (hf hc) (by simp; omega) hj2 (by rw [Nat.add_mod, hij, Nat.mod_eq_of_lt (show 1 < l.length by omega), Nat.mod_eq_of_lt hj2]) k (by omega)
      · obtain ⟨k, rfl⟩ := Nat.exists_eq_succ_of_ne_zero (show k ≠ 0 by omega)
        obtain ⟨k, rfl⟩ := Nat.exists_eq_succ_of_ne_zero (show k ≠ 0 by omega)
        rw [quillpenref07_By.l2, if_neg (by omega), quillpenref07_By.l1]
        by_cases hc2 : nextAt s l at_ i < s.size
        · rw [if_pos (by omega)]
          refine ih _ (i + 1) 0 _ hnx.2 (hf hc) (by simp; omega) hn ?_ k (by omega)
          have e : i + 1 = l.length * (i / l.length + 1) := by have := Nat.div_add_mod i l.length; rw [hij] at this; rw [Nat.mul_add]; omega
          rw [e, Nat.mul_mod_right]
        · rw [if_neg (by omega)]
          cases f with
          | zero => simp [piecesBy]
          | succ f => rw [show piecesBy s l (f + 1) (nextAt s l at_ i) (i + 1) = [] from by rw [piecesBy, if_neg hc2], List.append_nil]
    · rw [ref_skip s l hn2 at_ (by omega) out (l.length - j) j (by omega) k (by omega)]
      rw [show piecesBy s l (f + 1) at_ i = [] from by rw [piecesBy, if_neg hc]]
      simp
theorem pieces_all (s : ByteArray) (l : List Int) : ∀ (f at_ i : Nat), at_ ≤ s.size → Fin_ s l f at_ i → ∀ a : ByteArray, (piecesBy s l f at_ i).foldl (· ++ ·) a = a ++ s.extract at_ s.size := by
  have hend : ∀ (a : ByteArray) (at_ : Nat), s.size ≤ at_ → a ++ s.extract at_ s.size = a := by
    intro a at_ h
    rw [ext_none s at_ h, app_none]
  intro f
  induction f with
  | zero => intro at_ i ha hf a; exact (hend a at_ hf).symm
  | succ f ih =>
    intro at_ i ha hf a
    unfold piecesBy; split
    case isTrue hc =>
      have hnx := next_in s l at_ i ha
      rw [List.foldl_cons, ih _ _ hnx.2 (hf hc), ByteArray.append_assoc, ext_app s _ _ _ hnx.1 hnx.2]
    case isFalse hc => exact (hend a at_ (by omega)).symm
theorem ref_scan (s : ByteArray) (l : List Int) (hn2 : l.length ≤ 100) (B : Bool) : ∀ (d i : Nat) (b : Bool), i + d = l.length → (b || (l.drop i).any isPos) = B → ∀ k, d < k → quillpenref07_By.l0 k s l b l (l.length : Int) (i : Int) = if s.toList = ([] : List UInt8) then quillpenref07_By.j1 (k - d - 1) s l true else quillpenref07_By.j1 (k - d - 1) s l (!B) := by
  intro d
  induction d with
  | zero =>
    intro i b hi hb k hk
    obtain ⟨k, rfl⟩ := Nat.exists_eq_succ_of_ne_zero (show k ≠ 0 by omega)
    unfold quillpenref07_By.l0
    rw [if_neg (by omega)]
    rw [List.drop_of_length_le (by omega)] at hb
    simp at hb
    subst hb
    rfl
  | succ d ih =>
    intro i b hi hb k hk
    obtain ⟨k, rfl⟩ := Nat.exists_eq_succ_of_ne_zero (show k ≠ 0 by omega)
    have hlt : i < l.length := by omega
    unfold quillpenref07_By.l0
    rw [if_pos (by omega), if_pos (by omega), if_pos (by omega), show wrap64 ((i : Int) + 1) = ((i + 1 : Nat) : Int) from by unfold wrap64; omega, show k + 1 - (d + 1) - 1 = k - d - 1 from by omega]
    rw [List.drop_eq_getElem_cons hlt, List.any_cons] at hb
    have hrd : decide (rd l (i : Int) > 0) = isPos l[i] := by simp [rd, hlt, isPos]
    cases b with
    | true =>
      rw [if_pos rfl]
      exact ih (i + 1) true (by omega) (by simpa using hb) k (by omega)
    | false =>
      rw [if_neg (by decide), hrd]
      exact ih (i + 1) _ (by omega) (by simpa using hb) k (by omega)
theorem by_tells (s : ByteArray) (l : List Int) (hs : s.size ≤ 3000) (hl : l.length ≤ 100) : ∃ r, Tells (fun k => quillpenref07_By.f k s l) r ∧ r.length ≤ 300000 ∧ allOf r = s := by
  have hone : allOf [s] = s := by
    unfold allOf
    rw [List.foldl_cons, List.foldl_nil, none_app]
  by_cases hE : s.toList = ([] : List UInt8)
  · refine ⟨[s], ⟨l.length + 2, fun k hk => ?_⟩, by simp, hone⟩
    · simp only [quillpenref07_By.f]
      have := ref_scan s l hl _ l.length 0 false (by omega) rfl k (by omega)
      rw [show ((0 : Nat) : Int) = 0 from rfl] at this
      rw [this, if_pos hE]
      obtain ⟨q, hq⟩ := Nat.exists_eq_succ_of_ne_zero (show k - l.length - 1 ≠ 0 by omega)
      rw [hq]
      simp [quillpenref07_By.j1]
  · cases hany : l.any isPos with
    | false =>
      refine ⟨[s], ⟨l.length + 2, fun k hk => ?_⟩, by simp, hone⟩
      · simp only [quillpenref07_By.f]
        have := ref_scan s l hl false l.length 0 false (by omega) (by simpa using hany) k (by omega)
        rw [show ((0 : Nat) : Int) = 0 from rfl] at this
        rw [this, if_neg hE]
        obtain ⟨q, hq⟩ := Nat.exists_eq_succ_of_ne_zero (show k - l.length - 1 ≠ 0 by omega)
        rw [hq]
        simp [quillpenref07_By.j1]
    | true =>
      obtain ⟨x, hx, hpx⟩ := List.any_eq_true.1 hany
      obtain ⟨p, hp, rfl⟩ := List.getElem_of_mem hx
      have hv : 0 < rd l (p : Int) := by simp [rd, hp]; exact of_decide_eq_true hpx
      have hfin := fin_all s l p hp hv s.size 0 0 (by omega) (by omega)
      have hb1 : l.length * s.size ≤ 100 * 3000 := Nat.mul_le_mul hl hs
      generalize hF : l.length * s.size = F at hfin hb1
      have h0 : s.extract 0 s.size = s := ext_all s
      refine ⟨piecesBy s l F 0 0, ⟨l.length + 3 * F + 140, fun k hk => ?_⟩, ?_, ?_⟩
      · simp only [quillpenref07_By.f]
        have := ref_scan s l hl true l.length 0 false (by omega) (by simpa using hany) k (by omega)
        rw [show ((0 : Nat) : Int) = 0 from rfl] at this
        rw [this, if_neg hE]
        obtain ⟨q, hq⟩ := Nat.exists_eq_succ_of_ne_zero (show k - l.length - 1 ≠ 0 by omega)
        obtain ⟨q, rfl⟩ := Nat.exists_eq_succ_of_ne_zero (show q ≠ 0 by omega)
        rw [hq]
        have hpos : 0 < s.size := by
          rcases Nat.eq_zero_or_pos s.size with h | h
          · exact absurd (toList_nil.2 h) hE
          · exact h
        have hr := ref_run s l (by omega) hl (by omega) F 0 0 0 [] (by omega) hfin (by simp; omega) (by omega) (Nat.zero_mod _) q (by omega)
        simp only [quillpenref07_By.j1, quillpenref07_By.l1]
        rw [if_neg (by decide), if_pos (by omega)]
        simpa using hr
      · have := pieces_len s l F 0 0; omega
      · unfold allOf
        rw [pieces_all s l F 0 0 (by omega) hfin, h0, none_app]
end Go.Proofs.YtmignbhpofmgeaaDoor.Pure
namespace Go.Proofs.YtmignbhpofmgeaaDoor.Top
open Go.RowKit Go.Proofs.YtmignbhpofmgeaaDoorW.PrintWords Go.Proofs.YtmignbhpofmgeaaDoorW.PrintLast Go.Proofs.YtmignbhpofmgeaaDoorW.PrintMore Go.Proofs.YtmignbhpofmgeaaDoor.Iter
set_option linter.unusedVariables false
set_option linter.unusedSimpArgs false
theorem feedL_app : ∀ (xs ys : List Int) (r : RS), r.fk = 0 → feedL (xs ++ ys) r = if (feedL xs r).fk = 0 then feedL ys (feedL xs r) else feedL xs r
  | [], ys, r, h => by rw [List.nil_append, feedL, if_pos h]
  | c :: cs, ys, r, h => by
    obtain ⟨h1, h2, h3⟩ := stepR_fk r c
    rw [List.cons_append, feedL, feedL]
    by_cases ht : (stepR r c).2 = true
    · rw [if_pos ht, if_pos ht]
      exact feedL_app cs ys _ ((h1 ht).1.trans h)
    · rw [if_neg ht, if_neg ht, if_neg (h2 (by simpa using ht))]
/-- Piece by piece. -/
def feedP (ps : List (List Int)) (r : RS) : RS := ps.foldl (fun r p => feedB p r) r
theorem feedP_stuck : ∀ (ps : List (List Int)) (r : RS), r.closed = true ∨ r.fk ≠ 0 → feedP ps r = r
  | [], r, h => rfl
  | p :: ps, r, h => by
    show feedP ps (feedB p r) = r
    rw [show feedB p r = r from if_pos h]
    exact feedP_stuck ps r h
theorem feedP_all : ∀ (ps : List (List Int)) (r : RS), r.closed = false → r.fk = 0 → feedP ps r = feedL ps.flatten r
  | [], r, h, h0 => rfl
  | p :: ps, r, h, h0 => by
    show feedP ps (feedB p r) = _
    have e : feedB p r = feedL p r := if_neg (by rw [h]; simp [h0])
    rw [e, List.flatten_cons, feedL_app p _ r h0]
    by_cases hk : (feedL p r).fk = 0
    · rw [if_pos hk]
      exact feedP_all ps _ ((feedL_fk p r).2.trans h) hk
    · rw [if_neg hk]
      exact feedP_stuck ps _ (.inr hk)
theorem bytesOf_app (a b : ByteArray) : bytesOf (a ++ b) = bytesOf a ++ bytesOf b := by
  unfold bytesOf
  rw [ByteArray.data_append, Array.toList_append, List.map_append]
theorem bytesOf_fold : ∀ (l : List ByteArray) (a : ByteArray), bytesOf (l.foldl (· ++ ·) a) = bytesOf a ++ (l.map bytesOf).flatten
  | [], a => by simp
  | x :: l, a => by rw [List.foldl_cons, bytesOf_fold l, bytesOf_app, List.map_cons, List.flatten_cons, List.append_assoc]
theorem bytesOf_all (l : List ByteArray) : bytesOf (Pure.allOf l) = (l.map bytesOf).flatten := by
  unfold Pure.allOf
  rw [bytesOf_fold]
  rfl
/-- The rows that lie ready are no longer than this. -/
def Rowed (N : Nat) (r : RS) : Prop := r.maker.record.length ≤ N ∧ ∀ l ∈ r.ready, l.length ≤ N
theorem takeM_row (m : MS) (e : Ev) : (takeM m e).2.1.length ≤ m.record.length + 2 := by
  have h1 : (take1 m e).record.length ≤ m.record.length + 2 := by
    unfold take1
    split
    · exact (gatherM_keeps m e).2
    · show m.record.length ≤ _; omega
  unfold takeM
  split
  · exact h1
  · exact Nat.zero_le _
theorem Rowed.event {N : Nat} {r : RS} (h : Rowed N r) (ev : Ev) (f a : Int) : Rowed (N + 2) (eventR r ev f a).1 := by
  obtain ⟨h1, h2⟩ := h
  have hm := (takeM_small r.maker ev).2
  have hr := takeM_row r.maker ev
  have hl : ∀ l ∈ r.ready, l.length ≤ N + 2 := fun l hl => by have := h2 l hl; omega
  unfold eventR
  split
  · split
    · refine ⟨by show (takeM r.maker ev).1.record.length ≤ _; omega, ?_⟩
      show ∀ l ∈ (if (takeM r.maker ev).2.2.1 = true then r.ready ++ [(takeM r.maker ev).2.1] else r.ready), l.length ≤ N + 2
      split
      · intro l hl'
        rcases List.mem_append.1 hl' with h | h
        · exact hl l h
        · rw [List.mem_singleton] at h; subst h; omega
      · exact hl
    · exact ⟨by show (takeM r.maker ev).1.record.length ≤ _; omega, hl⟩
  · exact ⟨by show r.maker.record.length ≤ _; omega, hl⟩
theorem Rowed.mono {N N' : Nat} {r : RS} (h : Rowed N r) (hn : N ≤ N') : Rowed N' r := ⟨by have := h.1; omega, fun l hl => by have := h.2 l hl; omega⟩
theorem Rowed.take {a : Int} {n : Nat} : ∀ (xs : List Int) (i N : Nat) (r : RS), Rowed N r → Rowed (N + 2 * xs.length) (takeL a n i xs r).1
  | [], i, N, r, h => h
  | c :: cs, i, N, r, h => by
    have he := Rowed.event (r := { r with state := (scanS r.de r.qu r.en r.state c).2.1 }) (N := N) h (scanS r.de r.qu r.en r.state c).1 (scanS r.de r.qu r.en r.state c).2.2 (a - n + 1 + i)
    unfold takeL
    split
    · exact (Rowed.take cs (i + 1) (N + 2) _ he).mono (by simp only [List.length_cons]; omega)
    · exact he.mono (by simp only [List.length_cons]; omega)
theorem Rowed.cut {N : Nat} {r : RS} (h : Rowed N r) (hh : r.mark.held ≤ 2) (k : Int) : Rowed (N + 8) (cutR r k) := by
  have hc := (Rowed.take (a := r.offset - 1) (n := (closeS r.mark).2.length) (closeS r.mark).2 0 N { r with mark := (closeS r.mark).1 } h).mono (N' := N + 8) (by have := closeS_len r.mark hh; omega)
  unfold cutR
  split
  · exact hc
  · exact hc
theorem Rowed.step {N : Nat} {r : RS} (h : Rowed N r) (hh : r.mark.held ≤ 2) (c : Int) : Rowed (N + 8) (stepR r c).1 := by
  unfold stepR
  split
  · exact (Rowed.take (a := r.offset) (n := (feedS r.mark c).2.length) (feedS r.mark c).2 0 N { r with utf := (stepU r.utf c).1.toNat, offset := r.offset + 1, mark := (feedS r.mark c).1 } h).mono (by have := feedS_len3 r.mark c hh; omega)
  · exact h.cut hh 3
theorem Rowed.feedL : ∀ (xs : List Int) (N M : Nat) (r : RS), Rowed N r → Fine M r → Rowed (N + 8 * xs.length) (Top.feedL xs r)
  | [], N, M, r, h, _ => h
  | c :: cs, N, M, r, h, hf => by
    have hs := Rowed.step h hf.2.2.2.1 c
    unfold Top.feedL
    split
    · rename_i ht
      exact (Rowed.feedL cs (N + 8) (M + 1) _ hs (hf.step c ht)).mono (by simp only [List.length_cons]; omega)
    · exact hs.mono (by simp only [List.length_cons]; omega)
/-- Where feeding ends without a fault, it stands so that it can go on. -/
theorem feedL_fine : ∀ (xs : List Int) (M : Nat) (r : RS), Fine M r → r.fk = 0 → (feedL xs r).fk = 0 → Fine (M + xs.length) (feedL xs r)
  | [], M, r, h, _, _ => h
  | c :: cs, M, r, h, h0, hk => by
    obtain ⟨h1, h2, h3⟩ := stepR_fk r c
    unfold feedL at hk ⊢
    split
    · rename_i ht
      rw [if_pos ht] at hk
      have := feedL_fine cs (M + 1) _ (h.step c ht) ((h1 ht).1.trans h0) hk
      rw [show M + (c :: cs).length = M + 1 + cs.length by simp only [List.length_cons]; omega]
      exact this
    · rename_i ht
      rw [if_neg ht] at hk
      exact absurd hk (h2 (by simpa using ht))
theorem Small.close {N M : Nat} {r : RS} (h : Small N r) (hM : r.closed = true ∨ r.fk ≠ 0 ∨ Fine M r) : Small (N + 8) (closeR r) := by
  unfold closeR
  split
  · exact h.mono (by omega)
  · rename_i hst
    have hf : Fine M r := hM.elim (fun h => absurd (Or.inl h) hst) (fun h => h.elim (fun h => absurd (Or.inr h) hst) id)
    split
    · have hc := (Small.take (a := r.offset - 1) (n := (closeS r.mark).2.length) (closeS r.mark).2 0 N { r with closed := true, mark := (closeS r.mark).1 } h).mono (N' := N + 8) (by have := closeS_len r.mark hf.2.2.2.1; omega)
      unfold cutR
      split
      · exact hc
      · exact hc
    · exact (Small.event (r := { r with closed := true }) (N := N) h _ _ _).mono (by omega)
theorem table_tells (l : List (List ByteArray)) (N : Nat) (hN : N ≤ 1000000) (hl : l.length ≤ 1000000) (hr : ∀ x ∈ l, x.length ≤ N) : Pure.Tells (fun k => PTopChunks.quillpenref05_SameTable.f k l l) true := by
  have hb : ∃ K, ∀ x ∈ l, ∀ k, K ≤ k → PTopChunks.quillpenref05_Same.f k x x = some true := by
    clear hl
    induction l with
    | nil => exact ⟨0, fun x hx => by cases hx⟩
    | cons a l ih =>
      obtain ⟨K, hK⟩ := ih (fun x hx => hr x (List.mem_cons_of_mem _ hx))
      obtain ⟨K2, hK2⟩ := Pure.same_tells a (by have := hr a (List.mem_cons_self ..); omega)
      refine ⟨K + K2, fun x hx k hk => ?_⟩
      rcases List.mem_cons.1 hx with rfl | hx
      · exact hK2 k (by omega)
      · exact hK x hx k (by omega)
  obtain ⟨K, hK⟩ := hb
  have h : ∀ (d i : Nat), i + d = l.length → ∀ k, d + K < k → PTopChunks.quillpenref05_SameTable.l0 k l l (l.length : Int) (i : Int) = some true := by
    intro d
    induction d with
    | zero =>
      intro i hi k hk
      obtain ⟨k, rfl⟩ := Nat.exists_eq_succ_of_ne_zero (show k ≠ 0 by omega)
      unfold PTopChunks.quillpenref05_SameTable.l0
      rw [if_neg (by omega)]
    | succ d ih =>
      intro i hi k hk
      obtain ⟨k, rfl⟩ := Nat.exists_eq_succ_of_ne_zero (show k ≠ 0 by omega)
      have hlt : i < l.length := by omega
      have hx : PTopChunks.rd_L3 l (i : Int) ∈ l := by
        unfold PTopChunks.rd_L3
        rw [Int.toNat_natCast, List.getD_eq_getElem?_getD, List.getElem?_eq_getElem hlt]
        exact List.getElem_mem hlt
      unfold PTopChunks.quillpenref05_SameTable.l0
      rw [if_pos (by omega), if_pos (by omega), if_pos (by omega), if_pos (by omega), hK _ hx k (by omega), Option.bind_some, if_pos rfl, show wrap64 ((i : Int) + 1) = ((i + 1 : Nat) : Int) from by unfold wrap64; omega]
      exact ih (i + 1) (by omega) k (by omega)
  refine ⟨l.length + K + 1, fun k hk => ?_⟩
  show PTopChunks.quillpenref05_SameTable.f k l l = some true
  unfold PTopChunks.quillpenref05_SameTable.f
  rw [if_pos rfl]
  exact h l.length 0 (by omega) k (by omega)
end Go.Proofs.YtmignbhpofmgeaaDoor.Top
namespace Go.Proofs.YtmignbhpofmgeaaDoor.Top
open Go.RowKit Go.Proofs.YtmignbhpofmgeaaDoorW.PrintWords Go.Proofs.YtmignbhpofmgeaaDoorW.PrintLast Go.Proofs.YtmignbhpofmgeaaDoorW.PrintMore Go.Proofs.YtmignbhpofmgeaaDoor.Iter
set_option linter.unusedVariables false
set_option linter.unusedSimpArgs false
set_option maxRecDepth 100000 in
set_option maxHeartbeats 2000000 in
theorem next_none (R : Nat) (cs : Array Value) (a : Option Addr) (c : Nat) (W : World) (h : W.heap[R]? = some (.cells cs 69 (0, 0))) (h11 : cs[11]? = some (.slice a 0 c)) :
    Calls Tryd.prog 33 #[.pointer (some ⟨R, 0, none⟩)] W (fun e w' => e = .returned (.tuple #[.slice none 0 0, .bool false]) ∧ w' = W) := by
  have c11 := (blk_cell h 11).trans h11
  go_enter Tryd.func33, Tryd.ntmps33
  go_wp2
  go_ret2
  exact ⟨rfl, rfl⟩
set_option maxRecDepth 100000 in
set_option maxHeartbeats 4000000 in
theorem next_one (R : Nat) (cs : Array Value) (g o k c : Nat) (gv : Int) (row : Value) (W : World) (h : W.heap[R]? = some (.cells cs 69 (0, 0))) (h11 : cs[11]? = some (.slice (some ⟨g, o, none⟩) (k + 1) c)) (h12 : cs[12]? = some (.int .i64 gv)) (hk : k + 1 ≤ c) (hk2 : k + 1 ≤ 1000000) (oa : Option Addr) (n oc : Nat) (hrow : W.cell? ⟨g, o, none⟩ = some (.slice oa n oc)) (hne : g ≠ R) :
    Calls Tryd.prog 33 #[.pointer (some ⟨R, 0, none⟩)] W (fun e w' => e = .returned (.tuple #[.slice oa n oc, .bool true]) ∧ ∃ a', w' = (W.setCell ⟨R, 11, none⟩ (.slice a' k (c - 1))).setCell ⟨R, 12, none⟩ (.int .i64 (wrap64 (gv + 1))) ∧ (k ≠ 0 → a' = some ⟨g, o + 1, none⟩)) := by
  have c11 := (blk_cell h 11).trans h11
  have c12 := (blk_cell h 12).trans h12
  have f11 := blk_frozen h 11
  have f12 := blk_frozen h 12
  have hk0 : ¬ ((k : Int) + 1 = 0) := by omega
  go_enter Tryd.func33, Tryd.ntmps33
  go_wp2
  all_goals go_ret2
  all_goals refine ⟨rfl, _, rfl, fun h => ?_⟩
  all_goals first | rfl | (exfalso; omega)
end Go.Proofs.YtmignbhpofmgeaaDoor.Top
namespace Go.Proofs.YtmignbhpofmgeaaDoor.Top
open Go.RowKit Go.Proofs.YtmignbhpofmgeaaDoorW.PrintWords Go.Proofs.YtmignbhpofmgeaaDoorW.PrintLast Go.Proofs.YtmignbhpofmgeaaDoorW.PrintMore Go.Proofs.YtmignbhpofmgeaaDoor.Iter
set_option linter.unusedVariables false
set_option linter.unusedSimpArgs false
/-- The pieces, as they lie. -/
theorem strs_form {w : World} {base : Nat} {ok : Nat → Prop} {v : Value} {xs : List ByteArray} (h : Kd.string.R 9 w base ok v xs) :
    ∃ A cap, v = .slice A xs.length cap ∧ ∀ (i : Nat) (x : ByteArray), xs[i]? = some x → ∃ g, A = some ⟨g, 0, none⟩ ∧ base ≤ g ∧ g < w.heap.size ∧ w.cell? ⟨g, i, none⟩ = some (.string x) := by
  by_cases hp : 0 < xs.length
  · obtain ⟨g, cap, rfl, h1, h2, _⟩ := Kd.R_form h hp
    refine ⟨_, _, rfl, fun i x hi => ⟨g, rfl, h1, h2, ?_⟩⟩
    have hil : i < xs.length := (List.getElem?_eq_some_iff.1 hi).1
    have hc := (Kd.R_cell ByteArray.empty h (i : Int) (by omega) (by omega)).1
    rw [Int.toNat_natCast] at hc
    rw [hc]
    simp [rdOf, hi]
  · obtain ⟨A, c, rfl⟩ := Kd.R_slice h
    exact ⟨_, _, rfl, fun i x hi => by have := (List.getElem?_eq_some_iff.1 hi).1; omega⟩
/-- The final state of a reader that was fed a text and closed. -/
def finR (de qu en F Fs Rl : Int) (U : Bool) (s : ByteArray) : RS := closeR (feedL (bytesOf s) (initR de qu en F Fs Rl U))
/-- Records that lie. -/
def TabAt (W : World) (qv : Value) (ls : List (List ByteArray)) : Prop := ∃ rows, W.ownsRow 0 61 1 qv ls.length rows ∧ rows.length = ls.length ∧ ∀ (i : Nat) (v : Value) (l : List ByteArray), rows[i]? = some v → ls[i]? = some l → W.ownsRow 0 9 1 v l.length (l.map Value.string)
theorem fed_small (de qu en F Fs Rl : Int) (U : Bool) (k3 : F ≤ 2147483648) (xs : List Int) : Small (8 * xs.length) (feedL xs (initR de qu en F Fs Rl U)) ∧ Rowed (8 * xs.length) (feedL xs (initR de qu en F Fs Rl U)) ∧ (feedL xs (initR de qu en F Fs Rl U)).closed = false ∧ ((feedL xs (initR de qu en F Fs Rl U)).closed = true ∨ (feedL xs (initR de qu en F Fs Rl U)).fk ≠ 0 ∨ Fine xs.length (feedL xs (initR de qu en F Fs Rl U))) := by
  have hN0 : Small 0 (initR de qu en F Fs Rl U) := ⟨k3, Nat.le_refl _, Nat.le_refl _⟩
  have hM0 : Fine 0 (initR de qu en F Fs Rl U) := ⟨Int.le_refl _, Int.le_refl _, Int.le_refl _, by show (0 : Int) ≤ 2; decide, by show 0 < 8; decide⟩
  have hR0 : Rowed 0 (initR de qu en F Fs Rl U) := ⟨Nat.le_refl _, fun l hl => by cases hl⟩
  refine ⟨?_, ?_, (feedL_fk xs _).2, ?_⟩
  · have := feedL_small xs 0 0 _ hN0 hM0; rw [Nat.zero_add] at this; exact this
  · have := Rowed.feedL xs 0 0 _ hR0 hM0; rw [Nat.zero_add] at this; exact this
  · by_cases hk : (feedL xs (initR de qu en F Fs Rl U)).fk = 0
    · have := feedL_fine xs 0 _ hM0 rfl hk
      rw [Nat.zero_add] at this
      exact .inr (.inr this)
    · exact .inr (.inl hk)
/-- A reader's cells behind some hand-outs. -/
def csJ (r : RS) (x : RV) (gv : Int) (q : Value) : Array Value := ({ r with given := gv }).cells { x with qv := q }
def lenOf : Value → Nat
  | .slice _ n _ => n
  | _ => 0
theorem results_t_c_t35 {fn : Func} {p u v : Tmp} (h : fn.results = #[.tmp u, .cell p 35, .tmp v]) (tmps : Array Value) (w : World) (g : Nat) (a b : Value)
    (hp : tmps.getD p undef = .pointer (some ⟨g, 0, none⟩)) (hg : w.heap[g]? = some (.cells #[a, b] 35 (0, 0))) :
    (results fn tmps).run Tryd.prog w = .ok (.tuple #[tmps.getD u undef, .agg #[a, b], tmps.getD v undef]) w := by
  have hp' : tmps[p]?.getD undef = .pointer (some ⟨g, 0, none⟩) := by simpa using hp
  simp [results, h, hp', asAddr, load35 w g a b hg]
set_option maxRecDepth 100000 in
set_option maxHeartbeats 16000000 in
theorem fed_calls (n0 : Nat) (de qu en F Fs Rl : Int) (U : Bool) (s : ByteArray) (A1 : Option Addr) (l1 : List Int) (c1 : Nat) (W : World) (hU : Utf n0 W) (k1 : PTopSticky.dialect_Check.f de qu en = some 0) (k2 : PTopSticky.dialect_CheckLimits.f F Fs Rl U = some 0) (k3 : F ≤ 2147483648) (hs : s.size ≤ 3000) (hl : l1.length ≤ 100)
    (hr1 : Kd.C (Kd.int .i64) W A1 l1.length l1) (hc1 : l1.length ≤ c1) :
    Calls Tryd.prog 14 #[.agg #[.int .u8 de, .int .u8 qu, .int .i64 en], .agg #[.int .i64 F, .int .i64 Fs, .int .i64 Rl, .bool U], .string s, .slice A1 l1.length c1] W
      (fun e w' => ∃ qv, e = .returned (.tuple #[qv, fltV (finR de qu en F Fs Rl U s), .bool true]) ∧ TabAt w' qv (finR de qu en F Fs Rl U s).ready ∧ Acts (fun _ => False) W w') := by
  obtain ⟨W1, hW1⟩ : ∃ W1, ((W.alloc (.cells #[.int .u8 de, .int .u8 qu, .int .i64 en] 23)).alloc (.cells #[.int .i64 F, .int .i64 Fs, .int .i64 Rl, .bool U] 25)).alloc (.cells #[.int .i64 0, .int .i64 0] 35) = W1 := ⟨_, rfl⟩
  have hA1 : Acts (fun _ => False) W W1 := by rw [← hW1]; exact ((Acts.alloc (fun _ => False) _ _).trans (Acts.alloc (fun _ => False) _ _) (fun _ h => .inl h)).trans (Acts.alloc (fun _ => False) _ _) (fun _ h => .inl h)
  have hx : W1.heap[W.heap.size]? = some (.cells #[.int .u8 de, .int .u8 qu, .int .i64 en] 23 (0, 0)) := by rw [← hW1]; exact blk_alloc (blk_alloc (by simpa using heap_alloc_new W (.cells #[.int .u8 de, .int .u8 qu, .int .i64 en] 23)) _) _
  have hy : W1.heap[W.heap.size + 1]? = some (.cells #[.int .i64 F, .int .i64 Fs, .int .i64 Rl, .bool U] 25 (0, 0)) := by rw [← hW1]; exact blk_alloc (by simpa using heap_alloc_new (W.alloc (.cells #[.int .u8 de, .int .u8 qu, .int .i64 en] 23)) (.cells #[.int .i64 F, .int .i64 Fs, .int .i64 Rl, .bool U] 25)) _
  have hz : W1.heap[W.heap.size + 2]? = some (.cells #[.int .i64 0, .int .i64 0] 35 (0, 0)) := by rw [← hW1]; simpa using heap_alloc_new ((W.alloc (.cells #[.int .u8 de, .int .u8 qu, .int .i64 en] 23)).alloc (.cells #[.int .i64 F, .int .i64 Fs, .int .i64 Rl, .bool U] 25)) (.cells #[.int .i64 0, .int .i64 0] 35)
  have x0 := (blk_cell hx 0).trans rfl
  have x1 := (blk_cell hx 1).trans rfl
  have x2 := (blk_cell hx 2).trans rfl
  have y0 := (blk_cell hy 0).trans rfl
  have y1 := (blk_cell hy 1).trans rfl
  have y2 := (blk_cell hy 2).trans rfl
  have y3 := (blk_cell hy 3).trans rfl
  obtain ⟨r, ⟨kb, hby⟩, hrl, hall⟩ := Pure.by_tells s l1 hs hl
  have HU : Hid (Utf n0 W) := hU
  have HA1 : Hid (Acts (fun _ => False) W W1) := hA1
  have HZ : Hid (W1.heap[W.heap.size + 2]? = _) := hz
  have HR1 : Hid (Kd.C (Kd.int .i64) W A1 l1.length l1) := hr1
  have hflat : (r.map bytesOf).flatten = bytesOf s := by rw [← bytesOf_all, hall]
  clear hU hA1 hz hr1 hx hy
  have hn := rnew_calls de qu en F Fs Rl U W1 k1 k2
  obtain ⟨fin, hF⟩ : ∃ fin, finR de qu en F Fs Rl U s = fin := ⟨_, rfl⟩
  rw [hF]
  have HF : Hid (finR de qu en F Fs Rl U s = fin) := hF
  clear hF
  go_enter Tryd.func14, Tryd.ntmps14
  go_wp2_with (first
    | (go_at_call 8; ((with_reducible refine hn.mono ?_); rintro e w3 ⟨⟨R, S, B, fv, rv, qv⟩, rfl, hRA, hA3⟩; clear hn; have HRA : Hid (RAt W1.heap.size _ _ w3) := hRA; have HA3 : Hid (Acts (fun _ => False) W1 w3) := hA3; have hA03 := HA1.out.trans hA3 (fun _ h => .inl h); have hbc := PTopChunks.quillpenref07_By.calls kb s A1 c1 l1 r w3 (Kd.C_below HR1.out (hA03.below (Nat.le_refl _) (fun _ _ h => h))) hc1 (hby kb (Nat.le_refl _)); clear hRA hA3 hA03))
    | (go_at_call 32; ((with_reducible refine hbc.mono ?_); rintro e w4 ⟨bv, rfl, hbR, hbB⟩; clear hbc; obtain ⟨bA, bcap, rfl, hbf⟩ := strs_form hbR; have HBF : Hid (∀ (i : Nat) (x : ByteArray), r[i]? = some x → ∃ g, bA = some ⟨g, 0, none⟩ ∧ w3.heap.size ≤ g ∧ g < w4.heap.size ∧ w4.cell? ⟨g, i, none⟩ = some (.string x)) := hbf; have HA4 : Hid (Acts (fun _ => False) w3 w4) := Acts.of_below hbB; clear hbR hbB hbf)))
  have HG0 : Hid (RGo W1.heap.size ⟨R, S, B, fv, rv, qv⟩ w4 (initR de qu en F Fs Rl U) ⟨R, S, B, fv, rv, qv⟩ w4) := RGo.refl (HRA.out.acts HA4.out)
  have HP0 : Hid (initR de qu en F Fs Rl U = feedP ((r.take 0).map bytesOf) (initR de qu en F Fs Rl U)) := rfl
  have HFL : Hid ((r.map bytesOf).flatten = bytesOf s) := hflat
  have HAW4 : Hid (Acts (fun _ => False) W w4) := (HA1.out.trans HA3.out (fun _ h => .inl h)).trans HA4.out (fun _ h => .inl h)
  clear hflat hall hby x0 x1 x2 y0 y1 y2 y3
  obtain ⟨n, hnr⟩ : ∃ n, r.length = n := ⟨_, rfl⟩
  have HNR : Hid (r.length = n) := hnr
  rw [hnr] at hrl ⊢
  clear hnr
  go_loopw [36] (fun y wl => ∃ (i : Nat) (x' : RV) (r' : RS), i ≤ n ∧ y = .int .i64 i ∧ Hid (RGo W1.heap.size ⟨R, S, B, fv, rv, qv⟩ w4 r' x' wl) ∧ Hid (r' = feedP ((r.take i).map bytesOf) (initR de qu en F Fs Rl U))) (fun y _ => n - (intOf y).toNat)
  case atStart => exact ⟨0, _, _, Nat.zero_le _, rfl, HG0, HP0⟩
  case round =>
    obtain ⟨i, x', r', hi, rfl, HG, HP⟩ := hrel
    have hRR := HG.out.new.R
    obtain ⟨R', S', B', fv', rv', qv'⟩ := x'
    dsimp only at hRR
    have hRR2 := hRR.symm
    clear hRR
    subst hRR2
    have hUw : Utf W1.heap.size wr := ((HU.out.acts HAW4.out (fun _ h => h.elim)).up (Nat.le_trans HU.out.1 HA1.out.size) (Nat.le_trans HA3.out.size HA4.out.size)).acts HG.out.acts (fun k hk => HRA.out.low k hk)
    by_cases hlt0 : i < n
    · obtain ⟨p, hp⟩ : ∃ p, r[i]? = some p := ⟨_, List.getElem?_eq_getElem (by rw [HNR.out]; exact hlt0)⟩
      obtain ⟨g, hbA, hg1, hg2, hcell⟩ := HBF.out i p hp
      subst hbA
      have hgw : wr.cell? ⟨g, i, none⟩ = some (.string p) := (cell_same (HG.out.acts.same g hg2 (fun e => by have := HRA.out.rc_lt g e; omega))).trans hcell
      have htk : r.take (i + 1) = r.take i ++ [p] := by
        obtain ⟨h1, h2⟩ := List.getElem?_eq_some_iff.1 hp
        rw [List.take_succ_eq_append_getElem h1, h2]
      have hfl : ((r.take (i + 1)).map bytesOf).flatten.length ≤ s.size := by
        have h1 : ((r.take (i + 1)).map bytesOf).flatten ++ ((r.drop (i + 1)).map bytesOf).flatten = bytesOf s := by
          rw [← List.flatten_append, ← List.map_append, List.take_append_drop]; exact HFL.out
        have h2 := congrArg List.length h1
        rw [List.length_append, bytesOf_len] at h2
        omega
      rw [htk, List.map_append, List.flatten_append, List.length_append] at hfl
      simp only [List.map_cons, List.map_nil, List.flatten_cons, List.flatten_nil, List.append_nil] at hfl
      have hsm := fed_small de qu en F Fs Rl U k3 ((r.take i).map bytesOf).flatten
      rw [← feedP_all _ _ rfl rfl, ← HP.out] at hsm
      have HP2 : Hid (feedB (bytesOf p) r' = feedP ((r.take (i + 1)).map bytesOf) (initR de qu en F Fs Rl U)) := by
        show _ = _
        rw [htk, List.map_append, feedP, List.foldl_append]
        show _ = feedB (bytesOf p) (feedP ((r.take i).map bytesOf) (initR de qu en F Fs Rl U))
        rw [← HP.out]
      obtain ⟨v5, hv5⟩ : ∃ v, Value.slice (some ⟨wr.heap.size, 0, none⟩) p.size (grownCap wr p.size 0 5) = v := ⟨_, rfl⟩
      obtain ⟨w5, hw5⟩ : ∃ w, Lib.bytesWorld wr 5 p = w := ⟨_, rfl⟩
      have hconv := Lib.run_convert_string_bytes (P := Tryd.prog) wr 9 37 5 p (u := .string) (by kernel_rfl) Tryd.underlying37 (by kernel_rfl)
      have hba := barg_conv HG.out.it p
      have hA5 := acts_bytesWorld wr 5 p
      rw [hv5, hw5] at hconv hba
      rw [hw5] at hA5
      clear hv5 hw5
      have hR5 := HG.out.it.acts hA5
      have hfd := rfeed_calls W1.heap.size _ r' (bytesOf p) v5 (8 * ((r.take i).map bytesOf).flatten.length) ((r.take i).map bytesOf).flatten.length w5 hR5 (hUw.acts hA5 (fun _ h => h.elim)) hsm.1 (by omega) hsm.2.2.2 (by omega) hba
      have HG5 : Hid (RGo W1.heap.size _ w4 _ _ w5) := HG.out.more hA5
      clear hR5 hA5 hba hsm htk hcell hUw HP hfl
      dsimp only at hfd
      go_wp2_with (first
        | (go_at_call 9; ((with_reducible refine hfd.mono ?_); rintro e w6 ⟨rfl, x6, hg6⟩; have HG6 : Hid (RGo W1.heap.size _ w4 _ _ w6) := HG5.out.trans hg6; clear hg6 HG5 hfd))
      )
      go_roundw
      case rel => exact ⟨i + 1, _, _, by omega, by go_num, HG6, HP2⟩
      case measure => simp [intOf]; omega
    · obtain rfl : i = n := by omega
      have hr1 : r' = feedL (bytesOf s) (initR de qu en F Fs Rl U) := by
        rw [HP.out, List.take_of_length_le (by rw [HNR.out]; exact Nat.le_refl _), feedP_all _ _ rfl rfl, HFL.out]
      have hsm := fed_small de qu en F Fs Rl U k3 (bytesOf s)
      rw [← hr1, bytesOf_len] at hsm
      have hcl := rclose_calls W1.heap.size _ r' (8 * s.size) s.size wr HG.out.it hsm.1 (by omega) hsm.2.2.2 (by omega)
      have hfin : closeR r' = finR de qu en F Fs Rl U s := by rw [hr1]; rfl
      rw [hfin] at hcl
      have hSc := Small.close (M := s.size) hsm.1 hsm.2.2.2
      rw [hfin] at hSc
      have hml : (finR de qu en F Fs Rl U s).ready.length ≤ 8 * s.size + 8 := hSc.2.2
      clear hfin hsm hr1 hUw hSc
      rw [HF.out] at hcl hml
      simp only [fltV] at hcl
      go_wp2_with (first
        | (go_at_call 12; ((with_reducible refine hcl.mono ?_); rintro e w7 ⟨rfl, ⟨R7, S7, B7, fv7, rv7, qv7⟩, hg7⟩; have hR7 := hg7.new.R.symm; dsimp only at hR7; subst hR7; have HG7 : Hid (RGo W1.heap.size _ w4 _ _ w7) := HG.out.trans hg7; clear hg7 hcl))
      )
      have HR7 := HG7
      have hA78 : Acts (fun _ => False) w7 (w7.alloc (.cells #[.int .i64 fin.fk, .int .i64 fin.fat] 35)) := Acts.alloc _ _ _
      have hB15 : (w7.alloc (.cells #[.int .i64 fin.fk, .int .i64 fin.fat] 35)).heap[w7.heap.size]? = some (.cells #[.int .i64 fin.fk, .int .i64 fin.fat] 35 (0, 0)) := by simpa using heap_alloc_new w7 (.cells #[.int .i64 fin.fk, .int .i64 fin.fat] 35)
      obtain ⟨w8, hw8⟩ : ∃ w8, w7.alloc (.cells #[.int .i64 fin.fk, .int .i64 fin.fat] 35) = w8 := ⟨_, rfl⟩
      rw [hw8] at hA78 hB15 ⊢
      clear hw8
      have hR8 := HG7.out.it.acts hA78
      obtain ⟨rows, hq8, hr8⟩ := hR8.que
      dsimp only at hq8 hr8
      obtain ⟨qa, qc, hqv, hqc⟩ := slice_cap hq8
      obtain ⟨m, hm⟩ : ∃ m, fin.ready.length = m := ⟨_, rfl⟩
      have hobj8 := hR8.obj
      rw [hm] at hq8 hqv hqc hml
      subst hqv
      have hsz78 := hA78.size
      have hRlt := hR8.lt
      dsimp only at hRlt hobj8
      have hz4 := ((HA3.out.trans HA4.out (fun _ h => .inl h)).same _ (blk_lt HZ.out) (fun h => h)).trans HZ.out
      have hz7 := (HG7.out.acts.same _ (blk_lt hz4) (fun e => by have := HRA.out.low _ e; have := blk_lt HZ.out; omega)).trans hz4
      have hz8 := (hA78.same _ (blk_lt hz7) (fun h => h)).trans hz7
      have hRz : R ≠ W.heap.size + 2 := fun e => by have := HRA.out.low R (.inl rfl); have := blk_lt HZ.out; omega
      have hAW8 : Acts (fun _ => False) W w8 := (HAW4.out.trans HG7.out.acts (fun j hj => .inr (by have := HRA.out.low _ hj; have := HA1.out.size; omega))).trans hA78 (fun _ h => .inl h)
      have HQ : Hid (∀ (j : Nat) (v : Value), rows[j]? = some v → ∃ gq, qa = some ⟨gq, 0, none⟩ ∧ gq < w8.heap.size ∧ gq ≠ R ∧ w8.cell? ⟨gq, j, none⟩ = some v) := fun j v hj => by
        obtain ⟨gq, cap, e1, e2, e3⟩ := owns_cell hq8 j v hj
        simp only [Value.slice.injEq] at e1
        refine ⟨gq, e1.1, e3, fun e => ?_, e2⟩
        have := hR8.ne.2.2.2.2
        rw [e1.1, e] at this
        exact this rfl
      have HRW : Hid (rows.length = m ∧ ∀ (i : Nat) (v : Value) (l : List ByteArray), rows[i]? = some v → fin.ready[i]? = some l → w8.ownsRow 0 9 1 v l.length (l.map Value.string)) := ⟨by rw [hr8.1]; exact hm, fun i v l hi hl => (hr8.2 i v l hi hl).1⟩
      have HB15 : Hid (w8.heap[w7.heap.size]? = some (.cells #[.int .i64 fin.fk, .int .i64 fin.fat] 35 (0, 0))) := hB15
      have HZ8 : Hid (w8.heap[W.heap.size + 2]? = some (.cells #[.int .i64 0, .int .i64 0] 35 (0, 0))) := hz8
      have HAW8 : Hid (Acts (fun _ => False) W w8) := hAW8
      have HO8 : Hid (w8.heap[R]? = some (.cells (csJ fin ⟨R, S7, B7, fv7, rv7, .slice none 0 0⟩ fin.given (.slice qa (m - 0) qc)) 69 (0, 0))) := hobj8
      have HR78 : Hid (w7.heap.size < w8.heap.size ∧ R < w7.heap.size) := ⟨blk_lt hB15, HG7.out.it.lt⟩
      have HT0 : Hid (w8.ownsRow 0 61 1 (.slice none 0 0) 0 (rows.take 0)) := World.ownsRow_nil _ _ _ _
      have HM : Hid (fin.ready.length = m) := hm
      clear hR8 hq8 hr8 hobj8 hz4 hz7 hz8 hAW8 hB15 hA78 HR7 hsz78 hm
      go_loopw [16] (fun y wl => ∃ (j : Nat) (a : Option Addr) (c : Nat) (gv : Int) (tv : Value), j ≤ m ∧ y = tv ∧ Hid (lenOf tv = j ∧ m - j ≤ c ∧ (j < m → ∀ gq, qa = some ⟨gq, 0, none⟩ → a = some ⟨gq, j, none⟩) ∧ wl.heap[R]? = some (.cells (csJ fin ⟨R, S7, B7, fv7, rv7, .slice none 0 0⟩ gv (.slice a (m - j) c)) 69 (0, 0)) ∧ wl.ownsRow 0 61 1 tv j (rows.take j) ∧ (∀ k, tv.ownBlock = some k → w8.heap.size ≤ k) ∧ Acts (fun k => k = R) w8 wl)) (fun y _ => m - lenOf y)
      case atStart => exact ⟨0, qa, qc, fin.given, .slice none 0 0, Nat.zero_le _, rfl, rfl, (by omega), (fun _ gq e => e), HO8.out, HT0.out, (fun k hk => by simp [Value.ownBlock] at hk), Acts.refl _ _⟩
      case round =>
        obtain ⟨j, a, c, gv, tv, hj, rfl, HJ⟩ := hrel
        obtain ⟨j1, j2, j3, j4, j5, j6, j7⟩ := HJ.out
        obtain ⟨ta, tc, rfl⟩ := slice_len j5
        have hRt : (Value.slice ta j tc).ownBlock ≠ some R := fun e => by have := j6 R e; have := HR78.out; omega
        by_cases hlt : j < m
        · obtain ⟨v, hv⟩ : ∃ v, rows[j]? = some v := ⟨_, List.getElem?_eq_getElem (by rw [HRW.out.1]; exact hlt)⟩
          obtain ⟨l, hl2⟩ : ∃ l, fin.ready[j]? = some l := ⟨_, List.getElem?_eq_getElem (by rw [HM.out]; exact hlt)⟩
          have hvl := HRW.out.2 j v l hv hl2
          obtain ⟨oa, oc, rfl⟩ := slice_len hvl
          obtain ⟨gq, hqa, hgl, hgR, hcq⟩ := HQ.out j _ hv
          have ha := j3 hlt gq hqa
          obtain ⟨k, hk⟩ : ∃ k, m - j = k + 1 := ⟨m - j - 1, by omega⟩
          rw [hk] at j4 j2
          rw [ha] at j4
          have hcw := (cell_same (j7.same gq hgl hgR)).trans hcq
          have hnx := next_one R _ gq j k c gv (.slice oa l.length oc) wr j4 rfl rfl j2 (by omega) oa l.length oc hcw hgR
          obtain ⟨i0, hi0, hz0, hz1, hz2⟩ := info_parts elem61
          have htk : rows.take (j + 1) = rows.take j ++ [.slice oa l.length oc] := by
            obtain ⟨h1, h2⟩ := List.getElem?_eq_some_iff.1 hv
            rw [List.take_succ_eq_append_getElem h1, h2]
          have HTK : Hid (rows.take (j + 1) = rows.take j ++ [.slice oa l.length oc]) := htk
          have HJ4 : Hid (wr.heap[R]? = _) := j4
          have HJ5 : Hid (wr.ownsRow 0 61 1 (.slice ta j tc) j (rows.take j)) := j5
          have HJ6 : Hid (∀ k, (Value.slice ta j tc).ownBlock = some k → w8.heap.size ≤ k) := j6
          have HJ7 : Hid (Acts (fun k => k = R) w8 wr) := j7
          have HJ3 : Hid (j < m → ∀ gq, qa = some ⟨gq, 0, none⟩ → a = some ⟨gq, j, none⟩) := j3
          have HHK : Hid (m - j = k + 1 ∧ k + 1 ≤ c) := ⟨hk, j2⟩
          have HQA : Hid (qa = some ⟨gq, 0, none⟩) := hqa
          clear hvl htk j4 j5 j6 j7 j3 hcw hcq ha hqa HJ hk
          go_wp2_with (first
            | (go_at_call 33; ((with_reducible refine hnx.mono ?_); rintro e w9 ⟨rfl, a', rfl, ha'⟩; have HA9 : Hid (k ≠ 0 → a' = some ⟨gq, j + 1, none⟩) := ha'; clear hnx ha'; obtain ⟨w9, hw9⟩ : ∃ w9, ((wr.setCell ⟨R, 11, none⟩ (.slice a' k (c - 1))).setCell ⟨R, 12, none⟩ (.int .i64 (wrap64 (gv + 1)))) = w9 := ⟨_, rfl⟩; rw [hw9]; have hA9 : Acts (fun k => k = R) wr w9 := (by rw [← hw9]; exact (acts_set (B := R) wr 11 _).trans (acts_set (B := R) _ 12 _) (fun _ h => .inl h)); have hO9 : w9.heap[R]? = some (.cells (csJ fin ⟨R, S7, B7, fv7, rv7, .slice none 0 0⟩ (wrap64 (gv + 1)) (.slice a' k (c - 1))) 69 (0, 0)) := (by rw [← hw9, blk_set (blk_set HJ4.out 11 _) 12 _]; rfl); have hT9 := owns_keep (W' := w9) HJ5.out (fun k e => hA9.same k (row_lt HJ5.out k e) (fun e' => hRt (e' ▸ e))); clear hw9))
            | (at_builtin; refine wpList_append_own_at _ rfl _ _ 44 rfl 0 61 i0 (.slice none 0 0) 1 24 Tryd.underlying44 hi0 hz0 hz1 hz2 rfl (by decide) _ j _ rfl (World.ownsRow.alloc hT9 _) ⟨w9.heap.size, 0, none⟩ 1 1 [.slice oa l.length oc] rfl rfl (cell_one_new w9 _ _) (by simp [Value.oneCell']) (by simp [maxLen]; omega) (by omega) (by simp) ?_; intro v' w10 hown hgrow hnil hat; have HOW : Hid (w10.ownsRow 0 61 1 v' (j + 1) (rows.take (j + 1))) := (by rw [HTK.out]; exact hown); have HG9 : Hid ((World.alloc w9 _).grownBy w10 _) := hgrow; have HAT : Hid (v'.ownBlock = _ ∨ v'.ownBlock = _) := hat; have HO9 : Hid (w9.heap[R]? = _) := hO9; have HAC9 : Hid (Acts (fun k => k = R) wr w9) := hA9; clear hown hgrow hnil hat hO9 hA9 hT9))
          obtain ⟨ga, gc, rfl⟩ := ownsRow_succ HOW.out
          have hgr := grown_acts HG9.out
          have hs9 := HAC9.out.size
          have hs8 := HJ7.out.size
          go_roundw
          case rel =>
            refine ⟨j + 1, a', c - 1, wrap64 (gv + 1), _, by omega, rfl, rfl, by have := HHK.out; omega, fun hlt2 gq2 e2 => ?_, ?_, HOW.out, fun k2 hk2 => ?_, ?_⟩
            · have h1 := HA9.out (by have := HHK.out; omega)
              have h2 := HQA.out.symm.trans e2
              simp only [Option.some.injEq, Addr.mk.injEq, and_true] at h2
              rw [h1, h2]
            · rw [show m - (j + 1) = k by have := HHK.out; omega]
              exact (hgr.same R (blk_lt HO9.out) hRt).trans HO9.out
            · rcases HAT.out with e | e
              · exact HJ6.out k2 (e ▸ hk2)
              · rw [e] at hk2
                obtain rfl := Option.some.inj hk2
                have h9 : w9.heap.size ≤ (w9.alloc (.cells #[.slice oa l.length oc] 61)).heap.size := (Acts.alloc (fun _ => False) _ _).size
                omega
            · exact (HJ7.out.trans HAC9.out (fun _ h => .inl h)).trans hgr (fun k2 hk2 => .inr (HJ6.out k2 hk2))
          case measure => simp [lenOf]; omega
        · have hjm : j = m := by omega
          rw [show m - j = 0 by omega] at j4
          have hnx := next_none R _ a c wr j4 rfl
          have HB15w := (j7.same w7.heap.size HR78.out.1 (by have := HR78.out; omega)).trans HB15.out
          have hZ := (j7.same (W.heap.size + 2) (blk_lt HZ8.out) (Ne.symm hRz)).trans HZ8.out
          have l0 := (blk_cell hZ 0).trans rfl
          have l1 := (blk_cell hZ 1).trans rfl
          have k0 := blk_frozen hZ 0
          have k1' := blk_frozen hZ 1
          obtain ⟨wE, hwE⟩ : ∃ wE, (wr.drew.setCell ⟨W.heap.size + 2, 0, none⟩ (.int .i64 fin.fk)).setCell ⟨W.heap.size + 2, 1, none⟩ (.int .i64 fin.fat) = wE := ⟨_, rfl⟩
          have hZE : wE.heap[W.heap.size + 2]? = some (.cells #[.int .i64 fin.fk, .int .i64 fin.fat] 35 (0, 0)) := by rw [← hwE]; exact flt_stored (W := wr.drew) hZ _ _
          have hAE : Acts (fun k => k = W.heap.size + 2) wr wE := by rw [← hwE]; exact (Acts.drew (fun k => k = W.heap.size + 2) wr).trans (flt_acts wr.drew _ _ _) (fun _ h => .inl h)
          have HJ5 : Hid (wr.ownsRow 0 61 1 (.slice ta j tc) j (rows.take j)) := j5
          have HJ7 : Hid (Acts (fun k => k = R) w8 wr) := j7
          clear j3 j4 j5 j6 j7 HJ
          go_wp2_with (go_at_call 33; ((with_reducible refine hnx.mono ?_); rintro e w9 ⟨rfl, rfl⟩; clear hnx))
          refine start_ (n := 5) (S := fun w' => w'.heap[w7.heap.size]? = some (.cells #[.int .i64 fin.fk, .int .i64 fin.fat] 35 (0, 0))) (ds := [3]) #[false, false, false, false, false] (by kernel_rfl) rfl rfl (HB15w) (fun hHeld => ?_)
          refine pure_ (i := 0) (N := some 54) (v := ?_) (a' := ?_) #[true, false, false, false, false] rfl rfl (by kernel_rfl) (fun _ _ _ h => h) (Or.inl ⟨by rfl, ?_⟩) ?_ ?_
          rotate_left
          · intro w'
            go_simp
            with_reducible rfl
          rotate_left
          · simp only [Act.put, List.setIfInBounds_toArray, List.set_cons_zero, List.set_cons_succ]
            rfl
          refine take_ (i := 1) (N := some 55) (v := ?_) (a' := ?_) #[true, true, false, false, false] rfl rfl (by kernel_rfl) (fun _ _ _ h => h) (Or.inl ⟨by rfl, ?_⟩) hHeld ?_ ?_
          rotate_left
          · intro w' s0
            have y0 := (blk_cell s0 0).trans rfl
            have y1 := (blk_cell s0 1).trans rfl
            clear s0
            go_simp
            with_reducible rfl
          rotate_left
          · simp only [Act.put, List.setIfInBounds_toArray, List.set_cons_zero, List.set_cons_succ]
            rfl
          refine pure_ (i := 2) (N := some 8) (v := ?_) (a' := ?_) #[true, true, true, false, false] rfl rfl (by kernel_rfl) (fun _ _ _ h => h) (Or.inl ⟨by rfl, ?_⟩) ?_ ?_
          rotate_left
          · intro w'
            go_simp
            with_reducible rfl
          rotate_left
          · simp only [Act.put, List.setIfInBounds_toArray, List.set_cons_zero, List.set_cons_succ]
            rfl
          refine last_ (i := 3) (N := none) #[true, true, true, true, false] rfl rfl (by kernel_rfl) (by decide) (fun K hK => ?_)
          refine skip_ (w1 := wE) (by rfl) rfl ?_ ?_
          · rw [← hwE]
            go_simp
          refine hK.out _ _ ?_
          clear hK K
          refine pure_ (i := 4) (N := some 10) (v := ?_) (a' := ?_) #[true, true, true, true, true] rfl rfl (by kernel_rfl) (fun _ _ _ h => h) (Or.inl ⟨by rfl, ?_⟩) ?_ ?_
          rotate_left
          · intro w'
            go_simp
            with_reducible rfl
          rotate_left
          · simp only [Act.put, List.setIfInBounds_toArray, List.set_cons_zero, List.set_cons_succ]
            rfl
          refine done_ (by kernel_rfl) ?_
          clear hHeld
          go_wp2
          refine bodyPost_ret (results_t_c_t35 rfl _ _ (W.heap.size + 2) (.int .i64 fin.fk) (.int .i64 fin.fat) ?_ ?_) ?_ ?_
          · rfl
          · exact hZE
          · rfl
          have hro : rows.take j = rows := List.take_of_length_le (by rw [HRW.out.1]; omega)
          have h5 := HJ5.out
          rw [hro, hjm] at h5
          refine ⟨_, rfl, ⟨rows, ?_, by rw [HRW.out.1, HM.out], fun i v l hi hl => ?_⟩, ?_⟩
          · have := owns_keep h5 (fun k e => hAE.same k (row_lt h5 k e) (fun e' => row_ne h5 hZ (by decide) (e' ▸ e)))
            rw [HM.out]
            exact this
          · have h1 := HRW.out.2 i v l hi hl
            have h2 := owns_keep h1 (fun k e => HJ7.out.same k (row_lt h1 k e) (fun e' => row_ne h1 HO8.out (by decide) (e' ▸ e)))
            exact owns_keep h2 (fun k e => hAE.same k (row_lt h2 k e) (fun e' => row_ne h2 hZ (by decide) (e' ▸ e)))
          · exact (HAW8.out.trans HJ7.out (fun k e => .inr (by have := HRA.out.low R (.inl rfl); have := HA1.out.size; omega))).trans hAE (fun k e => .inr (by omega))
end Go.Proofs.YtmignbhpofmgeaaDoor.Top
namespace Go.Proofs.YtmignbhpofmgeaaDoor.Top
open Go.RowKit Go.Proofs.YtmignbhpofmgeaaDoorW.PrintWords Go.Proofs.YtmignbhpofmgeaaDoorW.PrintLast Go.Proofs.YtmignbhpofmgeaaDoorW.PrintMore Go.Proofs.YtmignbhpofmgeaaDoor.Iter
set_option linter.unusedVariables false
set_option linter.unusedSimpArgs false
theorem eventR_fk (r : RS) (ev : Ev) (f a : Int) : ((eventR r ev f a).1.fk = 0 → (eventR r ev f a).2 = true) ∧ ((eventR r ev f a).2 = true → (eventR r ev f a).1.fk = r.fk ∧ (eventR r ev f a).1.fat = r.fat) := by
  unfold eventR
  by_cases h1 : f = 0
  · by_cases h2 : (takeM r.maker ev).2.2.2 = 0
    · simp [h1, h2]
    · simp [h1, h2, wrongR]
  · simp [h1, wrongR]
theorem closeR_go (r : RS) (hc : r.closed = false) (h0 : r.fk = 0) :
    ((closeR r).fk = 0 → r.utf = 0 ∧ goE (closeSc r.state).1 (closeSc r.state).2 r.state r.core = some (closeR r).core) ∧
    (r.utf = 0 → (goE (closeSc r.state).1 (closeSc r.state).2 r.state r.core).isSome = true → (closeR r).fk = 0 ∧ (closeR r).fat = r.fat ∧ goE (closeSc r.state).1 (closeSc r.state).2 r.state r.core = some (closeR r).core) := by
  have hn : ¬ (r.closed = true ∨ r.fk ≠ 0) := by rw [hc, h0]; simp
  by_cases hu : r.utf = 0
  · have e : closeR r = (eventR { r with closed := true } (closeSc r.state).1 (closeSc r.state).2 r.offset).1 := by
      unfold closeR
      rw [if_neg hn, if_neg (fun h => h hu)]
    obtain ⟨g1, g2⟩ := event_go { r with closed := true } (closeSc r.state).1 (closeSc r.state).2 r.state r.offset
    obtain ⟨k1, k2⟩ := eventR_fk { r with closed := true } (closeSc r.state).1 (closeSc r.state).2 r.offset
    rw [e]
    refine ⟨fun h => ⟨hu, (g2 (k1 h)).1⟩, fun _ h => ?_⟩
    have ht := g1.2 h
    exact ⟨(k2 ht).1.trans h0, (k2 ht).2, (g2 ht).1⟩
  · have e : closeR r = cutR { r with closed := true } 12 := by
      unfold closeR
      rw [if_neg hn, if_pos hu]
    refine ⟨fun h => ?_, fun h => absurd h hu⟩
    rw [e] at h
    exact absurd h (cutR_fk _ 12 (by decide)).1
theorem runU_mark (ys : List Int) : runU 0 (bomMark ++ ys) = runU 0 ys := by
  rw [runU_app, show runU 0 bomMark = some 0 by decide]; rfl
/-- What is read by a wide reader without a fault: records that are not empty, of whole sequences; and not too many. -/
theorem first_reading {de qu en : Int} (hd : okD de qu en) (s : ByteArray) (hs : s.size ≤ 3000) (h : (finR de qu en 2147483648 2147483648 2147483648 false s).fk = 0) :
    OkT (finR de qu en 2147483648 2147483648 2147483648 false s).ready ∧ wtT (finR de qu en 2147483648 2147483648 2147483648 false s).ready ≤ 5 * (s.size + 1) := by
  obtain ⟨r0, hr0⟩ : ∃ r0, initR de qu en 2147483648 2147483648 2147483648 false = r0 := ⟨_, rfl⟩
  have hgood := good0 de qu en
  unfold finR at h ⊢
  rw [hr0] at h hgood ⊢
  have h00 : r0.fk = 0 := by rw [← hr0]; rfl
  have hc0 : r0.closed = false := by rw [← hr0]; rfl
  have hm0 : r0.mark = s0 := by rw [← hr0]; rfl
  have hu0 : r0.utf = 0 := by rw [← hr0]; rfl
  have hd0 : r0.de = de ∧ r0.qu = qu ∧ r0.en = en := by rw [← hr0]; exact ⟨rfl, rfl, rfl⟩
  obtain ⟨r, hr⟩ : ∃ r, feedL (Top.bytesOf s) r0 = r := ⟨_, rfl⟩
  have hrc : r.closed = false := by rw [← hr, (feedL_fk _ _).2, hc0]
  have hg := feedL_go (Top.bytesOf s) r0 h00
  rw [hr] at h hg ⊢
  have hk : r.fk = 0 := by
    by_cases hk : r.fk = 0
    · exact hk
    · exfalso
      have e : closeR r = { r with closed := true } := by unfold closeR; rw [if_pos (.inr hk)]
      rw [e] at h
      exact hk h
  obtain ⟨u1, u2, _⟩ := hg.2 hk
  rw [hm0, hd0.1, hd0.2.1, hd0.2.2] at u2
  rw [hu0] at u1
  obtain ⟨hu, hev⟩ := (closeR_go r hrc hk).1 h
  rw [hu] at u1
  have h8 := bytesOf_8 s
  have hlen := bytesOf_len s
  obtain ⟨ys, hys⟩ : ∃ ys, (feedSL s0 (Top.bytesOf s)).2 = ys := ⟨_, rfl⟩
  rw [hys] at u2
  have hy : runU 0 ys = some 0 ∧ By8 ys ∧ ys.length ≤ s.size := by
    rcases feedSL_all (Top.bytesOf s) with ⟨zs, e1, e2⟩ | ⟨k, hk2, e1, e2⟩ | ⟨_, e2⟩
    · rw [hys] at e2
      subst e2
      rw [e1] at u1 h8 hlen
      rw [runU_mark] at u1
      exact ⟨u1, fun x hx => h8 x (List.mem_append_right _ hx), by rw [List.length_append] at hlen; omega⟩
    · rw [hys] at e2
      subst e2
      exact ⟨rfl, (fun x hx => by cases hx), Nat.zero_le _⟩
    · rw [hys] at e2
      subst e2
      exact ⟨u1, h8, by omega⟩
  obtain ⟨y1, y2, y3⟩ := hy
  have hG := good_run hd ys 0 0 0 _ _ hgood y2 (by omega) y1 u2
  rw [Nat.zero_add] at hG
  obtain ⟨c, hc⟩ : ∃ c, (closeR r).core = c := ⟨_, rfl⟩
  have hready : (closeR r).ready = c.rows := by rw [← hc]; rfl
  rw [hready]
  rw [hc] at hev
  obtain ⟨_, s0', s6', f, q, g, cc, w, hm, f8, fu, rok, r5, tok, g0, g1, c0, c1, fl, rl, hw⟩ := hG
  have hst : r.core.st = r.state := rfl
  rw [hst] at s0' s6'
  have hs : r.state = 0 ∨ r.state = 1 ∨ r.state = 2 ∨ r.state = 3 ∨ r.state = 4 ∨ r.state = 5 ∨ r.state = 6 := by omega
  have hfull : ∀ st, closeSc st = (⟨false, false, false, true, true, 0⟩, 0) → goE (closeSc st).1 (closeSc st).2 st r.core = some c → OkT c.rows ∧ wtT c.rows ≤ 5 * (s.size + 1) := by
    intro st e hev
    rw [e] at hev
    unfold goE at hev
    rw [hm] at hev
    obtain ⟨w', hw'⟩ := tk_whole f q g cc w 0 c0 (by omega)
    rw [hw'] at hev
    simp only [and_self, if_true] at hev
    obtain rfl := Option.some.inj hev
    refine ⟨tok.snoc (by simp) (rok.snoc f8 fu), ?_⟩
    show wtT (r.core.rows ++ [q ++ [strOfNums f]]) ≤ _
    rw [wtT_snoc, wtR_snoc]; omega
  rcases hs with e | e | e | e | e | e | e <;> rw [e] at hev
  · have e2 : closeSc 0 = (⟨false, false, false, false, false, 0⟩, 0) := by simp [closeSc, PTopSticky.scan_Close.f]
    rw [e2] at hev
    unfold goE at hev
    rw [hm, tk_begin f q g cc w 0 false g0 (by omega)] at hev
    simp only [and_self, if_true] at hev
    obtain rfl := Option.some.inj hev
    refine ⟨by simpa using tok, ?_⟩
    simp only [Bool.false_eq_true, if_false]
    omega
  · exact hfull 1 (by simp [closeSc, PTopSticky.scan_Close.f]) hev
  · exact hfull 2 (by simp [closeSc, PTopSticky.scan_Close.f]) hev
  · simp [closeSc, PTopSticky.scan_Close.f, goE] at hev
  · exact hfull 4 (by simp [closeSc, PTopSticky.scan_Close.f]) hev
  · simp [closeSc, PTopSticky.scan_Close.f, goE] at hev
  · simp [closeSc, PTopSticky.scan_Close.f, goE] at hev
end Go.Proofs.YtmignbhpofmgeaaDoor.Top
namespace Go.Proofs.YtmignbhpofmgeaaDoor.Top
open Go.RowKit Go.Proofs.YtmignbhpofmgeaaDoorW.PrintWords Go.Proofs.YtmignbhpofmgeaaDoorW.PrintLast Go.Proofs.YtmignbhpofmgeaaDoorW.PrintMore Go.Proofs.YtmignbhpofmgeaaDoor.Iter
set_option linter.unusedVariables false
set_option linter.unusedSimpArgs false
/-- Why a field must be quoted. -/
def whyB (de qu : Int) (alone first : Bool) (f : List Int) : Bool := f.contains de || f.contains qu || f.contains 13 || f.contains 10 || (f.isEmpty && alone) || (first && bomMark.isPrefixOf f)
def writtenB (de qu : Int) (alone first : Bool) (f : List Int) : List Int := if whyB de qu alone first f = true then quotedB qu f else f
/-- The fields behind the first one. -/
def restB (de qu : Int) (fs : List (List Int)) : List Int := fs.flatMap fun f => de :: writtenB de qu false false f
def lineB (de qu en : Int) (first : Bool) : List (List Int) → List Int
  | [] => endB en
  | f :: fs => writtenB de qu fs.isEmpty first f ++ (restB de qu fs ++ endB en)
def textB (de qu en : Int) : Bool → List (List (List Int)) → List Int
  | _, [] => []
  | first, r :: rs => lineB de qu en first r ++ textB de qu en false rs
theorem written_wrote (de qu : Int) (alone first : Bool) (f : List Int) : Wrote de qu f (writtenB de qu alone first f) := by
  unfold writtenB
  split
  · exact .inl rfl
  · rename_i h
    refine .inr ⟨rfl, fun b hb => ?_⟩
    simp only [whyB, Bool.or_eq_true, not_or, List.contains_iff_mem] at h
    obtain ⟨⟨⟨⟨⟨h1, h2⟩, h3⟩, h4⟩, _⟩, _⟩ := h
    exact ⟨fun e => h1 (e ▸ hb), fun e => h2 (e ▸ hb), fun e => h4 (e ▸ hb), fun e => h3 (e ▸ hb)⟩
theorem written_alone (de qu : Int) (first : Bool) (f : List Int) : writtenB de qu true first f ≠ [] := by
  unfold writtenB
  split
  · simp [quotedB]
  · rename_i h
    intro e
    subst e
    simp [whyB] at h
theorem go_rest {de qu en : Int} (hd : okD de qu en) : ∀ (fs : List (List Int)) (f : List Int) (r : List ByteArray) (g c w : Int) (rows : List (List ByteArray)) (st : Int), (st = 1 ∨ st = 2 ∨ st = 4 ∨ (st = 0 ∧ fs ≠ [])) → (0 ≤ g ∧ g + (fs.length : Int) ≤ 20000000) → (0 ≤ c ∧ c ≤ 10000000) →
    (∀ x ∈ fs, x.length ≤ 1000000) → r.length + fs.length ≤ 1000000 →
    ∃ w', goC de qu en ⟨st, WM f r g c w, rows⟩ (restB de qu fs ++ endB en) = some ⟨0, WM [] [] (upB (st == 0) g) (c + 1) w', rows ++ [r ++ [strOfNums f] ++ fs.map strOfNums]⟩
  | [], f, r, g, c, w, rows, st, hs, hg, hc, hl, hr => by
    have hs' : st = 1 ∨ st = 2 ∨ st = 4 := by rcases hs with h | h | h | h; exact .inl h; exact .inr (.inl h); exact .inr (.inr h); exact absurd rfl h.2
    obtain ⟨w', hw⟩ := go_end hd f r g c w rows ⟨hc.1, by omega⟩ hs'
    refine ⟨w', ?_⟩
    have e : upB (st == 0) g = g := by rcases hs' with rfl | rfl | rfl <;> rfl
    rw [e]
    simpa [restB] using hw
  | x :: fs, f, r, g, c, w, rows, st, hs, hg, hc, hl, hr => by
    have hs' : st = 0 ∨ st = 1 ∨ st = 2 ∨ st = 4 := by rcases hs with h | h | h | h; exact .inr (.inl h); exact .inr (.inr (.inl h)); exact .inr (.inr (.inr h)); exact .inl h.1
    simp only [List.length_cons] at hr hg
    have hx := hl x (List.mem_cons_self ..)
    have hg1 := upB_le (bg := st == 0) (g := g)
    have e : restB de qu (x :: fs) ++ endB en = de :: (writtenB de qu false false x ++ (restB de qu fs ++ endB en)) := by simp [restB]
    rw [e, goC_cons (go1_of (sc_delim hd hs') (tk_field f r g c w 0 (st == 0) (by omega) hg.1 (by omega))), if_neg (by decide), goC_app]
    obtain ⟨st', hw, hst'⟩ := go_wrote hd (r ++ [strOfNums f]) (upB (st == 0) g) c w rows ⟨by omega, by omega⟩ (st := 1) (.inr rfl) x (writtenB de qu false false x) (written_wrote ..) (by omega)
    have hst1 : st' = 1 ∨ st' = 2 ∨ st' = 4 := by rcases hst' with h | h | h | h; exact .inl h; exact .inr (.inl h); exact .inr (.inr h); exact absurd h.2.1 (by decide)
    have h0 : ¬ st' = 0 := by omega
    rw [if_neg h0, show upB ((1 : Int) == 0) (upB (st == 0) g) = upB (st == 0) g from rfl] at hw
    rw [hw, Option.bind_some]
    obtain ⟨w', hw'⟩ := go_rest hd fs x (r ++ [strOfNums f]) (upB (st == 0) g) c w rows st' (by rcases hst1 with h | h | h; exact .inl h; exact .inr (.inl h); exact .inr (.inr (.inl h))) ⟨by omega, by omega⟩ hc (fun y hy => hl y (List.mem_cons_of_mem _ hy)) (by rw [List.length_append]; simp; omega)
    refine ⟨w', ?_⟩
    have e0 : (st' == 0) = false := by simp [h0]
    rw [hw', e0]
    simp [upB]
theorem go_line {de qu en : Int} (hd : okD de qu en) (first : Bool) (r : List (List Int)) (hn : r ≠ []) (g c w : Int) (rows : List (List ByteArray)) (hg : 0 ≤ g ∧ g ≤ 10000000) (hc : 0 ≤ c ∧ c ≤ 10000000) (hl : ∀ x ∈ r, x.length ≤ 1000000) (hr : r.length ≤ 1000000) :
    ∃ w', goC de qu en ⟨0, WM [] [] g c w, rows⟩ (lineB de qu en first r) = some ⟨0, WM [] [] (g + 1) (c + 1) w', rows ++ [r.map strOfNums]⟩ := by
  match r, hn with
  | f :: fs, _ =>
    simp only [List.length_cons] at hr
    have hx := hl f (List.mem_cons_self ..)
    rw [lineB, goC_app]
    obtain ⟨st', hw, hst'⟩ := go_wrote hd [] g c w rows ⟨by omega, by omega⟩ (st := 0) (.inl rfl) f (writtenB de qu fs.isEmpty first f) (written_wrote ..) (by omega)
    rw [hw, Option.bind_some]
    have hs : st' = 1 ∨ st' = 2 ∨ st' = 4 ∨ (st' = 0 ∧ fs ≠ []) := by
      rcases hst' with h | h | h | h
      · exact .inl h
      · exact .inr (.inl h)
      · exact .inr (.inr (.inl h))
      · refine .inr (.inr (.inr ⟨h.1, fun e => ?_⟩))
        subst e
        exact written_alone _ _ _ _ h.2.2
    have hg1 : upB ((0 : Int) == 0) g = g + 1 := rfl
    rw [hg1]
    obtain ⟨w', hw'⟩ := go_rest hd fs f [] (if st' = 0 then g else g + 1) c w rows st' hs (by split <;> omega) hc (fun y hy => hl y (List.mem_cons_of_mem _ hy)) (by rw [List.length_nil]; omega)
    refine ⟨w', ?_⟩
    rw [hw']
    have e : upB (st' == 0) (if st' = 0 then g else g + 1) = g + 1 := by
      by_cases h : st' = 0
      · subst h; rfl
      · have e0 : (st' == 0) = false := by simp [h]
        rw [e0, if_neg h]; rfl
    rw [e]
    simp
end Go.Proofs.YtmignbhpofmgeaaDoor.Top
namespace Go.Proofs.YtmignbhpofmgeaaDoor.Top
open Go.RowKit Go.Proofs.YtmignbhpofmgeaaDoorW.PrintWords Go.Proofs.YtmignbhpofmgeaaDoorW.PrintLast Go.Proofs.YtmignbhpofmgeaaDoorW.PrintMore Go.Proofs.YtmignbhpofmgeaaDoor.Iter
set_option linter.unusedVariables false
set_option linter.unusedSimpArgs false
def SmallR (rs : List (List (List Int))) : Prop := ∀ r ∈ rs, r ≠ [] ∧ r.length ≤ 1000000 ∧ ∀ x ∈ r, x.length ≤ 1000000
theorem go_text {de qu en : Int} (hd : okD de qu en) : ∀ (rs : List (List (List Int))) (first : Bool) (g c w : Int) (rows : List (List ByteArray)), SmallR rs → (0 ≤ g ∧ g + (rs.length : Int) ≤ 10000000) → (0 ≤ c ∧ c + (rs.length : Int) ≤ 10000000) →
    ∃ g' c' w', goC de qu en ⟨0, WM [] [] g c w, rows⟩ (textB de qu en first rs) = some ⟨0, WM [] [] g' c' w', rows ++ rs.map (fun r => r.map strOfNums)⟩ ∧ 0 ≤ g' ∧ g' ≤ 10000000
  | [], first, g, c, w, rows, _, hg, hc => ⟨g, c, w, by simp [textB, goC], hg.1, by have := hg.2; simp at this; omega⟩
  | r :: rs, first, g, c, w, rows, h, hg, hc => by
    simp only [List.length_cons] at hg hc
    obtain ⟨h1, h2, h3⟩ := h r (List.mem_cons_self ..)
    obtain ⟨w1, hw⟩ := go_line hd first r h1 g c w rows ⟨hg.1, by omega⟩ ⟨hc.1, by omega⟩ h3 h2
    obtain ⟨g', c', w', hg', k1, k2⟩ := go_text hd rs false (g + 1) (c + 1) w1 (rows ++ [r.map strOfNums]) (fun x hx => h x (List.mem_cons_of_mem _ hx)) ⟨by omega, by omega⟩ ⟨by omega, by omega⟩
    refine ⟨g', c', w', ?_, k1, k2⟩
    rw [textB, goC_app, hw, Option.bind_some, hg']
    simp
theorem runU_ascii {b : Int} (h0 : 0 ≤ b) (h1 : b ≤ 127) (bs : List Int) : runU 0 (b :: bs) = runU 0 bs := by
  rw [runU, ascii_step h0 h1]; rfl
theorem runU_cat {xs : List Int} (h : runU 0 xs = some 0) (ys : List Int) : runU 0 (xs ++ ys) = runU 0 ys := by
  rw [runU_app, h]; rfl
theorem runU_dup {qu : Int} (hq : 0 ≤ qu ∧ qu ≤ 127) : ∀ (f : List Int) (u v : Nat), u < 8 → runU u f = some v → runU u (dupB qu f) = some v
  | [], u, v, hu, h => h
  | b :: bs, u, v, hu, h => by
    rw [runU] at h
    split at h
    · rename_i hs
      have hl := stepU_lt u b
      have ih := runU_dup hq bs _ v (by omega) h
      by_cases hb : b = qu
      · subst hb
        have e : dupB b (b :: bs) = b :: b :: dupB b bs := by simp [dupB]
        obtain ⟨e0, e1⟩ := step_ascii hu hq.1 hq.2 hs
        subst e0
        rw [e, runU_ascii hq.1 hq.2, runU_ascii hq.1 hq.2]
        rw [e1] at ih
        exact ih
      · have e : dupB qu (b :: bs) = b :: dupB qu bs := by simp [dupB, hb]
        rw [e, runU, if_pos hs]
        exact ih
    · cases h
theorem runU_written {de qu : Int} (hq : 0 ≤ qu ∧ qu ≤ 127) (alone first : Bool) {f : List Int} (h : runU 0 f = some 0) : runU 0 (writtenB de qu alone first f) = some 0 := by
  unfold writtenB
  split
  · unfold quotedB
    rw [runU_ascii hq.1 hq.2, runU_cat (runU_dup hq f 0 0 (by decide) h), runU_ascii hq.1 hq.2]
    rfl
  · exact h
theorem runU_rest {de qu : Int} (hde : 0 ≤ de ∧ de ≤ 127) (hq : 0 ≤ qu ∧ qu ≤ 127) : ∀ (fs : List (List Int)), (∀ f ∈ fs, runU 0 f = some 0) → runU 0 (restB de qu fs) = some 0
  | [], h => rfl
  | f :: fs, h => by
    have e : restB de qu (f :: fs) = de :: (writtenB de qu false false f ++ restB de qu fs) := by simp [restB]
    rw [e, runU_ascii hde.1 hde.2, runU_cat (runU_written hq _ _ (h f (List.mem_cons_self ..)))]
    exact runU_rest hde hq fs (fun x hx => h x (List.mem_cons_of_mem _ hx))
theorem runU_end (en : Int) : runU 0 (endB en) = some 0 := by
  unfold endB
  split <;> decide
theorem runU_line {de qu en : Int} (hde : 0 ≤ de ∧ de ≤ 127) (hq : 0 ≤ qu ∧ qu ≤ 127) (first : Bool) (r : List (List Int)) (h : ∀ f ∈ r, runU 0 f = some 0) : runU 0 (lineB de qu en first r) = some 0 := by
  match r with
  | [] => exact runU_end en
  | f :: fs =>
    rw [lineB, runU_cat (runU_written hq _ _ (h f (List.mem_cons_self ..))), runU_cat (runU_rest hde hq fs (fun x hx => h x (List.mem_cons_of_mem _ hx)))]
    exact runU_end en
theorem runU_text {de qu en : Int} (hde : 0 ≤ de ∧ de ≤ 127) (hq : 0 ≤ qu ∧ qu ≤ 127) : ∀ (rs : List (List (List Int))) (first : Bool), (∀ r ∈ rs, ∀ f ∈ r, runU 0 f = some 0) → runU 0 (textB de qu en first rs) = some 0
  | [], first, h => rfl
  | r :: rs, first, h => by
    rw [textB, runU_cat (runU_line hde hq first r (h r (List.mem_cons_self ..)))]
    exact runU_text hde hq rs false (fun x hx => h x (List.mem_cons_of_mem _ hx))
/-- What is written begins with no mark. -/
theorem no_mark {de qu : Int} (hq : 0 ≤ qu ∧ qu ≤ 127) (alone : Bool) (f : List Int) (c : Int) (rest : List Int) (hc : 0 ≤ c ∧ c ≤ 127) : (feedSL s0 (writtenB de qu alone true f ++ c :: rest)).2 = writtenB de qu alone true f ++ c :: rest := by
  obtain ⟨X, hX⟩ : ∃ X, writtenB de qu alone true f ++ c :: rest = X := ⟨_, rfl⟩
  rw [hX]
  have key : ¬ (∃ ys, X = bomMark ++ ys) ∧ ∀ k, k ≤ 2 → X ≠ bomMark.take k := by
    have hnil : X ≠ [] := by rw [← hX]; simp
    have hhead : ∀ a l, X = a :: l → a ≤ 127 → ¬ (∃ ys, X = bomMark ++ ys) ∧ ∀ k, k ≤ 2 → X ≠ bomMark.take k := by
      intro a l e ha
      refine ⟨?_, ?_⟩
      · rintro ⟨ys, hy⟩
        rw [e] at hy
        simp [bomMark] at hy
        omega
      · intro k hk hy
        have hk' : k = 0 ∨ k = 1 ∨ k = 2 := by omega
        rw [e] at hy
        rcases hk' with rfl | rfl | rfl
        · simp at hy
        · simp [bomMark] at hy; omega
        · simp [bomMark] at hy; omega
    by_cases hw : whyB de qu alone true f = true
    · have e : writtenB de qu alone true f = qu :: (dupB qu f ++ [qu]) := by unfold writtenB; rw [if_pos hw]; rfl
      rw [e] at hX
      exact hhead qu _ hX.symm hq.2
    · have e : writtenB de qu alone true f = f := by unfold writtenB; rw [if_neg hw]
      rw [e] at hX
      have hp : ¬ bomMark.isPrefixOf f = true := by
        intro h
        apply hw
        simp [whyB, h]
      match f, hp, hX with
      | [], _, hX => exact hhead c rest hX.symm hc.2
      | [a], _, hX =>
        refine ⟨?_, ?_⟩
        · rintro ⟨ys, hy⟩
          rw [← hX] at hy
          simp [bomMark] at hy
          omega
        · intro k hk hy
          have hk' : k = 0 ∨ k = 1 ∨ k = 2 := by omega
          rw [← hX] at hy
          rcases hk' with rfl | rfl | rfl
          · simp at hy
          · simp [bomMark] at hy
          · simp [bomMark] at hy; omega
      | [a, b], _, hX =>
        refine ⟨?_, ?_⟩
        · rintro ⟨ys, hy⟩
          rw [← hX] at hy
          simp [bomMark] at hy
          omega
        · intro k hk hy
          have hk' : k = 0 ∨ k = 1 ∨ k = 2 := by omega
          rw [← hX] at hy
          rcases hk' with rfl | rfl | rfl
          · simp at hy
          · simp [bomMark] at hy
          · simp [bomMark] at hy
      | a :: b :: d :: f', hp, hX =>
        refine ⟨?_, ?_⟩
        · rintro ⟨ys, hy⟩
          rw [← hX] at hy
          simp [bomMark] at hy
          apply hp
          simp [bomMark, hy.1, hy.2.1, hy.2.2.1]
        · intro k hk hy
          have hk' : k = 0 ∨ k = 1 ∨ k = 2 := by omega
          rw [← hX] at hy
          rcases hk' with rfl | rfl | rfl
          · simp at hy
          · simp [bomMark] at hy
          · simp [bomMark] at hy
  rcases feedSL_all X with ⟨ys, e, _⟩ | ⟨k, hk, e, _⟩ | ⟨_, e⟩
  · exact absurd ⟨ys, e⟩ key.1
  · exact absurd e (key.2 k hk)
  · exact e
theorem end_head (en : Int) : ∃ c l, endB en = c :: l ∧ 0 ≤ c ∧ c ≤ 127 := by
  unfold endB
  split
  · exact ⟨13, [10], rfl, by decide, by decide⟩
  · exact ⟨10, [], rfl, by decide, by decide⟩
theorem text_no_mark {de qu en : Int} (hd : okD de qu en) (rs : List (List (List Int))) : (feedSL s0 (textB de qu en true rs)).2 = textB de qu en true rs := by
  obtain ⟨d0, d1, _, _, q0, q1, _, _, _, _⟩ := hd
  obtain ⟨c, l, he, hc⟩ := end_head en
  match rs with
  | [] => rfl
  | [] :: rs =>
    have e : textB de qu en true ([] :: rs) = c :: (l ++ textB de qu en false rs) := by rw [textB, lineB, he]; rfl
    rw [e]
    exact no_mark (de := 0) (qu := 1) (by decide) false [] c _ hc
  | (f :: fs) :: rs =>
    match fs with
    | [] =>
      have e : textB de qu en true ([f] :: rs) = writtenB de qu true true f ++ c :: (l ++ textB de qu en false rs) := by
        rw [textB, lineB]
        simp [restB, he]
      rw [e]
      exact no_mark ⟨q0, q1⟩ _ f c _ hc
    | f2 :: fs =>
      have e : textB de qu en true ((f :: f2 :: fs) :: rs) = writtenB de qu false true f ++ de :: (writtenB de qu false false f2 ++ (restB de qu fs ++ (endB en ++ textB de qu en false rs))) := by
        rw [textB, lineB]
        simp [restB]
      rw [e]
      exact no_mark ⟨q0, q1⟩ _ f de _ ⟨d0, d1⟩
theorem strOf_bytes (x : ByteArray) : strOfNums (Top.bytesOf x) = x := by
  unfold strOfNums Top.bytesOf
  rw [List.map_map]
  have : (x.data.toList.map ((fun n : Int => UInt8.ofNat n.toNat) ∘ fun b => (b.toNat : Int))) = x.data.toList := by
    conv => rhs; rw [← List.map_id x.data.toList]
    refine List.map_congr_left fun b _ => ?_
    show UInt8.ofNat (b.toNat : Int).toNat = b
    simp
  rw [this]
/-- A table's fields as bytes. -/
def numsT (t : List (List ByteArray)) : List (List (List Int)) := t.map (fun r => r.map Top.bytesOf)
/-- What was written is read as it was. -/
theorem second_reading {de qu en : Int} (hd : okD de qu en) (t : List (List ByteArray)) (ht : OkT t) (hl : t.length ≤ 1000000) (hr : ∀ r ∈ t, r.length ≤ 1000000 ∧ ∀ x ∈ r, x.size ≤ 1000000) (x : ByteArray) (hx : Top.bytesOf x = textB de qu en true (numsT t)) :
    (finR de qu en 2147483648 2147483648 2147483648 false x).fk = 0 ∧ (finR de qu en 2147483648 2147483648 2147483648 false x).fat = 0 ∧ (finR de qu en 2147483648 2147483648 2147483648 false x).ready = t := by
  have hd' := hd
  obtain ⟨d0, d1, _, _, q0, q1, _, _, _, _⟩ := hd'
  obtain ⟨r0, hr0⟩ : ∃ r0, initR de qu en 2147483648 2147483648 2147483648 false = r0 := ⟨_, rfl⟩
  unfold finR
  rw [hr0]
  have h00 : r0.fk = 0 := by rw [← hr0]; rfl
  have h01 : r0.fat = 0 := by rw [← hr0]; rfl
  have hc0 : r0.closed = false := by rw [← hr0]; rfl
  have hm0 : r0.mark = s0 := by rw [← hr0]; rfl
  have hu0 : r0.utf = 0 := by rw [← hr0]; rfl
  have hd0 : r0.de = de ∧ r0.qu = qu ∧ r0.en = en := by rw [← hr0]; exact ⟨rfl, rfl, rfl⟩
  have hcore : r0.core = ⟨0, WM [] [] 0 0 0, []⟩ := by rw [← hr0]; rfl
  obtain ⟨r, hr'⟩ : ∃ r, feedL (Top.bytesOf x) r0 = r := ⟨_, rfl⟩
  have hrc : r.closed = false := by rw [← hr', (feedL_fk _ _).2, hc0]
  have hfat := (feedL_fk (Top.bytesOf x) r0).1
  have hg := feedL_go (Top.bytesOf x) r0 h00
  rw [hr'] at hg hfat ⊢
  rw [hm0, hd0.1, hd0.2.1, hd0.2.2, hu0, hcore, hx, text_no_mark hd] at hg
  have hsm : SmallR (numsT t) := by
    intro rr hrr
    obtain ⟨r1, h1, rfl⟩ := List.mem_map.1 hrr
    refine ⟨fun e => (ht r1 h1).1 (List.map_eq_nil_iff.1 e), by rw [List.length_map]; exact (hr r1 h1).1, fun y hy => ?_⟩
    obtain ⟨y1, h2, rfl⟩ := List.mem_map.1 hy
    rw [bytesOf_len]
    exact (hr r1 h1).2 y1 h2
  have hlen : (numsT t).length = t.length := List.length_map ..
  obtain ⟨g', c', w', hgo, k1, k2⟩ := go_text hd (numsT t) true 0 0 0 [] hsm ⟨Int.le_refl _, by rw [hlen]; omega⟩ ⟨Int.le_refl _, by rw [hlen]; omega⟩
  have hru : runU 0 (textB de qu en true (numsT t)) = some 0 := by
    refine runU_text ⟨d0, d1⟩ ⟨q0, q1⟩ _ _ fun rr hrr f hf => ?_
    obtain ⟨r1, h1, rfl⟩ := List.mem_map.1 hrr
    obtain ⟨y1, h2, rfl⟩ := List.mem_map.1 hf
    exact (ht r1 h1).2 y1 h2
  have hback : (numsT t).map (fun r => r.map strOfNums) = t := by
    unfold numsT
    rw [List.map_map]
    conv => rhs; rw [← List.map_id t]
    refine List.map_congr_left fun r1 _ => ?_
    show (r1.map Top.bytesOf).map strOfNums = r1
    rw [List.map_map]
    conv => rhs; rw [← List.map_id r1]
    exact List.map_congr_left fun y _ => strOf_bytes y
  rw [hback, List.nil_append] at hgo
  rw [hru, hgo] at hg
  have hk := hg.1.2 ⟨rfl, rfl⟩
  obtain ⟨e1, e2, _⟩ := hg.2 hk
  have hu : r.utf = 0 := (Option.some.inj e1).symm
  have hrcore : r.core = ⟨0, WM [] [] g' c' w', t⟩ := (Option.some.inj e2).symm
  have hst : r.state = 0 := by have := congrArg Core.st hrcore; exact this
  have e3 : closeSc 0 = (⟨false, false, false, false, false, 0⟩, 0) := by simp [closeSc, PTopSticky.scan_Close.f]
  have hE : goE (closeSc r.state).1 (closeSc r.state).2 r.state r.core = some ⟨0, WM [] [] g' c' w', t⟩ := by
    rw [hst, e3, hrcore]
    unfold goE
    dsimp only
    rw [tk_begin [] [] g' c' w' 0 false k1 (by omega)]
    simp [upB]
  obtain ⟨z1, z2, z3⟩ := (closeR_go r hrc hk).2 hu (by rw [hE]; rfl)
  rw [hE] at z3
  have z4 := congrArg Core.rows (Option.some.inj z3)
  exact ⟨z1, by rw [z2, hfat hk, h01], z4.symm⟩
end Go.Proofs.YtmignbhpofmgeaaDoor.Top
namespace Go.Proofs.YtmignbhpofmgeaaDoor.XOther
open Go.RowKit Go.Proofs.YtmignbhpofmgeaaDoorW.PrintWords Go.Proofs.YtmignbhpofmgeaaDoorW.PrintLast Go.Proofs.YtmignbhpofmgeaaDoorW.PrintMore
attribute [local go_sem] max2_int min2_int max_two min_two max_three min_three max_four min_four   -- for this text's walks alone
set_option linter.unusedVariables false
set_option linter.unusedSimpArgs false
def errW : Option Int → Value
  | none => .nilIface
  | some c => .iface 0 (.int .i64 c)
theorem errW_none : errW none = .nilIface := rfl
theorem errW_some (c : Int) : errW (some c) = .iface 0 (.int .i64 c) := rfl
theorem info9 : (Tryd.prog.info? 9).map (fun i => (i.zero, i.size, i.bytes)) = some (some (.string ⟨#[]⟩), 1, 16) := by kernel_rfl
def quillpenref02_put.f (a0 : Int) : Option (ByteArray) := if a0 < 128 then (some (strOfNums (([(a0) % 256] : List Int)))) else (if a0 < 2048 then (some (strOfNums (([(wrap64 (192 + (wrap64 (Int.tdiv a0 64)))) % 256, (wrap64 (128 + (Int.tmod a0 64))) % 256] : List Int)))) else (if a0 < 65536 then (some (strOfNums (([(wrap64 (224 + (wrap64 (Int.tdiv a0 4096)))) % 256, (wrap64 (128 + (Int.tmod (wrap64 (Int.tdiv a0 64)) 64))) % 256, (wrap64 (128 + (Int.tmod a0 64))) % 256] : List Int)))) else (some (strOfNums (([(wrap64 (240 + (wrap64 (Int.tdiv a0 262144)))) % 256, (wrap64 (128 + (Int.tmod (wrap64 (Int.tdiv a0 4096)) 64))) % 256, (wrap64 (128 + (Int.tmod (wrap64 (Int.tdiv a0 64)) 64))) % 256, (wrap64 (128 + (Int.tmod a0 64))) % 256] : List Int))))))
set_option maxHeartbeats 8000000 in
set_option maxRecDepth 100000 in
theorem quillpenref02_put.calls (a0 : Int) (r : ByteArray) (w : World) (h : quillpenref02_put.f a0 = some r) :
    Calls Tryd.prog 68 #[.int .i64 a0] w fun e w' => e = .returned (.string r) ∧ Below w.heap.size w w' := by
  have HB := Aside0.mk (Below.refl w.heap.size w)
  have H : (if a0 < 128 then (some (strOfNums (([(a0) % 256] : List Int)))) else (if a0 < 2048 then (some (strOfNums (([(wrap64 (192 + (wrap64 (Int.tdiv a0 64)))) % 256, (wrap64 (128 + (Int.tmod a0 64))) % 256] : List Int)))) else (if a0 < 65536 then (some (strOfNums (([(wrap64 (224 + (wrap64 (Int.tdiv a0 4096)))) % 256, (wrap64 (128 + (Int.tmod (wrap64 (Int.tdiv a0 64)) 64))) % 256, (wrap64 (128 + (Int.tmod a0 64))) % 256] : List Int)))) else (some (strOfNums (([(wrap64 (240 + (wrap64 (Int.tdiv a0 262144)))) % 256, (wrap64 (128 + (Int.tmod (wrap64 (Int.tdiv a0 4096)) 64))) % 256, (wrap64 (128 + (Int.tmod (wrap64 (Int.tdiv a0 64)) 64))) % 256, (wrap64 (128 + (Int.tmod a0 64))) % 256] : List Int))))))) = some r := h
  clear h
  by_cases c2 : a0 < 128
  · rw [if_pos c2] at H
    have c2b0 : decide (a0 < 128) = true := decide_eq_true c2
    clear c2
    obtain ⟨y169, hy169⟩ : ∃ y_ : List Int, y_ = (([(a0) % 256] : List Int)) := ⟨_, rfl⟩
    replace H : (some (strOfNums y169)) = some r := by first | (rw [hy169]; with_reducible exact H) | (have H2_ := (Option.bind_some _ _).symm.trans H; rw [hy169]; with_reducible exact H2_) | (have H2_ := (Option.bind_some _ _).symm.trans H; with_reducible exact H2_) | with_reducible exact H | (rw [hy169]; exact H) | exact H
    have Ny169 := Aside0.mk hy169
    clear hy169
    obtain rfl := Option.some.inj H
    go_enter Tryd.func68, Tryd.ntmps68
    go_wp2_with (first | ((with_reducible refine gate_dst (N := 7) rfl ?_); refine Kd.R_lit (Kd.int .u8) _ 5 ?hg (N := 7) ?hd (xs := ([(a0) % 256] : List Int)) (inner := [.int .u8 ((a0) % 256)]) (ok := fun _ => True) (okp := fun _ => True) ?hr ?hp (fun _ hk => hk) trivial (Below.refl _ _) (Nat.le_refl _) (by simp) ?_; (case hd => rfl); (case hg => rfl); (case hr => first | (go_simp; done) | (go_simp; rfl)); (case hp => exact (Reps.one (show Kd.M (Kd.int .u8) _ _ _ ((a0) % 256) [.int .u8 ((a0) % 256)] from rfl) (Reps.none _ _))); intro v170 w3 ho4 hb hg_ hnew_; clear hg_ hnew_; (first | rw [← Ny169.out] at ho4 | (simp only [Int.reduceToNat] at ho4; rw [← Ny169.out] at ho4)); have n0_ := Aside0.mk (Kd.R_lower ho4 (below_size (by repeat (first | (with_reducible first | exact HB.out | apply below_alloc | apply pw_below_drewN | apply below_drew1) | exact HB.out)))); have n1_ := Aside0.mk (below_step (by repeat (first | (with_reducible first | exact HB.out | apply below_alloc | apply pw_below_drewN | apply below_drew1) | exact HB.out)) hb); clear HB; have HO171 := n0_; have HB := n1_; clear n0_ n1_; clear hb ho4; have hcv5 := own_string (P := Tryd.prog) Tryd.underlying37 Tryd.underlying5 Tryd.underlying9 (Kd.own_of_R HO171.out)))
    go_ret
    exact ⟨by first | rfl | (simp [errW_none, errW_some] <;> rfl) | (simp [*, errW_none, errW_some] <;> rfl), by repeat (first | (with_reducible first | exact HB.out | apply below_alloc | apply pw_below_drewN | apply below_drew1) | exact HB.out)⟩
  · rw [if_neg c2] at H
    have c2b0 : decide (a0 < 128) = false := decide_eq_false c2
    clear c2
    by_cases c6 : a0 < 2048
    · rw [if_pos c6] at H
      have c6b0 : decide (a0 < 2048) = true := decide_eq_true c6
      clear c6
      obtain ⟨y172, hy172⟩ : ∃ y_ : List Int, y_ = (([(wrap64 (192 + (wrap64 (Int.tdiv a0 64)))) % 256, (wrap64 (128 + (Int.tmod a0 64))) % 256] : List Int)) := ⟨_, rfl⟩
      replace H : (some (strOfNums y172)) = some r := by first | (rw [hy172]; with_reducible exact H) | (have H2_ := (Option.bind_some _ _).symm.trans H; rw [hy172]; with_reducible exact H2_) | (have H2_ := (Option.bind_some _ _).symm.trans H; with_reducible exact H2_) | with_reducible exact H | (rw [hy172]; exact H) | exact H
      have Ny172 := Aside0.mk hy172
      clear hy172
      obtain rfl := Option.some.inj H
      go_enter Tryd.func68, Tryd.ntmps68
      go_wp2_with (first | ((with_reducible refine gate_dst (N := 19) rfl ?_); refine Kd.R_lit (Kd.int .u8) _ 5 ?hg (N := 19) ?hd (xs := ([(wrap64 (192 + (wrap64 (Int.tdiv a0 64)))) % 256, (wrap64 (128 + (Int.tmod a0 64))) % 256] : List Int)) (inner := [.int .u8 ((wrap64 (192 + (wrap64 (Int.tdiv a0 64)))) % 256), .int .u8 ((wrap64 (128 + (Int.tmod a0 64))) % 256)]) (ok := fun _ => True) (okp := fun _ => True) ?hr ?hp (fun _ hk => hk) trivial (Below.refl _ _) (Nat.le_refl _) (by simp) ?_; (case hd => rfl); (case hg => rfl); (case hr => first | (go_simp; done) | (go_simp; rfl)); (case hp => exact (Reps.one (show Kd.M (Kd.int .u8) _ _ _ ((wrap64 (192 + (wrap64 (Int.tdiv a0 64)))) % 256) [.int .u8 ((wrap64 (192 + (wrap64 (Int.tdiv a0 64)))) % 256)] from rfl) (Reps.one (show Kd.M (Kd.int .u8) _ _ _ ((wrap64 (128 + (Int.tmod a0 64))) % 256) [.int .u8 ((wrap64 (128 + (Int.tmod a0 64))) % 256)] from rfl) (Reps.none _ _)))); intro v173 w7 ho8 hb hg_ hnew_; clear hg_ hnew_; (first | rw [← Ny172.out] at ho8 | (simp only [Int.reduceToNat] at ho8; rw [← Ny172.out] at ho8)); have n0_ := Aside0.mk (Kd.R_lower ho8 (below_size (by repeat (first | (with_reducible first | exact HB.out | apply below_alloc | apply pw_below_drewN | apply below_drew1) | exact HB.out)))); have n1_ := Aside0.mk (below_step (by repeat (first | (with_reducible first | exact HB.out | apply below_alloc | apply pw_below_drewN | apply below_drew1) | exact HB.out)) hb); clear HB; have HO174 := n0_; have HB := n1_; clear n0_ n1_; clear hb ho8; have hcv9 := own_string (P := Tryd.prog) Tryd.underlying37 Tryd.underlying5 Tryd.underlying9 (Kd.own_of_R HO174.out)))
      go_ret
      exact ⟨by first | rfl | (simp [errW_none, errW_some] <;> rfl) | (simp [*, errW_none, errW_some] <;> rfl), by repeat (first | (with_reducible first | exact HB.out | apply below_alloc | apply pw_below_drewN | apply below_drew1) | exact HB.out)⟩
    · rw [if_neg c6] at H
      have c6b0 : decide (a0 < 2048) = false := decide_eq_false c6
      clear c6
      by_cases c10 : a0 < 65536
      · rw [if_pos c10] at H
        have c10b0 : decide (a0 < 65536) = true := decide_eq_true c10
        clear c10
        obtain ⟨y175, hy175⟩ : ∃ y_ : List Int, y_ = (([(wrap64 (224 + (wrap64 (Int.tdiv a0 4096)))) % 256, (wrap64 (128 + (Int.tmod (wrap64 (Int.tdiv a0 64)) 64))) % 256, (wrap64 (128 + (Int.tmod a0 64))) % 256] : List Int)) := ⟨_, rfl⟩
        replace H : (some (strOfNums y175)) = some r := by first | (rw [hy175]; with_reducible exact H) | (have H2_ := (Option.bind_some _ _).symm.trans H; rw [hy175]; with_reducible exact H2_) | (have H2_ := (Option.bind_some _ _).symm.trans H; with_reducible exact H2_) | with_reducible exact H | (rw [hy175]; exact H) | exact H
        have Ny175 := Aside0.mk hy175
        clear hy175
        obtain rfl := Option.some.inj H
        go_enter Tryd.func68, Tryd.ntmps68
        go_wp2_with (first | ((with_reducible refine gate_dst (N := 36) rfl ?_); refine Kd.R_lit (Kd.int .u8) _ 5 ?hg (N := 36) ?hd (xs := ([(wrap64 (224 + (wrap64 (Int.tdiv a0 4096)))) % 256, (wrap64 (128 + (Int.tmod (wrap64 (Int.tdiv a0 64)) 64))) % 256, (wrap64 (128 + (Int.tmod a0 64))) % 256] : List Int)) (inner := [.int .u8 ((wrap64 (224 + (wrap64 (Int.tdiv a0 4096)))) % 256), .int .u8 ((wrap64 (128 + (Int.tmod (wrap64 (Int.tdiv a0 64)) 64))) % 256), .int .u8 ((wrap64 (128 + (Int.tmod a0 64))) % 256)]) (ok := fun _ => True) (okp := fun _ => True) ?hr ?hp (fun _ hk => hk) trivial (Below.refl _ _) (Nat.le_refl _) (by simp) ?_; (case hd => rfl); (case hg => rfl); (case hr => first | (go_simp; done) | (go_simp; rfl)); (case hp => exact (Reps.one (show Kd.M (Kd.int .u8) _ _ _ ((wrap64 (224 + (wrap64 (Int.tdiv a0 4096)))) % 256) [.int .u8 ((wrap64 (224 + (wrap64 (Int.tdiv a0 4096)))) % 256)] from rfl) (Reps.one (show Kd.M (Kd.int .u8) _ _ _ ((wrap64 (128 + (Int.tmod (wrap64 (Int.tdiv a0 64)) 64))) % 256) [.int .u8 ((wrap64 (128 + (Int.tmod (wrap64 (Int.tdiv a0 64)) 64))) % 256)] from rfl) (Reps.one (show Kd.M (Kd.int .u8) _ _ _ ((wrap64 (128 + (Int.tmod a0 64))) % 256) [.int .u8 ((wrap64 (128 + (Int.tmod a0 64))) % 256)] from rfl) (Reps.none _ _))))); intro v176 w11 ho12 hb hg_ hnew_; clear hg_ hnew_; (first | rw [← Ny175.out] at ho12 | (simp only [Int.reduceToNat] at ho12; rw [← Ny175.out] at ho12)); have n0_ := Aside0.mk (Kd.R_lower ho12 (below_size (by repeat (first | (with_reducible first | exact HB.out | apply below_alloc | apply pw_below_drewN | apply below_drew1) | exact HB.out)))); have n1_ := Aside0.mk (below_step (by repeat (first | (with_reducible first | exact HB.out | apply below_alloc | apply pw_below_drewN | apply below_drew1) | exact HB.out)) hb); clear HB; have HO177 := n0_; have HB := n1_; clear n0_ n1_; clear hb ho12; have hcv13 := own_string (P := Tryd.prog) Tryd.underlying37 Tryd.underlying5 Tryd.underlying9 (Kd.own_of_R HO177.out)))
        go_ret
        exact ⟨by first | rfl | (simp [errW_none, errW_some] <;> rfl) | (simp [*, errW_none, errW_some] <;> rfl), by repeat (first | (with_reducible first | exact HB.out | apply below_alloc | apply pw_below_drewN | apply below_drew1) | exact HB.out)⟩
      · rw [if_neg c10] at H
        have c10b0 : decide (a0 < 65536) = false := decide_eq_false c10
        clear c10
        obtain ⟨y178, hy178⟩ : ∃ y_ : List Int, y_ = (([(wrap64 (240 + (wrap64 (Int.tdiv a0 262144)))) % 256, (wrap64 (128 + (Int.tmod (wrap64 (Int.tdiv a0 4096)) 64))) % 256, (wrap64 (128 + (Int.tmod (wrap64 (Int.tdiv a0 64)) 64))) % 256, (wrap64 (128 + (Int.tmod a0 64))) % 256] : List Int)) := ⟨_, rfl⟩
        replace H : (some (strOfNums y178)) = some r := by first | (rw [hy178]; with_reducible exact H) | (have H2_ := (Option.bind_some _ _).symm.trans H; rw [hy178]; with_reducible exact H2_) | (have H2_ := (Option.bind_some _ _).symm.trans H; with_reducible exact H2_) | with_reducible exact H | (rw [hy178]; exact H) | exact H
        have Ny178 := Aside0.mk hy178
        clear hy178
        obtain rfl := Option.some.inj H
        go_enter Tryd.func68, Tryd.ntmps68
        go_wp2_with (first | ((with_reducible refine gate_dst (N := 56) rfl ?_); refine Kd.R_lit (Kd.int .u8) _ 5 ?hg (N := 56) ?hd (xs := ([(wrap64 (240 + (wrap64 (Int.tdiv a0 262144)))) % 256, (wrap64 (128 + (Int.tmod (wrap64 (Int.tdiv a0 4096)) 64))) % 256, (wrap64 (128 + (Int.tmod (wrap64 (Int.tdiv a0 64)) 64))) % 256, (wrap64 (128 + (Int.tmod a0 64))) % 256] : List Int)) (inner := [.int .u8 ((wrap64 (240 + (wrap64 (Int.tdiv a0 262144)))) % 256), .int .u8 ((wrap64 (128 + (Int.tmod (wrap64 (Int.tdiv a0 4096)) 64))) % 256), .int .u8 ((wrap64 (128 + (Int.tmod (wrap64 (Int.tdiv a0 64)) 64))) % 256), .int .u8 ((wrap64 (128 + (Int.tmod a0 64))) % 256)]) (ok := fun _ => True) (okp := fun _ => True) ?hr ?hp (fun _ hk => hk) trivial (Below.refl _ _) (Nat.le_refl _) (by simp) ?_; (case hd => rfl); (case hg => rfl); (case hr => first | (go_simp; done) | (go_simp; rfl)); (case hp => exact (Reps.one (show Kd.M (Kd.int .u8) _ _ _ ((wrap64 (240 + (wrap64 (Int.tdiv a0 262144)))) % 256) [.int .u8 ((wrap64 (240 + (wrap64 (Int.tdiv a0 262144)))) % 256)] from rfl) (Reps.one (show Kd.M (Kd.int .u8) _ _ _ ((wrap64 (128 + (Int.tmod (wrap64 (Int.tdiv a0 4096)) 64))) % 256) [.int .u8 ((wrap64 (128 + (Int.tmod (wrap64 (Int.tdiv a0 4096)) 64))) % 256)] from rfl) (Reps.one (show Kd.M (Kd.int .u8) _ _ _ ((wrap64 (128 + (Int.tmod (wrap64 (Int.tdiv a0 64)) 64))) % 256) [.int .u8 ((wrap64 (128 + (Int.tmod (wrap64 (Int.tdiv a0 64)) 64))) % 256)] from rfl) (Reps.one (show Kd.M (Kd.int .u8) _ _ _ ((wrap64 (128 + (Int.tmod a0 64))) % 256) [.int .u8 ((wrap64 (128 + (Int.tmod a0 64))) % 256)] from rfl) (Reps.none _ _)))))); intro v179 w14 ho15 hb hg_ hnew_; clear hg_ hnew_; (first | rw [← Ny178.out] at ho15 | (simp only [Int.reduceToNat] at ho15; rw [← Ny178.out] at ho15)); have n0_ := Aside0.mk (Kd.R_lower ho15 (below_size (by repeat (first | (with_reducible first | exact HB.out | apply below_alloc | apply pw_below_drewN | apply below_drew1) | exact HB.out)))); have n1_ := Aside0.mk (below_step (by repeat (first | (with_reducible first | exact HB.out | apply below_alloc | apply pw_below_drewN | apply below_drew1) | exact HB.out)) hb); clear HB; have HO180 := n0_; have HB := n1_; clear n0_ n1_; clear hb ho15; have hcv16 := own_string (P := Tryd.prog) Tryd.underlying37 Tryd.underlying5 Tryd.underlying9 (Kd.own_of_R HO180.out)))
        go_ret
        exact ⟨by first | rfl | (simp [errW_none, errW_some] <;> rfl) | (simp [*, errW_none, errW_some] <;> rfl), by repeat (first | (with_reducible first | exact HB.out | apply below_alloc | apply pw_below_drewN | apply below_drew1) | exact HB.out)⟩
end Go.Proofs.YtmignbhpofmgeaaDoor.XOther
