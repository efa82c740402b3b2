/- What the proof of quillpentop.TopOther rests on: the kit's words as print.sh lays them for this seat, the functions' contracts, the plain laws (part 8 of 9, put together by wip/tools/shake.py). -/
import Derived.Test.YtmignbhpofmgeaaDoorS6
namespace Go.Proofs.YtmignbhpofmgeaaDoor.Top
open Go.RowKit Go.Proofs.YtmignbhpofmgeaaDoorW.PrintWords Go.Proofs.YtmignbhpofmgeaaDoorW.PrintLast Go.Proofs.YtmignbhpofmgeaaDoorW.PrintMore Go.Proofs.YtmignbhpofmgeaaDoor.Iter
set_option linter.unusedVariables false
set_option linter.unusedSimpArgs false
def rightD (de qu en : Int) : Bool := okB de && okB qu && (decide (de ≠ qu) && (decide (en = 1) || (decide (en = 2) || decide (en = 3))))
theorem okD_of {de qu en : Int} (h : rightD de qu en = true) : okD de qu en := by
  unfold rightD at h
  simp only [Bool.and_eq_true, Bool.or_eq_true, decide_eq_true_eq] at h
  obtain ⟨⟨h1, h2⟩, h3, h4⟩ := h
  obtain ⟨a1, a2, a3, a4⟩ := okB_whole h1
  obtain ⟨b1, b2, b3, b4⟩ := okB_whole h2
  exact ⟨by omega, by omega, by simpa using a3, by simpa using a4, by omega, by omega, by simpa using b3, by simpa using b4, h3, h4⟩
theorem ref_calls (de qu en : Int) (hd : 0 ≤ de ∧ de ≤ 255) (hq : 0 ≤ qu ∧ qu ≤ 255) (w : World) : Calls Tryd.prog 17 #[.agg #[.int .u8 de, .int .u8 qu, .int .i64 en]] w fun e w' => e = .returned (.agg #[.int .i64 de, .int .i64 qu, .int .i64 en]) ∧ Acts (fun _ => False) w w' := by
  have h := PTopSticky.quillpenlaw01_Ref.calls de qu en de qu en w (by unfold PTopSticky.quillpenlaw01_Ref.f; rw [w64 (by omega) (by omega), w64 (by omega) (by omega)])
  exact h.mono fun e w' hw => ⟨hw.1, Acts.of_below hw.2⟩
theorem rightd_calls (de qu en : Int) (w : World) : Calls Tryd.prog 16 #[.agg #[.int .i64 de, .int .i64 qu, .int .i64 en]] w fun e w' => e = .returned (.bool (rightD de qu en)) ∧ Acts (fun _ => False) w w' :=
  (quillpenref01_Right.calls de qu en _ w rfl).mono fun e w' hw => ⟨hw.1, Acts.of_below hw.2⟩
theorem lits_C {w : World} {g t : Nat} (l : List Int) (h : w.heap[g]? = some (.cells (l.map (Value.int .i64)).toArray t (0, 0))) (hl : l.length ≤ 1000) : Kd.C (Kd.int .i64) w (some ⟨g, 0, none⟩) l.length l := by
  refine ⟨rfl, by omega, fun hp => ⟨_, rfl, fun j p hj => ⟨[.int .i64 p], rfl, rfl, fun i u hi => ?_⟩⟩⟩
  match i, hi with
  | 0, hi =>
    simp at hi
    subst hi
    rw [add_plain]
    show w.cell? ⟨g, 0 + (j * 1 + 0), none⟩ = _
    have c := blk_cell h (0 + (j * 1 + 0))
    rw [c]
    simp [hj]
  | i + 1, hi => simp at hi
theorem TabAt.store {W W' : World} {qv : Value} {ls : List (List ByteArray)} {g : Nat} {cs : Array Value} (h : TabAt W qv ls) (hg : W.heap[g]? = some (.cells cs 35 (0, 0))) (ha : Acts (fun k => k = g) W W') : TabAt W' qv ls := by
  obtain ⟨rows, h1, h2, h3⟩ := h
  exact ⟨rows, owns_keep h1 (fun k e => ha.same k (row_lt h1 k e) (fun e' => row_ne h1 hg (by decide) (e' ▸ e))), h2, fun i v l hi hl => by
    have h4 := h3 i v l hi hl
    exact owns_keep h4 (fun k e => ha.same k (row_lt h4 k e) (fun e' => row_ne h4 hg (by decide) (e' ▸ e)))⟩
set_option maxRecDepth 100000 in
set_option maxHeartbeats 16000000 in
theorem other_calls (n0 : Nat) (da qa ea db qb eb : Int) (s : ByteArray) (W : World) (hU : Utf n0 W) (h1 : 0 ≤ da ∧ da ≤ 255) (h2 : 0 ≤ qa ∧ qa ≤ 255) (h3 : 0 ≤ db ∧ db ≤ 255) (h4 : 0 ≤ qb ∧ qb ≤ 255) :
    Calls Tryd.prog 5 #[.agg #[.int .u8 da, .int .u8 qa, .int .i64 ea], .agg #[.int .u8 db, .int .u8 qb, .int .i64 eb], .string s] W (fun e w' => e = .returned (.bool true) ∧ Acts (fun _ => False) W w') := by
  obtain ⟨W1, hW1⟩ : ∃ W1, (W.alloc (.cells #[.int .u8 da, .int .u8 qa, .int .i64 ea] 23)).alloc (.cells #[.int .u8 db, .int .u8 qb, .int .i64 eb] 23) = W1 := ⟨_, rfl⟩
  have hx : W1.heap[W.heap.size]? = some (.cells #[.int .u8 da, .int .u8 qa, .int .i64 ea] 23 (0, 0)) := by rw [← hW1]; exact blk_alloc (by simpa using heap_alloc_new W (.cells #[.int .u8 da, .int .u8 qa, .int .i64 ea] 23)) _
  have hy : W1.heap[W.heap.size + 1]? = some (.cells #[.int .u8 db, .int .u8 qb, .int .i64 eb] 23 (0, 0)) := by rw [← hW1]; simpa using heap_alloc_new (W.alloc (.cells #[.int .u8 da, .int .u8 qa, .int .i64 ea] 23)) (.cells #[.int .u8 db, .int .u8 qb, .int .i64 eb] 23)
  have hA1 : Acts (fun _ => False) W W1 := by rw [← hW1]; exact (Acts.alloc (fun _ => False) _ _).trans (Acts.alloc (fun _ => False) _ _) (fun _ h => .inl h)
  have x0 := (blk_cell hx 0).trans rfl
  have x1 := (blk_cell hx 1).trans rfl
  have x2 := (blk_cell hx 2).trans rfl
  have y0 := (blk_cell hy 0).trans rfl
  have y1 := (blk_cell hy 1).trans rfl
  have y2 := (blk_cell hy 2).trans rfl
  have hra := ref_calls da qa ea h1 h2
  have hrb := ref_calls db qb eb h3 h4
  have hta := rightd_calls da qa ea
  have htb := rightd_calls db qb eb
  have HU : Hid (Utf n0 W) := hU
  clear hU
  by_cases hs : (s.size : Int) > 300
  · go_enter Tryd.func5, Tryd.ntmps5
    go_wp2_with (first
      | (go_at_call 7; ((with_reducible refine (alive_calls n0 _ (HU.out.acts hA1 (fun _ h => h.elim))).mono ?_); rintro e wl ⟨rfl, hAl⟩)))
    go_ret
    exact ⟨rfl, hA1.trans hAl (fun _ h => .inl h)⟩
  obtain ⟨ra, hRa⟩ : ∃ ra, rightD da qa ea = ra := ⟨_, rfl⟩
  rw [hRa] at hta
  obtain ⟨rb, hRb⟩ : ∃ rb, rightD db qb eb = rb := ⟨_, rfl⟩
  rw [hRb] at htb
  cases ra with
  | false =>
    go_enter Tryd.func5, Tryd.ntmps5
    go_wp2_with (first
      | (go_at_call 17; (revert hra; intro hra; (with_reducible refine (hra _).mono ?_); rintro e w2 ⟨rfl, hA2⟩; clear hra))
      | (go_at_call 16; (revert hta; intro hta; (with_reducible refine (hta _).mono ?_); rintro e w3 ⟨rfl, hA3⟩; clear hta; have HW3 : Hid (Acts (fun _ => False) W1 w3) := hA2.trans hA3 (fun _ h => .inl h); have HA3 : Hid (Acts (fun _ => False) W w3) := hA1.trans HW3.out (fun _ h => .inl h); clear hA3; have hx2 := ((HW3.out).same _ (blk_lt hx) (fun h => h)).trans hx; have hy2 := ((HW3.out).same _ (blk_lt hy) (fun h => h)).trans hy; have zx0 := (blk_cell hx2 0).trans rfl; have zy0 := (blk_cell hy2 0).trans rfl; have zx1 := (blk_cell hx2 1).trans rfl; have zy1 := (blk_cell hy2 1).trans rfl; have zx2 := (blk_cell hx2 2).trans rfl; have zy2 := (blk_cell hy2 2).trans rfl; clear hx2 hy2))
      | (go_at_call 7; ((with_reducible refine (alive_calls n0 _ (HU.out.acts HA3.out (fun _ h => h.elim))).mono ?_); rintro e wl ⟨rfl, hAl⟩)))
    go_ret
    exact ⟨rfl, HA3.out.trans hAl (fun _ h => .inl h)⟩
  | true =>
  cases rb with
  | false =>
    go_enter Tryd.func5, Tryd.ntmps5
    go_wp2_with (first
      | (go_at_call 17; (revert hra; intro hra; (with_reducible refine (hra _).mono ?_); rintro e w2 ⟨rfl, hA2⟩; clear hra))
      | (go_at_call 16; (revert hta; intro hta; (with_reducible refine (hta _).mono ?_); rintro e w3 ⟨rfl, hA3⟩; clear hta; have HW3 : Hid (Acts (fun _ => False) W1 w3) := hA2.trans hA3 (fun _ h => .inl h); have HA3 : Hid (Acts (fun _ => False) W w3) := hA1.trans HW3.out (fun _ h => .inl h); clear hA3; have hx2 := ((HW3.out).same _ (blk_lt hx) (fun h => h)).trans hx; have hy2 := ((HW3.out).same _ (blk_lt hy) (fun h => h)).trans hy; have zx0 := (blk_cell hx2 0).trans rfl; have zy0 := (blk_cell hy2 0).trans rfl; have zx1 := (blk_cell hx2 1).trans rfl; have zy1 := (blk_cell hy2 1).trans rfl; have zx2 := (blk_cell hx2 2).trans rfl; have zy2 := (blk_cell hy2 2).trans rfl; clear hx2 hy2))
      | (go_at_call 17; (revert hrb; intro hrb; (with_reducible refine (hrb _).mono ?_); rintro e w4 ⟨rfl, hA4⟩; clear hrb))
      | (go_at_call 16; (revert htb; intro htb; (with_reducible refine (htb _).mono ?_); rintro e w5 ⟨rfl, hA5⟩; clear htb; have HW5 : Hid (Acts (fun _ => False) W1 w5) := HW3.out.trans (hA4.trans hA5 (fun _ h => .inl h)) (fun _ h => .inl h); have HA5 : Hid (Acts (fun _ => False) W w5) := hA1.trans HW5.out (fun _ h => .inl h); clear hA5; have hx2 := ((HW5.out).same _ (blk_lt hx) (fun h => h)).trans hx; have hy2 := ((HW5.out).same _ (blk_lt hy) (fun h => h)).trans hy; have ux0 := (blk_cell hx2 0).trans rfl; have uy0 := (blk_cell hy2 0).trans rfl; have ux1 := (blk_cell hx2 1).trans rfl; have uy1 := (blk_cell hy2 1).trans rfl; have ux2 := (blk_cell hx2 2).trans rfl; have uy2 := (blk_cell hy2 2).trans rfl; clear hx2 hy2; have hx3 : (w5.alloc (.cells #[.int .i64 2147483648, .int .i64 2147483648, .int .i64 2147483648, .bool false] 25)).heap[W.heap.size]? = some (.cells #[.int .u8 da, .int .u8 qa, .int .i64 ea] 23 (0, 0)) := blk_alloc ((HW5.out.same _ (blk_lt hx) (fun h => h)).trans hx) _; have hy3 : (w5.alloc (.cells #[.int .i64 2147483648, .int .i64 2147483648, .int .i64 2147483648, .bool false] 25)).heap[W.heap.size + 1]? = some (.cells #[.int .u8 db, .int .u8 qb, .int .i64 eb] 23 (0, 0)) := blk_alloc ((HW5.out.same _ (blk_lt hy) (fun h => h)).trans hy) _; have hl3 : (w5.alloc (.cells #[.int .i64 2147483648, .int .i64 2147483648, .int .i64 2147483648, .bool false] 25)).heap[w5.heap.size]? = some (.cells #[.int .i64 2147483648, .int .i64 2147483648, .int .i64 2147483648, .bool false] 25 (0, 0)) := (by simpa using heap_alloc_new w5 (.cells #[.int .i64 2147483648, .int .i64 2147483648, .int .i64 2147483648, .bool false] 25)); have HA6 : Hid (Acts (fun _ => False) W (w5.alloc (.cells #[.int .i64 2147483648, .int .i64 2147483648, .int .i64 2147483648, .bool false] 25))) := HA5.out.trans (Acts.alloc _ _ _) (fun _ h => .inl h); have vx0 := (blk_cell hx3 0).trans rfl; have vy0 := (blk_cell hy3 0).trans rfl; have vx1 := (blk_cell hx3 1).trans rfl; have vy1 := (blk_cell hy3 1).trans rfl; have vx2 := (blk_cell hx3 2).trans rfl; have vy2 := (blk_cell hy3 2).trans rfl; have vl0 := (blk_cell hl3 0).trans rfl; have vl1 := (blk_cell hl3 1).trans rfl; have vl2 := (blk_cell hl3 2).trans rfl; have vl3 := (blk_cell hl3 3).trans rfl; have HX3 : Hid (_ = _) := hx3; have HY3 : Hid (_ = _) := hy3; have HL3 : Hid (_ = _) := hl3; clear hx3 hy3 hl3))
      | (go_at_call 7; ((with_reducible refine (alive_calls n0 _ (HU.out.acts HA5.out (fun _ h => h.elim))).mono ?_); rintro e wl ⟨rfl, hAl⟩)))
    go_ret
    exact ⟨rfl, HA5.out.trans hAl (fun _ h => .inl h)⟩
  | true =>
    have oa := okD_of hRa
    have ob := okD_of hRb
    obtain ⟨fin, hF⟩ : ∃ fin, finR da qa ea 2147483648 2147483648 2147483648 false s = fin := ⟨_, rfl⟩
    have hra' : rightB da qa ea 2147483648 2147483648 2147483648 = true := by
      unfold rightB
      rw [w64 (by omega) (by omega), w64 (by omega) (by omega)]
      have := hRa
      unfold rightD at this
      rw [this]; rfl
    have hrb' : rightB db qb eb 2147483648 2147483648 2147483648 = true := by
      unfold rightB
      rw [w64 (by omega) (by omega), w64 (by omega) (by omega)]
      have := hRb
      unfold rightD at this
      rw [this]; rfl
    obtain ⟨k1, k2, k3⟩ := right_parts false hra' h1 h2
    obtain ⟨m1, m2, m3⟩ := right_parts false hrb' h3 h4
    have hf1 := fun A1 w (ha : Acts (fun _ => False) W w) (hr : Kd.C (Kd.int .i64) w A1 1 [7]) => fed_calls n0 da qa ea 2147483648 2147483648 2147483648 false s A1 [7] 1 w (HU.out.acts ha (fun _ h => h.elim)) k1 k2 k3 (by omega) (by decide) hr (Nat.le_refl _)
    have hf2 := fun (x : ByteArray) (hx : x.size ≤ 3000) A1 w (ha : Acts (fun _ => False) W w) (hr : Kd.C (Kd.int .i64) w A1 2 [1, 5]) => fed_calls n0 db qb eb 2147483648 2147483648 2147483648 false x A1 [1, 5] 2 w (HU.out.acts ha (fun _ h => h.elim)) m1 m2 m3 hx (by decide) hr (Nat.le_refl _)
    rw [hF] at hf1
    simp only [fltV, List.length_cons, List.length_nil, Nat.zero_add, Nat.reduceAdd] at hf1 hf2
    have hfirst := first_reading oa s (by omega)
    rw [hF] at hfirst
    obtain ⟨fk, hfk⟩ : ∃ fk, fin.fk = fk := ⟨_, rfl⟩
    obtain ⟨fat, hfat⟩ : ∃ fat, fin.fat = fat := ⟨_, rfl⟩
    rw [hfk, hfat] at hf1
    rw [hfk] at hfirst
    clear k1 k2 k3 m1 m2 m3 hra' hrb' hRa hRb
    by_cases hk : fk = 0
    rotate_left
    · have hk' : (fk == 0) = false := by simp [hk]
      clear hf2 hfirst
      go_enter Tryd.func5, Tryd.ntmps5
      go_wp2_with (first
        | (go_at_call 17; (revert hra; intro hra; (with_reducible refine (hra _).mono ?_); rintro e w2 ⟨rfl, hA2⟩; clear hra))
        | (go_at_call 16; (revert hta; intro hta; (with_reducible refine (hta _).mono ?_); rintro e w3 ⟨rfl, hA3⟩; clear hta; have HW3 : Hid (Acts (fun _ => False) W1 w3) := hA2.trans hA3 (fun _ h => .inl h); have HA3 : Hid (Acts (fun _ => False) W w3) := hA1.trans HW3.out (fun _ h => .inl h); clear hA3; have hx2 := ((HW3.out).same _ (blk_lt hx) (fun h => h)).trans hx; have hy2 := ((HW3.out).same _ (blk_lt hy) (fun h => h)).trans hy; have zx0 := (blk_cell hx2 0).trans rfl; have zy0 := (blk_cell hy2 0).trans rfl; have zx1 := (blk_cell hx2 1).trans rfl; have zy1 := (blk_cell hy2 1).trans rfl; have zx2 := (blk_cell hx2 2).trans rfl; have zy2 := (blk_cell hy2 2).trans rfl; clear hx2 hy2))
        | (go_at_call 17; (revert hrb; intro hrb; (with_reducible refine (hrb _).mono ?_); rintro e w4 ⟨rfl, hA4⟩; clear hrb))
        | (go_at_call 16; (revert htb; intro htb; (with_reducible refine (htb _).mono ?_); rintro e w5 ⟨rfl, hA5⟩; clear htb; have HW5 : Hid (Acts (fun _ => False) W1 w5) := HW3.out.trans (hA4.trans hA5 (fun _ h => .inl h)) (fun _ h => .inl h); have HA5 : Hid (Acts (fun _ => False) W w5) := hA1.trans HW5.out (fun _ h => .inl h); clear hA5; have hx2 := ((HW5.out).same _ (blk_lt hx) (fun h => h)).trans hx; have hy2 := ((HW5.out).same _ (blk_lt hy) (fun h => h)).trans hy; have ux0 := (blk_cell hx2 0).trans rfl; have uy0 := (blk_cell hy2 0).trans rfl; have ux1 := (blk_cell hx2 1).trans rfl; have uy1 := (blk_cell hy2 1).trans rfl; have ux2 := (blk_cell hx2 2).trans rfl; have uy2 := (blk_cell hy2 2).trans rfl; clear hx2 hy2; have hx3 : (w5.alloc (.cells #[.int .i64 2147483648, .int .i64 2147483648, .int .i64 2147483648, .bool false] 25)).heap[W.heap.size]? = some (.cells #[.int .u8 da, .int .u8 qa, .int .i64 ea] 23 (0, 0)) := blk_alloc ((HW5.out.same _ (blk_lt hx) (fun h => h)).trans hx) _; have hy3 : (w5.alloc (.cells #[.int .i64 2147483648, .int .i64 2147483648, .int .i64 2147483648, .bool false] 25)).heap[W.heap.size + 1]? = some (.cells #[.int .u8 db, .int .u8 qb, .int .i64 eb] 23 (0, 0)) := blk_alloc ((HW5.out.same _ (blk_lt hy) (fun h => h)).trans hy) _; have hl3 : (w5.alloc (.cells #[.int .i64 2147483648, .int .i64 2147483648, .int .i64 2147483648, .bool false] 25)).heap[w5.heap.size]? = some (.cells #[.int .i64 2147483648, .int .i64 2147483648, .int .i64 2147483648, .bool false] 25 (0, 0)) := (by simpa using heap_alloc_new w5 (.cells #[.int .i64 2147483648, .int .i64 2147483648, .int .i64 2147483648, .bool false] 25)); have HA6 : Hid (Acts (fun _ => False) W (w5.alloc (.cells #[.int .i64 2147483648, .int .i64 2147483648, .int .i64 2147483648, .bool false] 25))) := HA5.out.trans (Acts.alloc _ _ _) (fun _ h => .inl h); have vx0 := (blk_cell hx3 0).trans rfl; have vy0 := (blk_cell hy3 0).trans rfl; have vx1 := (blk_cell hx3 1).trans rfl; have vy1 := (blk_cell hy3 1).trans rfl; have vx2 := (blk_cell hx3 2).trans rfl; have vy2 := (blk_cell hy3 2).trans rfl; have vl0 := (blk_cell hl3 0).trans rfl; have vl1 := (blk_cell hl3 1).trans rfl; have vl2 := (blk_cell hl3 2).trans rfl; have vl3 := (blk_cell hl3 3).trans rfl; have HX3 : Hid (_ = _) := hx3; have HY3 : Hid (_ = _) := hy3; have HL3 : Hid (_ = _) := hl3; clear hx3 hy3 hl3))
        | (go_at_call 14; (revert hf1; intro hf1; have hlc : Kd.C (Kd.int .i64) ((w5.alloc (.cells #[.int .i64 2147483648, .int .i64 2147483648, .int .i64 2147483648, .bool false] 25)).alloc (.cells #[.int .i64 7] 3)) (some ⟨w5.heap.size + 1, 0, none⟩) 1 [7] := lits_C [7] (t := 3) (by simpa using heap_alloc_new (w5.alloc (.cells #[.int .i64 2147483648, .int .i64 2147483648, .int .i64 2147483648, .bool false] 25)) (.cells #[.int .i64 7] 3)) (by decide); (with_reducible refine (hf1 _ _ (HA6.out.trans (Acts.alloc _ _ _) (fun _ h => .inl h)) hlc).mono ?_); rintro e w6 ⟨qv1, rfl, hT1, hA7⟩; clear hf1 hlc; have hA67 : Acts (fun _ => False) w6 (w6.alloc (.cells #[.int .i64 fk, .int .i64 fat] 35)) := Acts.alloc _ _ _; have hb7 : (w6.alloc (.cells #[.int .i64 fk, .int .i64 fat] 35)).heap[w6.heap.size]? = some (.cells #[.int .i64 fk, .int .i64 fat] 35 (0, 0)) := (by simpa using heap_alloc_new w6 (.cells #[.int .i64 fk, .int .i64 fat] 35)); have HA56 : Hid (Acts (fun _ => False) (w5.alloc (.cells #[.int .i64 2147483648, .int .i64 2147483648, .int .i64 2147483648, .bool false] 25)) (w6.alloc (.cells #[.int .i64 fk, .int .i64 fat] 35))) := (Acts.alloc _ _ _).trans (hA7.trans hA67 (fun _ h => .inl h)) (fun _ h => .inl h); have HA7 : Hid (Acts (fun _ => False) W _) := HA6.out.trans HA56.out (fun _ h => .inl h); have HT7 : Hid (TabAt _ qv1 fin.ready) := hT1.acts hA67; have HB7 : Hid (_ = _) := hb7; clear hT1 hA7 hA67 hb7; have g0 := (blk_cell HB7.out 0).trans rfl; have g1 := (blk_cell HB7.out 1).trans rfl))
        | (go_at_call 7; ((with_reducible refine (alive_calls n0 _ (HU.out.acts HA7.out (fun _ h => h.elim))).mono ?_); rintro e wl ⟨rfl, hAl⟩)))
      go_ret
      exact ⟨rfl, HA7.out.trans hAl (fun _ h => .inl h)⟩
    subst hk
    by_cases hk2 : fat = 0
    rotate_left
    · have hk2' : (fat == 0) = false := by simp [hk2]
      clear hf2 hfirst
      go_enter Tryd.func5, Tryd.ntmps5
      go_wp2_with (first
        | (go_at_call 17; (revert hra; intro hra; (with_reducible refine (hra _).mono ?_); rintro e w2 ⟨rfl, hA2⟩; clear hra))
        | (go_at_call 16; (revert hta; intro hta; (with_reducible refine (hta _).mono ?_); rintro e w3 ⟨rfl, hA3⟩; clear hta; have HW3 : Hid (Acts (fun _ => False) W1 w3) := hA2.trans hA3 (fun _ h => .inl h); have HA3 : Hid (Acts (fun _ => False) W w3) := hA1.trans HW3.out (fun _ h => .inl h); clear hA3; have hx2 := ((HW3.out).same _ (blk_lt hx) (fun h => h)).trans hx; have hy2 := ((HW3.out).same _ (blk_lt hy) (fun h => h)).trans hy; have zx0 := (blk_cell hx2 0).trans rfl; have zy0 := (blk_cell hy2 0).trans rfl; have zx1 := (blk_cell hx2 1).trans rfl; have zy1 := (blk_cell hy2 1).trans rfl; have zx2 := (blk_cell hx2 2).trans rfl; have zy2 := (blk_cell hy2 2).trans rfl; clear hx2 hy2))
        | (go_at_call 17; (revert hrb; intro hrb; (with_reducible refine (hrb _).mono ?_); rintro e w4 ⟨rfl, hA4⟩; clear hrb))
        | (go_at_call 16; (revert htb; intro htb; (with_reducible refine (htb _).mono ?_); rintro e w5 ⟨rfl, hA5⟩; clear htb; have HW5 : Hid (Acts (fun _ => False) W1 w5) := HW3.out.trans (hA4.trans hA5 (fun _ h => .inl h)) (fun _ h => .inl h); have HA5 : Hid (Acts (fun _ => False) W w5) := hA1.trans HW5.out (fun _ h => .inl h); clear hA5; have hx2 := ((HW5.out).same _ (blk_lt hx) (fun h => h)).trans hx; have hy2 := ((HW5.out).same _ (blk_lt hy) (fun h => h)).trans hy; have ux0 := (blk_cell hx2 0).trans rfl; have uy0 := (blk_cell hy2 0).trans rfl; have ux1 := (blk_cell hx2 1).trans rfl; have uy1 := (blk_cell hy2 1).trans rfl; have ux2 := (blk_cell hx2 2).trans rfl; have uy2 := (blk_cell hy2 2).trans rfl; clear hx2 hy2; have hx3 : (w5.alloc (.cells #[.int .i64 2147483648, .int .i64 2147483648, .int .i64 2147483648, .bool false] 25)).heap[W.heap.size]? = some (.cells #[.int .u8 da, .int .u8 qa, .int .i64 ea] 23 (0, 0)) := blk_alloc ((HW5.out.same _ (blk_lt hx) (fun h => h)).trans hx) _; have hy3 : (w5.alloc (.cells #[.int .i64 2147483648, .int .i64 2147483648, .int .i64 2147483648, .bool false] 25)).heap[W.heap.size + 1]? = some (.cells #[.int .u8 db, .int .u8 qb, .int .i64 eb] 23 (0, 0)) := blk_alloc ((HW5.out.same _ (blk_lt hy) (fun h => h)).trans hy) _; have hl3 : (w5.alloc (.cells #[.int .i64 2147483648, .int .i64 2147483648, .int .i64 2147483648, .bool false] 25)).heap[w5.heap.size]? = some (.cells #[.int .i64 2147483648, .int .i64 2147483648, .int .i64 2147483648, .bool false] 25 (0, 0)) := (by simpa using heap_alloc_new w5 (.cells #[.int .i64 2147483648, .int .i64 2147483648, .int .i64 2147483648, .bool false] 25)); have HA6 : Hid (Acts (fun _ => False) W (w5.alloc (.cells #[.int .i64 2147483648, .int .i64 2147483648, .int .i64 2147483648, .bool false] 25))) := HA5.out.trans (Acts.alloc _ _ _) (fun _ h => .inl h); have vx0 := (blk_cell hx3 0).trans rfl; have vy0 := (blk_cell hy3 0).trans rfl; have vx1 := (blk_cell hx3 1).trans rfl; have vy1 := (blk_cell hy3 1).trans rfl; have vx2 := (blk_cell hx3 2).trans rfl; have vy2 := (blk_cell hy3 2).trans rfl; have vl0 := (blk_cell hl3 0).trans rfl; have vl1 := (blk_cell hl3 1).trans rfl; have vl2 := (blk_cell hl3 2).trans rfl; have vl3 := (blk_cell hl3 3).trans rfl; have HX3 : Hid (_ = _) := hx3; have HY3 : Hid (_ = _) := hy3; have HL3 : Hid (_ = _) := hl3; clear hx3 hy3 hl3))
        | (go_at_call 14; (revert hf1; intro hf1; have hlc : Kd.C (Kd.int .i64) ((w5.alloc (.cells #[.int .i64 2147483648, .int .i64 2147483648, .int .i64 2147483648, .bool false] 25)).alloc (.cells #[.int .i64 7] 3)) (some ⟨w5.heap.size + 1, 0, none⟩) 1 [7] := lits_C [7] (t := 3) (by simpa using heap_alloc_new (w5.alloc (.cells #[.int .i64 2147483648, .int .i64 2147483648, .int .i64 2147483648, .bool false] 25)) (.cells #[.int .i64 7] 3)) (by decide); (with_reducible refine (hf1 _ _ (HA6.out.trans (Acts.alloc _ _ _) (fun _ h => .inl h)) hlc).mono ?_); rintro e w6 ⟨qv1, rfl, hT1, hA7⟩; clear hf1 hlc; have hA67 : Acts (fun _ => False) w6 (w6.alloc (.cells #[.int .i64 0, .int .i64 fat] 35)) := Acts.alloc _ _ _; have hb7 : (w6.alloc (.cells #[.int .i64 0, .int .i64 fat] 35)).heap[w6.heap.size]? = some (.cells #[.int .i64 0, .int .i64 fat] 35 (0, 0)) := (by simpa using heap_alloc_new w6 (.cells #[.int .i64 0, .int .i64 fat] 35)); have HA56 : Hid (Acts (fun _ => False) (w5.alloc (.cells #[.int .i64 2147483648, .int .i64 2147483648, .int .i64 2147483648, .bool false] 25)) (w6.alloc (.cells #[.int .i64 0, .int .i64 fat] 35))) := (Acts.alloc _ _ _).trans (hA7.trans hA67 (fun _ h => .inl h)) (fun _ h => .inl h); have HA7 : Hid (Acts (fun _ => False) W _) := HA6.out.trans HA56.out (fun _ h => .inl h); have HT7 : Hid (TabAt _ qv1 fin.ready) := hT1.acts hA67; have HB7 : Hid (_ = _) := hb7; clear hT1 hA7 hA67 hb7; have g0 := (blk_cell HB7.out 0).trans rfl; have g1 := (blk_cell HB7.out 1).trans rfl))
        | (go_at_call 7; ((with_reducible refine (alive_calls n0 _ (HU.out.acts HA7.out (fun _ h => h.elim))).mono ?_); rintro e wl ⟨rfl, hAl⟩)))
      go_ret
      exact ⟨rfl, HA7.out.trans hAl (fun _ h => .inl h)⟩
    subst hk2
    obtain ⟨hok, hwt⟩ := hfirst rfl
    obtain ⟨t, ht⟩ : ∃ t, fin.ready = t := ⟨_, rfl⟩
    rw [ht] at hok hwt hf1
    have hlow := low_of t (by omega)
    obtain ⟨y, hy1', hy2'⟩ := text_f t hok hlow db qb eb ⟨ob.1, ob.2.1⟩ ⟨ob.2.2.2.2.1, ob.2.2.2.2.2.1⟩
    have hysz : y.size ≤ 3000 := by
      have := size_bytes hy2'
      have := text_len db qb eb t true
      omega
    have hlen : t.length ≤ 1000000 := by have := hlow.1; omega
    have hrow : ∀ x ∈ t, x.length ≤ 1000000 := fun x hx => by have := (hlow.2 x hx).1; omega
    obtain ⟨r1, r2, r3⟩ := second_reading ob t hok hlen (fun r hr => ⟨hrow r hr, fun x hx => by have := (hlow.2 r hr).2 x hx; omega⟩) y hy2'
    have hf2 := hf2 y hysz
    rw [r1, r2, r3] at hf2
    have htx := fun A c w (hC : Kd.C (Kd.slice 9 Kd.string) w A t.length t) (hc : t.length ≤ c) => XTopOther.quillpenref10_Text.calls 50000 db qb eb A c t y w hC hc hy1'
    obtain ⟨kt, htab⟩ := table_tells t 1000000 (Nat.le_refl _) hlen hrow
    have hst := fun w A c (hC : Kd.C (Kd.slice 9 Kd.string) w A t.length t) (hc : t.length ≤ c) A2 c2 (hC2 : Kd.C (Kd.slice 9 Kd.string) w A2 t.length t) (hc2 : t.length ≤ c2) => PTopChunks.quillpenref05_SameTable.calls kt A c t A2 c2 t true w hC hc hC2 hc2 (htab kt (Nat.le_refl _))
    clear r1 r2 r3 hok hwt hlow hy1' hy2' htab hysz oa ob hfk hfat
    go_enter Tryd.func5, Tryd.ntmps5
    go_wp2_with (first
      | (go_at_call 17; (revert hra; intro hra; (with_reducible refine (hra _).mono ?_); rintro e w2 ⟨rfl, hA2⟩; clear hra))
      | (go_at_call 16; (revert hta; intro hta; (with_reducible refine (hta _).mono ?_); rintro e w3 ⟨rfl, hA3⟩; clear hta; have HW3 : Hid (Acts (fun _ => False) W1 w3) := hA2.trans hA3 (fun _ h => .inl h); have HA3 : Hid (Acts (fun _ => False) W w3) := hA1.trans HW3.out (fun _ h => .inl h); clear hA3; have hx2 := ((HW3.out).same _ (blk_lt hx) (fun h => h)).trans hx; have hy2 := ((HW3.out).same _ (blk_lt hy) (fun h => h)).trans hy; have zx0 := (blk_cell hx2 0).trans rfl; have zy0 := (blk_cell hy2 0).trans rfl; have zx1 := (blk_cell hx2 1).trans rfl; have zy1 := (blk_cell hy2 1).trans rfl; have zx2 := (blk_cell hx2 2).trans rfl; have zy2 := (blk_cell hy2 2).trans rfl; clear hx2 hy2))
      | (go_at_call 17; (revert hrb; intro hrb; (with_reducible refine (hrb _).mono ?_); rintro e w4 ⟨rfl, hA4⟩; skip))
      | (go_at_call 16; (revert htb; intro htb; (with_reducible refine (htb _).mono ?_); rintro e w5 ⟨rfl, hA5⟩; clear htb; have HW5 : Hid (Acts (fun _ => False) W1 w5) := HW3.out.trans (hA4.trans hA5 (fun _ h => .inl h)) (fun _ h => .inl h); have HA5 : Hid (Acts (fun _ => False) W w5) := hA1.trans HW5.out (fun _ h => .inl h); clear hA5; have hx2 := ((HW5.out).same _ (blk_lt hx) (fun h => h)).trans hx; have hy2 := ((HW5.out).same _ (blk_lt hy) (fun h => h)).trans hy; have ux0 := (blk_cell hx2 0).trans rfl; have uy0 := (blk_cell hy2 0).trans rfl; have ux1 := (blk_cell hx2 1).trans rfl; have uy1 := (blk_cell hy2 1).trans rfl; have ux2 := (blk_cell hx2 2).trans rfl; have uy2 := (blk_cell hy2 2).trans rfl; clear hx2 hy2; have hx3 : (w5.alloc (.cells #[.int .i64 2147483648, .int .i64 2147483648, .int .i64 2147483648, .bool false] 25)).heap[W.heap.size]? = some (.cells #[.int .u8 da, .int .u8 qa, .int .i64 ea] 23 (0, 0)) := blk_alloc ((HW5.out.same _ (blk_lt hx) (fun h => h)).trans hx) _; have hy3 : (w5.alloc (.cells #[.int .i64 2147483648, .int .i64 2147483648, .int .i64 2147483648, .bool false] 25)).heap[W.heap.size + 1]? = some (.cells #[.int .u8 db, .int .u8 qb, .int .i64 eb] 23 (0, 0)) := blk_alloc ((HW5.out.same _ (blk_lt hy) (fun h => h)).trans hy) _; have hl3 : (w5.alloc (.cells #[.int .i64 2147483648, .int .i64 2147483648, .int .i64 2147483648, .bool false] 25)).heap[w5.heap.size]? = some (.cells #[.int .i64 2147483648, .int .i64 2147483648, .int .i64 2147483648, .bool false] 25 (0, 0)) := (by simpa using heap_alloc_new w5 (.cells #[.int .i64 2147483648, .int .i64 2147483648, .int .i64 2147483648, .bool false] 25)); have HA6 : Hid (Acts (fun _ => False) W (w5.alloc (.cells #[.int .i64 2147483648, .int .i64 2147483648, .int .i64 2147483648, .bool false] 25))) := HA5.out.trans (Acts.alloc _ _ _) (fun _ h => .inl h); have vx0 := (blk_cell hx3 0).trans rfl; have vy0 := (blk_cell hy3 0).trans rfl; have vx1 := (blk_cell hx3 1).trans rfl; have vy1 := (blk_cell hy3 1).trans rfl; have vx2 := (blk_cell hx3 2).trans rfl; have vy2 := (blk_cell hy3 2).trans rfl; have vl0 := (blk_cell hl3 0).trans rfl; have vl1 := (blk_cell hl3 1).trans rfl; have vl2 := (blk_cell hl3 2).trans rfl; have vl3 := (blk_cell hl3 3).trans rfl; have HX3 : Hid (_ = _) := hx3; have HY3 : Hid (_ = _) := hy3; have HL3 : Hid (_ = _) := hl3; clear hx3 hy3 hl3))
      | (go_at_call 14; (revert hf1; intro hf1; have hlc : Kd.C (Kd.int .i64) ((w5.alloc (.cells #[.int .i64 2147483648, .int .i64 2147483648, .int .i64 2147483648, .bool false] 25)).alloc (.cells #[.int .i64 7] 3)) (some ⟨w5.heap.size + 1, 0, none⟩) 1 [7] := lits_C [7] (t := 3) (by simpa using heap_alloc_new (w5.alloc (.cells #[.int .i64 2147483648, .int .i64 2147483648, .int .i64 2147483648, .bool false] 25)) (.cells #[.int .i64 7] 3)) (by decide); (with_reducible refine (hf1 _ _ (HA6.out.trans (Acts.alloc _ _ _) (fun _ h => .inl h)) hlc).mono ?_); rintro e w6 ⟨qv1, rfl, hT1, hA7⟩; clear hf1 hlc; have hA67 : Acts (fun _ => False) w6 (w6.alloc (.cells #[.int .i64 0, .int .i64 0] 35)) := Acts.alloc _ _ _; have hb7 : (w6.alloc (.cells #[.int .i64 0, .int .i64 0] 35)).heap[w6.heap.size]? = some (.cells #[.int .i64 0, .int .i64 0] 35 (0, 0)) := (by simpa using heap_alloc_new w6 (.cells #[.int .i64 0, .int .i64 0] 35)); have HA56 : Hid (Acts (fun _ => False) (w5.alloc (.cells #[.int .i64 2147483648, .int .i64 2147483648, .int .i64 2147483648, .bool false] 25)) (w6.alloc (.cells #[.int .i64 0, .int .i64 0] 35))) := (Acts.alloc _ _ _).trans (hA7.trans hA67 (fun _ h => .inl h)) (fun _ h => .inl h); have HA7 : Hid (Acts (fun _ => False) W _) := HA6.out.trans HA56.out (fun _ h => .inl h); have HT7 : Hid (TabAt _ qv1 t) := hT1.acts hA67; have HB7 : Hid (_ = _) := hb7; clear hT1 hA7 hA67 hb7; obtain ⟨a1, b1, rfl, hab1, hC1⟩ := tab_C HT7.out hlen hrow; have HC7 : Hid (Kd.C (Kd.slice 9 Kd.string) (w6.alloc (.cells #[.int .i64 0, .int .i64 0] 35)) a1 t.length t) := hC1; clear hC1; have hx9 := (HA56.out.same _ (blk_lt HY3.out) (fun h => h)).trans HY3.out; have hl9 := (HA56.out.same _ (blk_lt HL3.out) (fun h => h)).trans HL3.out; have HY9 : Hid (_ = _) := hx9; have HL9 : Hid (_ = _) := hl9; clear hx9 hl9; have g0 := (blk_cell HB7.out 0).trans rfl; have g1 := (blk_cell HB7.out 1).trans rfl)))
    have hS : ∀ w', Acts (fun _ => False) (w6.alloc (.cells #[.int .i64 0, .int .i64 0] 35)) w' → (w'.heap[W.heap.size + 1]? = some (.cells #[.int .u8 db, .int .u8 qb, .int .i64 eb] 23 (0, 0)) ∧ w'.heap[w5.heap.size]? = some (.cells #[.int .i64 2147483648, .int .i64 2147483648, .int .i64 2147483648, .bool false] 25 (0, 0))) := fun w' ha => ⟨(ha.same _ (blk_lt HY9.out) (fun h => h)).trans HY9.out, (ha.same _ (blk_lt HL9.out) (fun h => h)).trans HL9.out⟩
    refine start_ (n := 16) (S := fun w' => w'.heap[W.heap.size + 1]? = some (.cells #[.int .u8 db, .int .u8 qb, .int .i64 eb] 23 (0, 0)) ∧ w'.heap[w5.heap.size]? = some (.cells #[.int .i64 2147483648, .int .i64 2147483648, .int .i64 2147483648, .bool false] 25 (0, 0))) (ds := [14]) #[false, false, false, false, false, false, false, false, false, false, false, false, false, false, false, false] (by kernel_rfl) rfl rfl ⟨HY9.out, HL9.out⟩ (fun hHeld => ?_)
    refine take_ (i := 0) (N := some 47) (v := ?_) (a' := ?_) #[true, false, false, false, false, false, false, false, false, false, false, false, false, false, false, false] rfl rfl (by kernel_rfl) (fun _ _ _ h => h) (Or.inl ⟨by rfl, ?_⟩) hHeld ?_ ?_
    rotate_left
    · intro w' s0
      have y0 := (blk_cell s0.1 0).trans rfl
      have y1 := (blk_cell s0.1 1).trans rfl
      have y2 := (blk_cell s0.1 2).trans rfl
      clear s0
      go_simp
      with_reducible rfl
    rotate_left
    · simp only [Act.put, List.setIfInBounds_toArray, List.set_cons_zero, List.set_cons_succ]
      rfl
    refine take_ (i := 1) (N := some 48) (v := ?_) (a' := ?_) #[true, true, false, false, false, false, false, false, false, false, false, false, false, false, false, false] rfl rfl (by kernel_rfl) (fun _ _ _ h => h) (Or.inl ⟨by rfl, ?_⟩) hHeld ?_ ?_
    rotate_left
    · intro w' s0
      have y0 := (blk_cell s0.2 0).trans rfl
      have y1 := (blk_cell s0.2 1).trans rfl
      have y2 := (blk_cell s0.2 2).trans rfl
      have y3 := (blk_cell s0.2 3).trans rfl
      clear s0
      go_simp
      with_reducible rfl
    rotate_left
    · simp only [Act.put, List.setIfInBounds_toArray, List.set_cons_zero, List.set_cons_succ]
      rfl
    refine take_ (i := 2) (N := some 49) (v := ?_) (a' := ?_) #[true, true, true, false, false, false, false, false, false, false, false, false, false, false, false, false] rfl rfl (by kernel_rfl) (fun _ _ _ h => h) (Or.inl ⟨by rfl, ?_⟩) hHeld ?_ ?_
    rotate_left
    · intro w' s0
      have y0 := (blk_cell s0.1 0).trans rfl
      have y1 := (blk_cell s0.1 1).trans rfl
      have y2 := (blk_cell s0.1 2).trans rfl
      clear s0
      go_simp
      with_reducible rfl
    rotate_left
    · simp only [Act.put, List.setIfInBounds_toArray, List.set_cons_zero, List.set_cons_succ]
      rfl
    refine pure_ (i := 4) (N := some 51) (v := ?_) (a' := ?_) #[true, true, true, false, true, false, false, false, false, false, false, false, false, false, false, false] rfl rfl (by kernel_rfl) (fun _ _ _ h => h) (Or.inl ⟨by rfl, ?_⟩) ?_ ?_
    rotate_left
    · intro w'
      go_simp
      with_reducible rfl
    rotate_left
    · simp only [Act.put, List.setIfInBounds_toArray, List.set_cons_zero, List.set_cons_succ]
      rfl
    refine join_ (σ := Nat × Nat × Value) 3 #[true, true, true, true, true, true, true, true, true, true, true, true, true, false, false, false] (fun s_ : Nat × Nat × Value => ([(50, .agg #[.int .i64 db, .int .i64 qb, .int .i64 eb]), (52, .string y), (53, .slice (some ⟨s_.1, 0, none⟩) 2 2), (12, .pointer (some ⟨s_.2.1, 0, none⟩)), (54, .tuple #[s_.2.2, .agg #[.int .i64 0, .int .i64 0], .bool true]), (46, .tuple #[s_.2.2, .agg #[.int .i64 0, .int .i64 0], .bool true]), (55, s_.2.2), (56, .agg #[.int .i64 0, .int .i64 0]), (57, .bool true)] : List (Tmp × Value))) (fun s_ w' => Acts (fun _ => False) (w6.alloc (.cells #[.int .i64 0, .int .i64 0] 35)) w' ∧ w'.heap[s_.1]? = some (.cells #[.int .i64 1, .int .i64 5] 3 (0, 0)) ∧ w'.heap[s_.2.1]? = some (.cells #[.int .i64 0, .int .i64 0] 35 (0, 0)) ∧ (w6.alloc (.cells #[.int .i64 0, .int .i64 0] 35)).heap.size ≤ s_.2.1 ∧ TabAt w' s_.2.2 t) ?_ ?_
    rotate_left
    · intro j311
      refine join_ (σ := Nat × Nat × Value) 4 #[true, true, true, true, true, true, true, true, true, true, true, true, false, false, false, false] (fun s_ : Nat × Nat × Value => ([(50, .agg #[.int .i64 db, .int .i64 qb, .int .i64 eb]), (52, .string y), (53, .slice (some ⟨s_.1, 0, none⟩) 2 2), (54, .tuple #[s_.2.2, .agg #[.int .i64 0, .int .i64 0], .bool true]), (46, .tuple #[s_.2.2, .agg #[.int .i64 0, .int .i64 0], .bool true]), (55, s_.2.2), (56, .agg #[.int .i64 0, .int .i64 0]), (57, .bool true)] : List (Tmp × Value))) (fun s_ w' => Acts (fun _ => False) (w6.alloc (.cells #[.int .i64 0, .int .i64 0] 35)) w' ∧ w'.heap[s_.1]? = some (.cells #[.int .i64 1, .int .i64 5] 3 (0, 0)) ∧ TabAt w' s_.2.2 t) ?_ ?_
      · rintro ⟨g, h, q⟩ wc ⟨hA, hsl, hT⟩
        have hHeld := hS _ hA
        refine norm_ (a' := ?_) ?_ ?_
        rotate_left
        · simp only [putAll, Act.put, List.setIfInBounds_toArray, List.set_cons_zero, List.set_cons_succ]
          rfl
        refine one_ (i := 12) (N := some 12) #[true, true, true, true, true, true, true, true, true, true, true, true, true, false, false, false] rfl rfl (by kernel_rfl) (by decide) (fun K hK => ?_)
        refine box_step ?hg (N := 12) ?hd (cs := #[.int .i64 0, .int .i64 0]) (t := 35) ?hr ?_; (case hd => rfl); (case hg => rfl); (case hr => first | (go_simp; done) | (go_simp; rfl))
        intro h1n hgn wn hbox hBn
        have hAn : Acts (fun _ => False) _ wn := Acts.of_below hBn
        have hzl : (w6.alloc (.cells #[.int .i64 0, .int .i64 0] 35)).heap.size ≤ h1n := by rw [hgn]; exact (hA).size
        have hA3 : Acts (fun _ => False) (w6.alloc (.cells #[.int .i64 0, .int .i64 0] 35)) wn := hA.trans hAn (fun _ h => .inl h)
        refine hK.out _ _ (hS _ hA3) (fun hHeld => ?_)
        clear hK K
        refine norm_ (a' := ?_) ?_ ?_
        rotate_left
        · show Act.put _ (some 12) _ = _
          simp only [Act.put, List.setIfInBounds_toArray, List.set_cons_zero, List.set_cons_succ]
          rfl
        exact norm_ (by simp only [putAll, Act.put, List.setIfInBounds_toArray, List.set_cons_zero, List.set_cons_succ]) (j311 (g, h1n, q) _ ⟨hA3, (hAn.same _ (blk_lt hsl) (fun h => h)).trans hsl, hbox, hzl, hT.acts hAn⟩)
      intro j310
      refine join_ (σ := Nat × Nat × Value) 8 #[true, true, true, true, true, true, true, false, false, false, false, false, true, false, false, false] (fun s_ : Nat × Nat × Value => ([(50, .agg #[.int .i64 db, .int .i64 qb, .int .i64 eb]), (52, .string y), (53, .slice (some ⟨s_.1, 0, none⟩) 2 2), (12, .pointer (some ⟨s_.2.1, 0, none⟩))] : List (Tmp × Value))) (fun s_ w' => Acts (fun _ => False) (w6.alloc (.cells #[.int .i64 0, .int .i64 0] 35)) w' ∧ w'.heap[s_.1]? = some (.cells #[.int .i64 1, .int .i64 5] 3 (0, 0)) ∧ w'.heap[s_.2.1]? = some (.cells #[.int .i64 0, .int .i64 0] 35 (0, 0)) ∧ (w6.alloc (.cells #[.int .i64 0, .int .i64 0] 35)).heap.size ≤ s_.2.1) ?_ ?_
      · rintro ⟨g, h, q⟩ wc ⟨hA, hsl, hz, hzl⟩
        have hHeld := hS _ hA
        refine norm_ (a' := ?_) ?_ ?_
        rotate_left
        · simp only [putAll, Act.put, List.setIfInBounds_toArray, List.set_cons_zero, List.set_cons_succ]
          rfl
        refine one_ (i := 7) (N := some 54) #[true, true, true, true, true, true, true, true, false, false, false, false, true, false, false, false] rfl rfl (by kernel_rfl) (by decide) (fun K hK => ?_)
        refine goes_ Tryd.func14 (by kernel_rfl) rfl #[.agg #[.int .u8 db, .int .u8 qb, .int .i64 eb], .agg #[.int .i64 2147483648, .int .i64 2147483648, .int .i64 2147483648, .bool false], .string y, .slice (some ⟨g, 0, none⟩) 2 2] (by rfl) rfl rfl (by simp only [List.map_toArray, List.map_cons, List.map_nil]; rfl) ?_
        with_reducible refine (hf2 (some ⟨g, 0, none⟩) _ (HA7.out.trans hA (fun _ h => .inl h)) (lits_C [1, 5] hsl (by decide))).mono ?_
        rintro e wn ⟨q2, rfl, hTn, hAn⟩
        refine ⟨_, rfl, ?_⟩
        have hA3 : Acts (fun _ => False) (w6.alloc (.cells #[.int .i64 0, .int .i64 0] 35)) wn := hA.trans hAn (fun _ h => .inl h)
        refine hK.out _ _ (hS _ hA3) (fun hHeld => ?_)
        clear hK K
        refine norm_ (a' := ?_) ?_ ?_
        rotate_left
        · show Act.put _ (some 54) _ = _
          simp only [Act.put, List.setIfInBounds_toArray, List.set_cons_zero, List.set_cons_succ]
          rfl
        refine pure_ (i := 8) (N := some 46) (v := ?_) (a' := ?_) #[true, true, true, true, true, true, true, true, true, false, false, false, true, false, false, false] rfl rfl (by kernel_rfl) (fun _ _ _ h => h) (Or.inl ⟨by rfl, ?_⟩) ?_ ?_
        rotate_left
        · intro w'
          go_simp
          with_reducible rfl
        rotate_left
        · simp only [Act.put, List.setIfInBounds_toArray, List.set_cons_zero, List.set_cons_succ]
          rfl
        refine pure_ (i := 9) (N := some 55) (v := ?_) (a' := ?_) #[true, true, true, true, true, true, true, true, true, true, false, false, true, false, false, false] rfl rfl (by kernel_rfl) (fun _ _ _ h => h) (Or.inl ⟨by rfl, ?_⟩) ?_ ?_
        rotate_left
        · intro w'
          go_simp
          with_reducible rfl
        rotate_left
        · simp only [Act.put, List.setIfInBounds_toArray, List.set_cons_zero, List.set_cons_succ]
          rfl
        refine pure_ (i := 10) (N := some 56) (v := ?_) (a' := ?_) #[true, true, true, true, true, true, true, true, true, true, true, false, true, false, false, false] rfl rfl (by kernel_rfl) (fun _ _ _ h => h) (Or.inl ⟨by rfl, ?_⟩) ?_ ?_
        rotate_left
        · intro w'
          go_simp
          with_reducible rfl
        rotate_left
        · simp only [Act.put, List.setIfInBounds_toArray, List.set_cons_zero, List.set_cons_succ]
          rfl
        refine pure_ (i := 11) (N := some 57) (v := ?_) (a' := ?_) #[true, true, true, true, true, true, true, true, true, true, true, true, true, false, false, false] rfl rfl (by kernel_rfl) (fun _ _ _ h => h) (Or.inl ⟨by rfl, ?_⟩) ?_ ?_
        rotate_left
        · intro w'
          go_simp
          with_reducible rfl
        rotate_left
        · simp only [Act.put, List.setIfInBounds_toArray, List.set_cons_zero, List.set_cons_succ]
          rfl
        exact norm_ (by simp only [putAll, Act.put, List.setIfInBounds_toArray, List.set_cons_zero, List.set_cons_succ]) (j311 (g, h, q2) _ ⟨hA3, (hAn.same _ (blk_lt hsl) (fun h => h)).trans hsl, (hAn.same _ (blk_lt hz) (fun h => h)).trans hz, hzl, hTn⟩)
      intro j211
      refine join_ (σ := Nat × Nat × Value) 9 #[true, true, true, true, true, true, true, false, false, false, false, false, false, false, false, false] (fun s_ : Nat × Nat × Value => ([(50, .agg #[.int .i64 db, .int .i64 qb, .int .i64 eb]), (52, .string y), (53, .slice (some ⟨s_.1, 0, none⟩) 2 2)] : List (Tmp × Value))) (fun s_ w' => Acts (fun _ => False) (w6.alloc (.cells #[.int .i64 0, .int .i64 0] 35)) w' ∧ w'.heap[s_.1]? = some (.cells #[.int .i64 1, .int .i64 5] 3 (0, 0))) ?_ ?_
      · rintro ⟨g, h, q⟩ wc ⟨hA, hsl⟩
        have hHeld := hS _ hA
        refine norm_ (a' := ?_) ?_ ?_
        rotate_left
        · simp only [putAll, Act.put, List.setIfInBounds_toArray, List.set_cons_zero, List.set_cons_succ]
          rfl
        refine two_ (i := 7) (j := 12) (Ni := some 54) (Nj := some 12) #[true, true, true, true, true, true, true, true, false, false, false, false, false, false, false, false] #[true, true, true, true, true, true, true, false, false, false, false, false, true, false, false, false] rfl rfl rfl rfl (by kernel_rfl) (by decide) (by decide) (fun K hK => ?_) (fun K hK => ?_)
        · skip
          refine goes_ Tryd.func14 (by kernel_rfl) rfl #[.agg #[.int .u8 db, .int .u8 qb, .int .i64 eb], .agg #[.int .i64 2147483648, .int .i64 2147483648, .int .i64 2147483648, .bool false], .string y, .slice (some ⟨g, 0, none⟩) 2 2] (by rfl) rfl rfl (by simp only [List.map_toArray, List.map_cons, List.map_nil]; rfl) ?_
          with_reducible refine (hf2 (some ⟨g, 0, none⟩) _ (HA7.out.trans hA (fun _ h => .inl h)) (lits_C [1, 5] hsl (by decide))).mono ?_
          rintro e wn ⟨q2, rfl, hTn, hAn⟩
          refine ⟨_, rfl, ?_⟩
          have hA3 : Acts (fun _ => False) (w6.alloc (.cells #[.int .i64 0, .int .i64 0] 35)) wn := hA.trans hAn (fun _ h => .inl h)
          refine hK.out _ _ (hS _ hA3) (fun hHeld => ?_)
          clear hK K
          refine norm_ (a' := ?_) ?_ ?_
          rotate_left
          · show Act.put _ (some 54) _ = _
            simp only [Act.put, List.setIfInBounds_toArray, List.set_cons_zero, List.set_cons_succ]
            rfl
          refine pure_ (i := 8) (N := some 46) (v := ?_) (a' := ?_) #[true, true, true, true, true, true, true, true, true, false, false, false, false, false, false, false] rfl rfl (by kernel_rfl) (fun _ _ _ h => h) (Or.inl ⟨by rfl, ?_⟩) ?_ ?_
          rotate_left
          · intro w'
            go_simp
            with_reducible rfl
          rotate_left
          · simp only [Act.put, List.setIfInBounds_toArray, List.set_cons_zero, List.set_cons_succ]
            rfl
          refine pure_ (i := 9) (N := some 55) (v := ?_) (a' := ?_) #[true, true, true, true, true, true, true, true, true, true, false, false, false, false, false, false] rfl rfl (by kernel_rfl) (fun _ _ _ h => h) (Or.inl ⟨by rfl, ?_⟩) ?_ ?_
          rotate_left
          · intro w'
            go_simp
            with_reducible rfl
          rotate_left
          · simp only [Act.put, List.setIfInBounds_toArray, List.set_cons_zero, List.set_cons_succ]
            rfl
          refine pure_ (i := 10) (N := some 56) (v := ?_) (a' := ?_) #[true, true, true, true, true, true, true, true, true, true, true, false, false, false, false, false] rfl rfl (by kernel_rfl) (fun _ _ _ h => h) (Or.inl ⟨by rfl, ?_⟩) ?_ ?_
          rotate_left
          · intro w'
            go_simp
            with_reducible rfl
          rotate_left
          · simp only [Act.put, List.setIfInBounds_toArray, List.set_cons_zero, List.set_cons_succ]
            rfl
          refine pure_ (i := 11) (N := some 57) (v := ?_) (a' := ?_) #[true, true, true, true, true, true, true, true, true, true, true, true, false, false, false, false] rfl rfl (by kernel_rfl) (fun _ _ _ h => h) (Or.inl ⟨by rfl, ?_⟩) ?_ ?_
          rotate_left
          · intro w'
            go_simp
            with_reducible rfl
          rotate_left
          · simp only [Act.put, List.setIfInBounds_toArray, List.set_cons_zero, List.set_cons_succ]
            rfl
          exact norm_ (by simp only [putAll, Act.put, List.setIfInBounds_toArray, List.set_cons_zero, List.set_cons_succ]) (j310 (g, h, q2) _ ⟨hA3, (hAn.same _ (blk_lt hsl) (fun h => h)).trans hsl, hTn⟩)
        · skip
          refine box_step ?hg (N := 12) ?hd (cs := #[.int .i64 0, .int .i64 0]) (t := 35) ?hr ?_; (case hd => rfl); (case hg => rfl); (case hr => first | (go_simp; done) | (go_simp; rfl))
          intro h1n hgn wn hbox hBn
          have hAn : Acts (fun _ => False) _ wn := Acts.of_below hBn
          have hzl : (w6.alloc (.cells #[.int .i64 0, .int .i64 0] 35)).heap.size ≤ h1n := by rw [hgn]; exact (hA).size
          have hA3 : Acts (fun _ => False) (w6.alloc (.cells #[.int .i64 0, .int .i64 0] 35)) wn := hA.trans hAn (fun _ h => .inl h)
          refine hK.out _ _ (hS _ hA3) (fun hHeld => ?_)
          clear hK K
          refine norm_ (a' := ?_) ?_ ?_
          rotate_left
          · show Act.put _ (some 12) _ = _
            simp only [Act.put, List.setIfInBounds_toArray, List.set_cons_zero, List.set_cons_succ]
            rfl
          exact norm_ (by simp only [putAll, Act.put, List.setIfInBounds_toArray, List.set_cons_zero, List.set_cons_succ]) (j211 (g, h1n, q) _ ⟨hA3, (hAn.same _ (blk_lt hsl) (fun h => h)).trans hsl, hbox, hzl⟩)
      intro j210
      refine join_ (σ := Nat × Nat × Value) 9 #[true, true, true, true, true, true, false, false, false, false, false, false, true, false, false, false] (fun s_ : Nat × Nat × Value => ([(50, .agg #[.int .i64 db, .int .i64 qb, .int .i64 eb]), (52, .string y), (12, .pointer (some ⟨s_.2.1, 0, none⟩))] : List (Tmp × Value))) (fun s_ w' => Acts (fun _ => False) (w6.alloc (.cells #[.int .i64 0, .int .i64 0] 35)) w' ∧ w'.heap[s_.2.1]? = some (.cells #[.int .i64 0, .int .i64 0] 35 (0, 0)) ∧ (w6.alloc (.cells #[.int .i64 0, .int .i64 0] 35)).heap.size ≤ s_.2.1) ?_ ?_
      · rintro ⟨g, h, q⟩ wc ⟨hA, hz, hzl⟩
        have hHeld := hS _ hA
        refine norm_ (a' := ?_) ?_ ?_
        rotate_left
        · simp only [putAll, Act.put, List.setIfInBounds_toArray, List.set_cons_zero, List.set_cons_succ]
          rfl
        refine one_ (i := 6) (N := some 53) #[true, true, true, true, true, true, true, false, false, false, false, false, true, false, false, false] rfl rfl (by kernel_rfl) (by decide) (fun K hK => ?_)
        obtain ⟨wn, hwn⟩ : ∃ wn, (wc).alloc (.cells #[.int .i64 1, .int .i64 5] 3) = wn := ⟨_, rfl⟩
        refine value_ (w1 := wn) (v := .slice (some ⟨(wc).heap.size, 0, none⟩) 2 2) (by rfl) rfl ?_ ?_
        · rw [← hwn]
          first | (go_simp; done) | (go_simp; rfl)
        have hAn : Acts (fun _ => False) (wc) wn := by rw [← hwn]; exact Acts.alloc _ _ _
        have hsl : wn.heap[(wc).heap.size]? = some (.cells #[.int .i64 1, .int .i64 5] 3 (0, 0)) := by rw [← hwn]; simpa using heap_alloc_new (wc) (.cells #[.int .i64 1, .int .i64 5] 3)
        have hA3 : Acts (fun _ => False) (w6.alloc (.cells #[.int .i64 0, .int .i64 0] 35)) wn := hA.trans hAn (fun _ h => .inl h)
        refine hK.out _ _ (hS _ hA3) (fun hHeld => ?_)
        clear hK K
        refine norm_ (a' := ?_) ?_ ?_
        rotate_left
        · show Act.put _ (some 53) _ = _
          simp only [Act.put, List.setIfInBounds_toArray, List.set_cons_zero, List.set_cons_succ]
          rfl
        exact norm_ (by simp only [putAll, Act.put, List.setIfInBounds_toArray, List.set_cons_zero, List.set_cons_succ]) (j211 ((wc).heap.size, h, q) _ ⟨hA3, hsl, (hAn.same _ (blk_lt hz) (fun h => h)).trans hz, hzl⟩)
      intro j201
      refine join_ (σ := Nat × Nat × Value) 10 #[true, true, true, true, true, true, false, false, false, false, false, false, false, false, false, false] (fun s_ : Nat × Nat × Value => ([(50, .agg #[.int .i64 db, .int .i64 qb, .int .i64 eb]), (52, .string y)] : List (Tmp × Value))) (fun s_ w' => Acts (fun _ => False) (w6.alloc (.cells #[.int .i64 0, .int .i64 0] 35)) w') ?_ ?_
      · rintro ⟨g, h, q⟩ wc hA
        have hHeld := hS _ hA
        refine norm_ (a' := ?_) ?_ ?_
        rotate_left
        · simp only [putAll, Act.put, List.setIfInBounds_toArray, List.set_cons_zero, List.set_cons_succ]
          rfl
        refine two_ (i := 6) (j := 12) (Ni := some 53) (Nj := some 12) #[true, true, true, true, true, true, true, false, false, false, false, false, false, false, false, false] #[true, true, true, true, true, true, false, false, false, false, false, false, true, false, false, false] rfl rfl rfl rfl (by kernel_rfl) (by decide) (by decide) (fun K hK => ?_) (fun K hK => ?_)
        · skip
          obtain ⟨wn, hwn⟩ : ∃ wn, (wc).alloc (.cells #[.int .i64 1, .int .i64 5] 3) = wn := ⟨_, rfl⟩
          refine value_ (w1 := wn) (v := .slice (some ⟨(wc).heap.size, 0, none⟩) 2 2) (by rfl) rfl ?_ ?_
          · rw [← hwn]
            first | (go_simp; done) | (go_simp; rfl)
          have hAn : Acts (fun _ => False) (wc) wn := by rw [← hwn]; exact Acts.alloc _ _ _
          have hsl : wn.heap[(wc).heap.size]? = some (.cells #[.int .i64 1, .int .i64 5] 3 (0, 0)) := by rw [← hwn]; simpa using heap_alloc_new (wc) (.cells #[.int .i64 1, .int .i64 5] 3)
          have hA3 : Acts (fun _ => False) (w6.alloc (.cells #[.int .i64 0, .int .i64 0] 35)) wn := hA.trans hAn (fun _ h => .inl h)
          refine hK.out _ _ (hS _ hA3) (fun hHeld => ?_)
          clear hK K
          refine norm_ (a' := ?_) ?_ ?_
          rotate_left
          · show Act.put _ (some 53) _ = _
            simp only [Act.put, List.setIfInBounds_toArray, List.set_cons_zero, List.set_cons_succ]
            rfl
          exact norm_ (by simp only [putAll, Act.put, List.setIfInBounds_toArray, List.set_cons_zero, List.set_cons_succ]) (j210 ((wc).heap.size, h, q) _ ⟨hA3, hsl⟩)
        · skip
          refine box_step ?hg (N := 12) ?hd (cs := #[.int .i64 0, .int .i64 0]) (t := 35) ?hr ?_; (case hd => rfl); (case hg => rfl); (case hr => first | (go_simp; done) | (go_simp; rfl))
          intro h1n hgn wn hbox hBn
          have hAn : Acts (fun _ => False) _ wn := Acts.of_below hBn
          have hzl : (w6.alloc (.cells #[.int .i64 0, .int .i64 0] 35)).heap.size ≤ h1n := by rw [hgn]; exact (hA).size
          have hA3 : Acts (fun _ => False) (w6.alloc (.cells #[.int .i64 0, .int .i64 0] 35)) wn := hA.trans hAn (fun _ h => .inl h)
          refine hK.out _ _ (hS _ hA3) (fun hHeld => ?_)
          clear hK K
          refine norm_ (a' := ?_) ?_ ?_
          rotate_left
          · show Act.put _ (some 12) _ = _
            simp only [Act.put, List.setIfInBounds_toArray, List.set_cons_zero, List.set_cons_succ]
            rfl
          exact norm_ (by simp only [putAll, Act.put, List.setIfInBounds_toArray, List.set_cons_zero, List.set_cons_succ]) (j201 (g, h1n, q) _ ⟨hA3, hbox, hzl⟩)
      intro j200
      refine join_ (σ := Nat × Nat × Value) 9 #[true, true, true, true, true, false, true, false, false, false, false, false, true, false, false, false] (fun s_ : Nat × Nat × Value => ([(50, .agg #[.int .i64 db, .int .i64 qb, .int .i64 eb]), (53, .slice (some ⟨s_.1, 0, none⟩) 2 2), (12, .pointer (some ⟨s_.2.1, 0, none⟩))] : List (Tmp × Value))) (fun s_ w' => Acts (fun _ => False) (w6.alloc (.cells #[.int .i64 0, .int .i64 0] 35)) w' ∧ w'.heap[s_.1]? = some (.cells #[.int .i64 1, .int .i64 5] 3 (0, 0)) ∧ w'.heap[s_.2.1]? = some (.cells #[.int .i64 0, .int .i64 0] 35 (0, 0)) ∧ (w6.alloc (.cells #[.int .i64 0, .int .i64 0] 35)).heap.size ≤ s_.2.1) ?_ ?_
      · rintro ⟨g, h, q⟩ wc ⟨hA, hsl, hz, hzl⟩
        have hHeld := hS _ hA
        refine norm_ (a' := ?_) ?_ ?_
        rotate_left
        · simp only [putAll, Act.put, List.setIfInBounds_toArray, List.set_cons_zero, List.set_cons_succ]
          rfl
        refine one_ (i := 5) (N := some 52) #[true, true, true, true, true, true, true, false, false, false, false, false, true, false, false, false] rfl rfl (by kernel_rfl) (by decide) (fun K hK => ?_)
        refine goes_ Tryd.func18 (by kernel_rfl) rfl #[.agg #[.int .i64 db, .int .i64 qb, .int .i64 eb], .slice a1 t.length b1] (by rfl) rfl rfl (by simp only [List.map_toArray, List.map_cons, List.map_nil]; rfl) ?_
        with_reducible refine (htx a1 b1 _ (Kd.C_below HC7.out (hA.below (Nat.le_refl _) (fun _ _ h => h))) hab1).mono ?_
        rintro e wn ⟨rfl, hBn⟩
        refine ⟨_, rfl, ?_⟩
        have hAn : Acts (fun _ => False) _ wn := Acts.of_below hBn
        have hA3 : Acts (fun _ => False) (w6.alloc (.cells #[.int .i64 0, .int .i64 0] 35)) wn := hA.trans hAn (fun _ h => .inl h)
        refine hK.out _ _ (hS _ hA3) (fun hHeld => ?_)
        clear hK K
        refine norm_ (a' := ?_) ?_ ?_
        rotate_left
        · show Act.put _ (some 52) _ = _
          simp only [Act.put, List.setIfInBounds_toArray, List.set_cons_zero, List.set_cons_succ]
          rfl
        exact norm_ (by simp only [putAll, Act.put, List.setIfInBounds_toArray, List.set_cons_zero, List.set_cons_succ]) (j211 (g, h, q) _ ⟨hA3, (hAn.same _ (blk_lt hsl) (fun h => h)).trans hsl, (hAn.same _ (blk_lt hz) (fun h => h)).trans hz, hzl⟩)
      intro j111
      refine join_ (σ := Nat × Nat × Value) 10 #[true, true, true, true, true, false, true, false, false, false, false, false, false, false, false, false] (fun s_ : Nat × Nat × Value => ([(50, .agg #[.int .i64 db, .int .i64 qb, .int .i64 eb]), (53, .slice (some ⟨s_.1, 0, none⟩) 2 2)] : List (Tmp × Value))) (fun s_ w' => Acts (fun _ => False) (w6.alloc (.cells #[.int .i64 0, .int .i64 0] 35)) w' ∧ w'.heap[s_.1]? = some (.cells #[.int .i64 1, .int .i64 5] 3 (0, 0))) ?_ ?_
      · rintro ⟨g, h, q⟩ wc ⟨hA, hsl⟩
        have hHeld := hS _ hA
        refine norm_ (a' := ?_) ?_ ?_
        rotate_left
        · simp only [putAll, Act.put, List.setIfInBounds_toArray, List.set_cons_zero, List.set_cons_succ]
          rfl
        refine two_ (i := 5) (j := 12) (Ni := some 52) (Nj := some 12) #[true, true, true, true, true, true, true, false, false, false, false, false, false, false, false, false] #[true, true, true, true, true, false, true, false, false, false, false, false, true, false, false, false] rfl rfl rfl rfl (by kernel_rfl) (by decide) (by decide) (fun K hK => ?_) (fun K hK => ?_)
        · skip
          refine goes_ Tryd.func18 (by kernel_rfl) rfl #[.agg #[.int .i64 db, .int .i64 qb, .int .i64 eb], .slice a1 t.length b1] (by rfl) rfl rfl (by simp only [List.map_toArray, List.map_cons, List.map_nil]; rfl) ?_
          with_reducible refine (htx a1 b1 _ (Kd.C_below HC7.out (hA.below (Nat.le_refl _) (fun _ _ h => h))) hab1).mono ?_
          rintro e wn ⟨rfl, hBn⟩
          refine ⟨_, rfl, ?_⟩
          have hAn : Acts (fun _ => False) _ wn := Acts.of_below hBn
          have hA3 : Acts (fun _ => False) (w6.alloc (.cells #[.int .i64 0, .int .i64 0] 35)) wn := hA.trans hAn (fun _ h => .inl h)
          refine hK.out _ _ (hS _ hA3) (fun hHeld => ?_)
          clear hK K
          refine norm_ (a' := ?_) ?_ ?_
          rotate_left
          · show Act.put _ (some 52) _ = _
            simp only [Act.put, List.setIfInBounds_toArray, List.set_cons_zero, List.set_cons_succ]
            rfl
          exact norm_ (by simp only [putAll, Act.put, List.setIfInBounds_toArray, List.set_cons_zero, List.set_cons_succ]) (j210 (g, h, q) _ ⟨hA3, (hAn.same _ (blk_lt hsl) (fun h => h)).trans hsl⟩)
        · skip
          refine box_step ?hg (N := 12) ?hd (cs := #[.int .i64 0, .int .i64 0]) (t := 35) ?hr ?_; (case hd => rfl); (case hg => rfl); (case hr => first | (go_simp; done) | (go_simp; rfl))
          intro h1n hgn wn hbox hBn
          have hAn : Acts (fun _ => False) _ wn := Acts.of_below hBn
          have hzl : (w6.alloc (.cells #[.int .i64 0, .int .i64 0] 35)).heap.size ≤ h1n := by rw [hgn]; exact (hA).size
          have hA3 : Acts (fun _ => False) (w6.alloc (.cells #[.int .i64 0, .int .i64 0] 35)) wn := hA.trans hAn (fun _ h => .inl h)
          refine hK.out _ _ (hS _ hA3) (fun hHeld => ?_)
          clear hK K
          refine norm_ (a' := ?_) ?_ ?_
          rotate_left
          · show Act.put _ (some 12) _ = _
            simp only [Act.put, List.setIfInBounds_toArray, List.set_cons_zero, List.set_cons_succ]
            rfl
          exact norm_ (by simp only [putAll, Act.put, List.setIfInBounds_toArray, List.set_cons_zero, List.set_cons_succ]) (j111 (g, h1n, q) _ ⟨hA3, (hAn.same _ (blk_lt hsl) (fun h => h)).trans hsl, hbox, hzl⟩)
      intro j110
      refine join_ (σ := Nat × Nat × Value) 10 #[true, true, true, true, true, false, false, false, false, false, false, false, true, false, false, false] (fun s_ : Nat × Nat × Value => ([(50, .agg #[.int .i64 db, .int .i64 qb, .int .i64 eb]), (12, .pointer (some ⟨s_.2.1, 0, none⟩))] : List (Tmp × Value))) (fun s_ w' => Acts (fun _ => False) (w6.alloc (.cells #[.int .i64 0, .int .i64 0] 35)) w' ∧ w'.heap[s_.2.1]? = some (.cells #[.int .i64 0, .int .i64 0] 35 (0, 0)) ∧ (w6.alloc (.cells #[.int .i64 0, .int .i64 0] 35)).heap.size ≤ s_.2.1) ?_ ?_
      · rintro ⟨g, h, q⟩ wc ⟨hA, hz, hzl⟩
        have hHeld := hS _ hA
        refine norm_ (a' := ?_) ?_ ?_
        rotate_left
        · simp only [putAll, Act.put, List.setIfInBounds_toArray, List.set_cons_zero, List.set_cons_succ]
          rfl
        refine two_ (i := 5) (j := 6) (Ni := some 52) (Nj := some 53) #[true, true, true, true, true, true, false, false, false, false, false, false, true, false, false, false] #[true, true, true, true, true, false, true, false, false, false, false, false, true, false, false, false] rfl rfl rfl rfl (by kernel_rfl) (by decide) (by decide) (fun K hK => ?_) (fun K hK => ?_)
        · skip
          refine goes_ Tryd.func18 (by kernel_rfl) rfl #[.agg #[.int .i64 db, .int .i64 qb, .int .i64 eb], .slice a1 t.length b1] (by rfl) rfl rfl (by simp only [List.map_toArray, List.map_cons, List.map_nil]; rfl) ?_
          with_reducible refine (htx a1 b1 _ (Kd.C_below HC7.out (hA.below (Nat.le_refl _) (fun _ _ h => h))) hab1).mono ?_
          rintro e wn ⟨rfl, hBn⟩
          refine ⟨_, rfl, ?_⟩
          have hAn : Acts (fun _ => False) _ wn := Acts.of_below hBn
          have hA3 : Acts (fun _ => False) (w6.alloc (.cells #[.int .i64 0, .int .i64 0] 35)) wn := hA.trans hAn (fun _ h => .inl h)
          refine hK.out _ _ (hS _ hA3) (fun hHeld => ?_)
          clear hK K
          refine norm_ (a' := ?_) ?_ ?_
          rotate_left
          · show Act.put _ (some 52) _ = _
            simp only [Act.put, List.setIfInBounds_toArray, List.set_cons_zero, List.set_cons_succ]
            rfl
          exact norm_ (by simp only [putAll, Act.put, List.setIfInBounds_toArray, List.set_cons_zero, List.set_cons_succ]) (j201 (g, h, q) _ ⟨hA3, (hAn.same _ (blk_lt hz) (fun h => h)).trans hz, hzl⟩)
        · skip
          obtain ⟨wn, hwn⟩ : ∃ wn, (wc).alloc (.cells #[.int .i64 1, .int .i64 5] 3) = wn := ⟨_, rfl⟩
          refine value_ (w1 := wn) (v := .slice (some ⟨(wc).heap.size, 0, none⟩) 2 2) (by rfl) rfl ?_ ?_
          · rw [← hwn]
            first | (go_simp; done) | (go_simp; rfl)
          have hAn : Acts (fun _ => False) (wc) wn := by rw [← hwn]; exact Acts.alloc _ _ _
          have hsl : wn.heap[(wc).heap.size]? = some (.cells #[.int .i64 1, .int .i64 5] 3 (0, 0)) := by rw [← hwn]; simpa using heap_alloc_new (wc) (.cells #[.int .i64 1, .int .i64 5] 3)
          have hA3 : Acts (fun _ => False) (w6.alloc (.cells #[.int .i64 0, .int .i64 0] 35)) wn := hA.trans hAn (fun _ h => .inl h)
          refine hK.out _ _ (hS _ hA3) (fun hHeld => ?_)
          clear hK K
          refine norm_ (a' := ?_) ?_ ?_
          rotate_left
          · show Act.put _ (some 53) _ = _
            simp only [Act.put, List.setIfInBounds_toArray, List.set_cons_zero, List.set_cons_succ]
            rfl
          exact norm_ (by simp only [putAll, Act.put, List.setIfInBounds_toArray, List.set_cons_zero, List.set_cons_succ]) (j111 ((wc).heap.size, h, q) _ ⟨hA3, hsl, (hAn.same _ (blk_lt hz) (fun h => h)).trans hz, hzl⟩)
      intro j101
      refine join_ (σ := Nat × Nat × Value) 11 #[true, true, true, true, true, false, false, false, false, false, false, false, false, false, false, false] (fun s_ : Nat × Nat × Value => ([(50, .agg #[.int .i64 db, .int .i64 qb, .int .i64 eb])] : List (Tmp × Value))) (fun s_ w' => Acts (fun _ => False) (w6.alloc (.cells #[.int .i64 0, .int .i64 0] 35)) w') ?_ ?_
      · rintro ⟨g, h, q⟩ wc hA
        have hHeld := hS _ hA
        refine norm_ (a' := ?_) ?_ ?_
        rotate_left
        · simp only [putAll, Act.put, List.setIfInBounds_toArray, List.set_cons_zero, List.set_cons_succ]
          rfl
        refine three_ (i := 5) (j := 6) (k := 12) (Ni := some 52) (Nj := some 53) (Nk := some 12) #[true, true, true, true, true, true, false, false, false, false, false, false, false, false, false, false] #[true, true, true, true, true, false, true, false, false, false, false, false, false, false, false, false] #[true, true, true, true, true, false, false, false, false, false, false, false, true, false, false, false] rfl rfl rfl rfl rfl rfl (by kernel_rfl) (by decide) (by decide) (by decide) (fun K hK => ?_) (fun K hK => ?_) (fun K hK => ?_)
        · skip
          refine goes_ Tryd.func18 (by kernel_rfl) rfl #[.agg #[.int .i64 db, .int .i64 qb, .int .i64 eb], .slice a1 t.length b1] (by rfl) rfl rfl (by simp only [List.map_toArray, List.map_cons, List.map_nil]; rfl) ?_
          with_reducible refine (htx a1 b1 _ (Kd.C_below HC7.out (hA.below (Nat.le_refl _) (fun _ _ h => h))) hab1).mono ?_
          rintro e wn ⟨rfl, hBn⟩
          refine ⟨_, rfl, ?_⟩
          have hAn : Acts (fun _ => False) _ wn := Acts.of_below hBn
          have hA3 : Acts (fun _ => False) (w6.alloc (.cells #[.int .i64 0, .int .i64 0] 35)) wn := hA.trans hAn (fun _ h => .inl h)
          refine hK.out _ _ (hS _ hA3) (fun hHeld => ?_)
          clear hK K
          refine norm_ (a' := ?_) ?_ ?_
          rotate_left
          · show Act.put _ (some 52) _ = _
            simp only [Act.put, List.setIfInBounds_toArray, List.set_cons_zero, List.set_cons_succ]
            rfl
          exact norm_ (by simp only [putAll, Act.put, List.setIfInBounds_toArray, List.set_cons_zero, List.set_cons_succ]) (j200 (g, h, q) _ hA3)
        · skip
          obtain ⟨wn, hwn⟩ : ∃ wn, (wc).alloc (.cells #[.int .i64 1, .int .i64 5] 3) = wn := ⟨_, rfl⟩
          refine value_ (w1 := wn) (v := .slice (some ⟨(wc).heap.size, 0, none⟩) 2 2) (by rfl) rfl ?_ ?_
          · rw [← hwn]
            first | (go_simp; done) | (go_simp; rfl)
          have hAn : Acts (fun _ => False) (wc) wn := by rw [← hwn]; exact Acts.alloc _ _ _
          have hsl : wn.heap[(wc).heap.size]? = some (.cells #[.int .i64 1, .int .i64 5] 3 (0, 0)) := by rw [← hwn]; simpa using heap_alloc_new (wc) (.cells #[.int .i64 1, .int .i64 5] 3)
          have hA3 : Acts (fun _ => False) (w6.alloc (.cells #[.int .i64 0, .int .i64 0] 35)) wn := hA.trans hAn (fun _ h => .inl h)
          refine hK.out _ _ (hS _ hA3) (fun hHeld => ?_)
          clear hK K
          refine norm_ (a' := ?_) ?_ ?_
          rotate_left
          · show Act.put _ (some 53) _ = _
            simp only [Act.put, List.setIfInBounds_toArray, List.set_cons_zero, List.set_cons_succ]
            rfl
          exact norm_ (by simp only [putAll, Act.put, List.setIfInBounds_toArray, List.set_cons_zero, List.set_cons_succ]) (j110 ((wc).heap.size, h, q) _ ⟨hA3, hsl⟩)
        · skip
          refine box_step ?hg (N := 12) ?hd (cs := #[.int .i64 0, .int .i64 0]) (t := 35) ?hr ?_; (case hd => rfl); (case hg => rfl); (case hr => first | (go_simp; done) | (go_simp; rfl))
          intro h1n hgn wn hbox hBn
          have hAn : Acts (fun _ => False) _ wn := Acts.of_below hBn
          have hzl : (w6.alloc (.cells #[.int .i64 0, .int .i64 0] 35)).heap.size ≤ h1n := by rw [hgn]; exact (hA).size
          have hA3 : Acts (fun _ => False) (w6.alloc (.cells #[.int .i64 0, .int .i64 0] 35)) wn := hA.trans hAn (fun _ h => .inl h)
          refine hK.out _ _ (hS _ hA3) (fun hHeld => ?_)
          clear hK K
          refine norm_ (a' := ?_) ?_ ?_
          rotate_left
          · show Act.put _ (some 12) _ = _
            simp only [Act.put, List.setIfInBounds_toArray, List.set_cons_zero, List.set_cons_succ]
            rfl
          exact norm_ (by simp only [putAll, Act.put, List.setIfInBounds_toArray, List.set_cons_zero, List.set_cons_succ]) (j101 (g, h1n, q) _ ⟨hA3, hbox, hzl⟩)
      intro j100
      refine join_ (σ := Nat × Nat × Value) 10 #[true, true, true, false, true, false, true, false, false, false, false, false, true, false, false, false] (fun s_ : Nat × Nat × Value => ([(53, .slice (some ⟨s_.1, 0, none⟩) 2 2), (12, .pointer (some ⟨s_.2.1, 0, none⟩))] : List (Tmp × Value))) (fun s_ w' => Acts (fun _ => False) (w6.alloc (.cells #[.int .i64 0, .int .i64 0] 35)) w' ∧ w'.heap[s_.1]? = some (.cells #[.int .i64 1, .int .i64 5] 3 (0, 0)) ∧ w'.heap[s_.2.1]? = some (.cells #[.int .i64 0, .int .i64 0] 35 (0, 0)) ∧ (w6.alloc (.cells #[.int .i64 0, .int .i64 0] 35)).heap.size ≤ s_.2.1) ?_ ?_
      · rintro ⟨g, h, q⟩ wc ⟨hA, hsl, hz, hzl⟩
        have hHeld := hS _ hA
        refine norm_ (a' := ?_) ?_ ?_
        rotate_left
        · simp only [putAll, Act.put, List.setIfInBounds_toArray, List.set_cons_zero, List.set_cons_succ]
          rfl
        refine one_ (i := 3) (N := some 50) #[true, true, true, true, true, false, true, false, false, false, false, false, true, false, false, false] rfl rfl (by kernel_rfl) (by decide) (fun K hK => ?_)
        refine goes_ Tryd.func17 (by kernel_rfl) rfl #[.agg #[.int .u8 db, .int .u8 qb, .int .i64 eb]] (by rfl) rfl rfl (by simp only [List.map_toArray, List.map_cons, List.map_nil]; rfl) ?_
        with_reducible refine (hrb _).mono ?_
        rintro e wn ⟨rfl, hAn⟩
        refine ⟨_, rfl, ?_⟩
        have hA3 : Acts (fun _ => False) (w6.alloc (.cells #[.int .i64 0, .int .i64 0] 35)) wn := hA.trans hAn (fun _ h => .inl h)
        refine hK.out _ _ (hS _ hA3) (fun hHeld => ?_)
        clear hK K
        refine norm_ (a' := ?_) ?_ ?_
        rotate_left
        · show Act.put _ (some 50) _ = _
          simp only [Act.put, List.setIfInBounds_toArray, List.set_cons_zero, List.set_cons_succ]
          rfl
        exact norm_ (by simp only [putAll, Act.put, List.setIfInBounds_toArray, List.set_cons_zero, List.set_cons_succ]) (j111 (g, h, q) _ ⟨hA3, (hAn.same _ (blk_lt hsl) (fun h => h)).trans hsl, (hAn.same _ (blk_lt hz) (fun h => h)).trans hz, hzl⟩)
      intro j011
      refine join_ (σ := Nat × Nat × Value) 11 #[true, true, true, false, true, false, true, false, false, false, false, false, false, false, false, false] (fun s_ : Nat × Nat × Value => ([(53, .slice (some ⟨s_.1, 0, none⟩) 2 2)] : List (Tmp × Value))) (fun s_ w' => Acts (fun _ => False) (w6.alloc (.cells #[.int .i64 0, .int .i64 0] 35)) w' ∧ w'.heap[s_.1]? = some (.cells #[.int .i64 1, .int .i64 5] 3 (0, 0))) ?_ ?_
      · rintro ⟨g, h, q⟩ wc ⟨hA, hsl⟩
        have hHeld := hS _ hA
        refine norm_ (a' := ?_) ?_ ?_
        rotate_left
        · simp only [putAll, Act.put, List.setIfInBounds_toArray, List.set_cons_zero, List.set_cons_succ]
          rfl
        refine two_ (i := 3) (j := 12) (Ni := some 50) (Nj := some 12) #[true, true, true, true, true, false, true, false, false, false, false, false, false, false, false, false] #[true, true, true, false, true, false, true, false, false, false, false, false, true, false, false, false] rfl rfl rfl rfl (by kernel_rfl) (by decide) (by decide) (fun K hK => ?_) (fun K hK => ?_)
        · skip
          refine goes_ Tryd.func17 (by kernel_rfl) rfl #[.agg #[.int .u8 db, .int .u8 qb, .int .i64 eb]] (by rfl) rfl rfl (by simp only [List.map_toArray, List.map_cons, List.map_nil]; rfl) ?_
          with_reducible refine (hrb _).mono ?_
          rintro e wn ⟨rfl, hAn⟩
          refine ⟨_, rfl, ?_⟩
          have hA3 : Acts (fun _ => False) (w6.alloc (.cells #[.int .i64 0, .int .i64 0] 35)) wn := hA.trans hAn (fun _ h => .inl h)
          refine hK.out _ _ (hS _ hA3) (fun hHeld => ?_)
          clear hK K
          refine norm_ (a' := ?_) ?_ ?_
          rotate_left
          · show Act.put _ (some 50) _ = _
            simp only [Act.put, List.setIfInBounds_toArray, List.set_cons_zero, List.set_cons_succ]
            rfl
          exact norm_ (by simp only [putAll, Act.put, List.setIfInBounds_toArray, List.set_cons_zero, List.set_cons_succ]) (j110 (g, h, q) _ ⟨hA3, (hAn.same _ (blk_lt hsl) (fun h => h)).trans hsl⟩)
        · skip
          refine box_step ?hg (N := 12) ?hd (cs := #[.int .i64 0, .int .i64 0]) (t := 35) ?hr ?_; (case hd => rfl); (case hg => rfl); (case hr => first | (go_simp; done) | (go_simp; rfl))
          intro h1n hgn wn hbox hBn
          have hAn : Acts (fun _ => False) _ wn := Acts.of_below hBn
          have hzl : (w6.alloc (.cells #[.int .i64 0, .int .i64 0] 35)).heap.size ≤ h1n := by rw [hgn]; exact (hA).size
          have hA3 : Acts (fun _ => False) (w6.alloc (.cells #[.int .i64 0, .int .i64 0] 35)) wn := hA.trans hAn (fun _ h => .inl h)
          refine hK.out _ _ (hS _ hA3) (fun hHeld => ?_)
          clear hK K
          refine norm_ (a' := ?_) ?_ ?_
          rotate_left
          · show Act.put _ (some 12) _ = _
            simp only [Act.put, List.setIfInBounds_toArray, List.set_cons_zero, List.set_cons_succ]
            rfl
          exact norm_ (by simp only [putAll, Act.put, List.setIfInBounds_toArray, List.set_cons_zero, List.set_cons_succ]) (j011 (g, h1n, q) _ ⟨hA3, (hAn.same _ (blk_lt hsl) (fun h => h)).trans hsl, hbox, hzl⟩)
      intro j010
      refine join_ (σ := Nat × Nat × Value) 11 #[true, true, true, false, true, false, false, false, false, false, false, false, true, false, false, false] (fun s_ : Nat × Nat × Value => ([(12, .pointer (some ⟨s_.2.1, 0, none⟩))] : List (Tmp × Value))) (fun s_ w' => Acts (fun _ => False) (w6.alloc (.cells #[.int .i64 0, .int .i64 0] 35)) w' ∧ w'.heap[s_.2.1]? = some (.cells #[.int .i64 0, .int .i64 0] 35 (0, 0)) ∧ (w6.alloc (.cells #[.int .i64 0, .int .i64 0] 35)).heap.size ≤ s_.2.1) ?_ ?_
      · rintro ⟨g, h, q⟩ wc ⟨hA, hz, hzl⟩
        have hHeld := hS _ hA
        refine norm_ (a' := ?_) ?_ ?_
        rotate_left
        · simp only [putAll, Act.put, List.setIfInBounds_toArray, List.set_cons_zero, List.set_cons_succ]
          rfl
        refine two_ (i := 3) (j := 6) (Ni := some 50) (Nj := some 53) #[true, true, true, true, true, false, false, false, false, false, false, false, true, false, false, false] #[true, true, true, false, true, false, true, false, false, false, false, false, true, false, false, false] rfl rfl rfl rfl (by kernel_rfl) (by decide) (by decide) (fun K hK => ?_) (fun K hK => ?_)
        · skip
          refine goes_ Tryd.func17 (by kernel_rfl) rfl #[.agg #[.int .u8 db, .int .u8 qb, .int .i64 eb]] (by rfl) rfl rfl (by simp only [List.map_toArray, List.map_cons, List.map_nil]; rfl) ?_
          with_reducible refine (hrb _).mono ?_
          rintro e wn ⟨rfl, hAn⟩
          refine ⟨_, rfl, ?_⟩
          have hA3 : Acts (fun _ => False) (w6.alloc (.cells #[.int .i64 0, .int .i64 0] 35)) wn := hA.trans hAn (fun _ h => .inl h)
          refine hK.out _ _ (hS _ hA3) (fun hHeld => ?_)
          clear hK K
          refine norm_ (a' := ?_) ?_ ?_
          rotate_left
          · show Act.put _ (some 50) _ = _
            simp only [Act.put, List.setIfInBounds_toArray, List.set_cons_zero, List.set_cons_succ]
            rfl
          exact norm_ (by simp only [putAll, Act.put, List.setIfInBounds_toArray, List.set_cons_zero, List.set_cons_succ]) (j101 (g, h, q) _ ⟨hA3, (hAn.same _ (blk_lt hz) (fun h => h)).trans hz, hzl⟩)
        · skip
          obtain ⟨wn, hwn⟩ : ∃ wn, (wc).alloc (.cells #[.int .i64 1, .int .i64 5] 3) = wn := ⟨_, rfl⟩
          refine value_ (w1 := wn) (v := .slice (some ⟨(wc).heap.size, 0, none⟩) 2 2) (by rfl) rfl ?_ ?_
          · rw [← hwn]
            first | (go_simp; done) | (go_simp; rfl)
          have hAn : Acts (fun _ => False) (wc) wn := by rw [← hwn]; exact Acts.alloc _ _ _
          have hsl : wn.heap[(wc).heap.size]? = some (.cells #[.int .i64 1, .int .i64 5] 3 (0, 0)) := by rw [← hwn]; simpa using heap_alloc_new (wc) (.cells #[.int .i64 1, .int .i64 5] 3)
          have hA3 : Acts (fun _ => False) (w6.alloc (.cells #[.int .i64 0, .int .i64 0] 35)) wn := hA.trans hAn (fun _ h => .inl h)
          refine hK.out _ _ (hS _ hA3) (fun hHeld => ?_)
          clear hK K
          refine norm_ (a' := ?_) ?_ ?_
          rotate_left
          · show Act.put _ (some 53) _ = _
            simp only [Act.put, List.setIfInBounds_toArray, List.set_cons_zero, List.set_cons_succ]
            rfl
          exact norm_ (by simp only [putAll, Act.put, List.setIfInBounds_toArray, List.set_cons_zero, List.set_cons_succ]) (j011 ((wc).heap.size, h, q) _ ⟨hA3, hsl, (hAn.same _ (blk_lt hz) (fun h => h)).trans hz, hzl⟩)
      intro j001
      refine three_ (i := 3) (j := 6) (k := 12) (Ni := some 50) (Nj := some 53) (Nk := some 12) #[true, true, true, true, true, false, false, false, false, false, false, false, false, false, false, false] #[true, true, true, false, true, false, true, false, false, false, false, false, false, false, false, false] #[true, true, true, false, true, false, false, false, false, false, false, false, true, false, false, false] rfl rfl rfl rfl rfl rfl (by kernel_rfl) (by decide) (by decide) (by decide) (fun K hK => ?_) (fun K hK => ?_) (fun K hK => ?_)
      · skip
        refine goes_ Tryd.func17 (by kernel_rfl) rfl #[.agg #[.int .u8 db, .int .u8 qb, .int .i64 eb]] (by rfl) rfl rfl (by simp only [List.map_toArray, List.map_cons, List.map_nil]; rfl) ?_
        with_reducible refine (hrb _).mono ?_
        rintro e wn ⟨rfl, hAn⟩
        refine ⟨_, rfl, ?_⟩
        have hA3 : Acts (fun _ => False) (w6.alloc (.cells #[.int .i64 0, .int .i64 0] 35)) wn := (Acts.drew (fun _ => False) (w6.alloc (.cells #[.int .i64 0, .int .i64 0] 35))).trans hAn (fun _ h => .inl h)
        refine hK.out _ _ (hS _ hA3) (fun hHeld => ?_)
        clear hK K
        refine norm_ (a' := ?_) ?_ ?_
        rotate_left
        · show Act.put _ (some 50) _ = _
          simp only [Act.put, List.setIfInBounds_toArray, List.set_cons_zero, List.set_cons_succ]
          rfl
        exact norm_ (by simp only [putAll, Act.put, List.setIfInBounds_toArray, List.set_cons_zero, List.set_cons_succ]) (j100 (0, 0, undef) _ hA3)
      · skip
        obtain ⟨wn, hwn⟩ : ∃ wn, ((w6.alloc (.cells #[.int .i64 0, .int .i64 0] 35)).drew).alloc (.cells #[.int .i64 1, .int .i64 5] 3) = wn := ⟨_, rfl⟩
        refine value_ (w1 := wn) (v := .slice (some ⟨((w6.alloc (.cells #[.int .i64 0, .int .i64 0] 35)).drew).heap.size, 0, none⟩) 2 2) (by rfl) rfl ?_ ?_
        · rw [← hwn]
          first | (go_simp; done) | (go_simp; rfl)
        have hAn : Acts (fun _ => False) ((w6.alloc (.cells #[.int .i64 0, .int .i64 0] 35)).drew) wn := by rw [← hwn]; exact Acts.alloc _ _ _
        have hsl : wn.heap[((w6.alloc (.cells #[.int .i64 0, .int .i64 0] 35)).drew).heap.size]? = some (.cells #[.int .i64 1, .int .i64 5] 3 (0, 0)) := by rw [← hwn]; simpa using heap_alloc_new ((w6.alloc (.cells #[.int .i64 0, .int .i64 0] 35)).drew) (.cells #[.int .i64 1, .int .i64 5] 3)
        have hA3 : Acts (fun _ => False) (w6.alloc (.cells #[.int .i64 0, .int .i64 0] 35)) wn := (Acts.drew (fun _ => False) (w6.alloc (.cells #[.int .i64 0, .int .i64 0] 35))).trans hAn (fun _ h => .inl h)
        refine hK.out _ _ (hS _ hA3) (fun hHeld => ?_)
        clear hK K
        refine norm_ (a' := ?_) ?_ ?_
        rotate_left
        · show Act.put _ (some 53) _ = _
          simp only [Act.put, List.setIfInBounds_toArray, List.set_cons_zero, List.set_cons_succ]
          rfl
        exact norm_ (by simp only [putAll, Act.put, List.setIfInBounds_toArray, List.set_cons_zero, List.set_cons_succ]) (j010 (((w6.alloc (.cells #[.int .i64 0, .int .i64 0] 35)).drew).heap.size, 0, undef) _ ⟨hA3, hsl⟩)
      · skip
        refine box_step ?hg (N := 12) ?hd (cs := #[.int .i64 0, .int .i64 0]) (t := 35) ?hr ?_; (case hd => rfl); (case hg => rfl); (case hr => first | (go_simp; done) | (go_simp; rfl))
        intro h1n hgn wn hbox hBn
        have hAn : Acts (fun _ => False) _ wn := Acts.of_below hBn
        have hzl : (w6.alloc (.cells #[.int .i64 0, .int .i64 0] 35)).heap.size ≤ h1n := by rw [hgn]; exact ((Acts.drew (fun _ => False) (w6.alloc (.cells #[.int .i64 0, .int .i64 0] 35)))).size
        have hA3 : Acts (fun _ => False) (w6.alloc (.cells #[.int .i64 0, .int .i64 0] 35)) wn := (Acts.drew (fun _ => False) (w6.alloc (.cells #[.int .i64 0, .int .i64 0] 35))).trans hAn (fun _ h => .inl h)
        refine hK.out _ _ (hS _ hA3) (fun hHeld => ?_)
        clear hK K
        refine norm_ (a' := ?_) ?_ ?_
        rotate_left
        · show Act.put _ (some 12) _ = _
          simp only [Act.put, List.setIfInBounds_toArray, List.set_cons_zero, List.set_cons_succ]
          rfl
        exact norm_ (by simp only [putAll, Act.put, List.setIfInBounds_toArray, List.set_cons_zero, List.set_cons_succ]) (j001 (0, h1n, undef) _ ⟨hA3, hbox, hzl⟩)
    rintro ⟨g, h, q⟩ wc ⟨hA, hsl, hz, hzl, hT⟩
    refine norm_ (a' := ?_) ?_ ?_
    rotate_left
    · simp only [putAll, Act.put, List.setIfInBounds_toArray, List.set_cons_zero, List.set_cons_succ]
      rfl
    clear hS HY9 HL9
    have y0 := (blk_cell hz 0).trans rfl
    have z0 := blk_frozen hz 0
    have y1 := (blk_cell hz 1).trans rfl
    have z1 := blk_frozen hz 1
    obtain ⟨wE, hwE⟩ : ∃ wE, (wc.setCell ⟨h, 0, none⟩ (.int .i64 0)).setCell ⟨h, 1, none⟩ (.int .i64 0) = wE := ⟨_, rfl⟩
    have hAs : Acts (fun k => k = h) wc wE := by rw [← hwE]; exact flt_acts wc _ _ _
    have HZE : Hid (wE.heap[h]? = some (.cells #[.int .i64 0, .int .i64 0] 35 (0, 0))) := by show _ = _; rw [← hwE]; exact flt_stored hz _ _
    have hAw : Acts (fun _ => False) (w6.alloc (.cells #[.int .i64 0, .int .i64 0] 35)) wE := hA.trans hAs (fun k e => .inr (by rw [e]; exact hzl))
    have HAE : Hid (Acts (fun _ => False) W wE) := HA7.out.trans hAw (fun _ h => .inl h)
    have hC1E := Kd.C_below HC7.out (hAw.below (Nat.le_refl _) (fun _ _ h => h))
    obtain ⟨a2, b2, rfl, hab2, hC2E⟩ := tab_C (hT.store hz hAs) hlen hrow
    refine pure_ (i := 13) (N := some 11) (v := ?_) (a' := ?_) #[true, true, true, true, true, true, true, true, true, true, true, true, true, true, false, false] rfl rfl (by kernel_rfl) (fun _ _ _ h => h) (Or.inl ⟨by rfl, ?_⟩) ?_ ?_
    rotate_left
    · intro w'
      go_simp
      with_reducible rfl
    rotate_left
    · simp only [Act.put, List.setIfInBounds_toArray, List.set_cons_zero, List.set_cons_succ]
      rfl
    refine last_ (i := 14) (N := none) #[true, true, true, true, true, true, true, true, true, true, true, true, true, true, true, false] rfl rfl (by kernel_rfl) (by decide) (fun K hK => ?_)
    refine skip_ (w1 := wE) (by rfl) rfl ?_ ?_
    · rw [← hwE]
      go_simp
    refine hK.out _ _ ?_
    clear hK K
    refine pure_ (i := 15) (N := some 13) (v := ?_) (a' := ?_) #[true, true, true, true, true, true, true, true, true, true, true, true, true, true, true, true] rfl rfl (by kernel_rfl) (fun _ _ _ h => h) (Or.inl ⟨by rfl, ?_⟩) ?_ ?_
    rotate_left
    · intro w'
      go_simp
      with_reducible rfl
    rotate_left
    · simp only [Act.put, List.setIfInBounds_toArray, List.set_cons_zero, List.set_cons_succ]
      rfl
    refine done_ (by kernel_rfl) ?_
    have e0 := (blk_cell HZE.out 0).trans rfl
    have e1 := (blk_cell HZE.out 1).trans rfl
    clear hA hsl hz hzl hT y0 y1 z0 z1 hAs hAw hwE
    go_wp2_with (first
      | (go_at_call 15; ((with_reducible refine (hst _ _ _ hC1E hab1 _ _ hC2E hab2).mono ?_); rintro e w9 ⟨rfl, hdr⟩; obtain ⟨nd, rfl⟩ := hdr.out))
      | (go_at_call 7; ((with_reducible refine (alive_calls n0 _ (HU.out.acts (HAE.out.trans (Acts.drewN _ _ _) (fun _ h => .inl h)) (fun _ h => h.elim))).mono ?_); rintro e wl ⟨rfl, hAl⟩)))
    go_ret
    exact ⟨rfl, (HAE.out.trans (Acts.drewN _ _ _) (fun _ h => .inl h)).trans hAl (fun _ h => .inl h)⟩
end Go.Proofs.YtmignbhpofmgeaaDoor.Top
