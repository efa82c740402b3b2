/- RowsKeep: the law's walk. -/
import Derived.Test.YtncnnbfejomkoaaRo
import Derived.Deep.LoopGhost
namespace Go.Proofs.Ytncnnbfejomkoaa.Rows14
open Go.RowKit Go.Shelf Go.Proofs.YtncnnbfejomkoaaW.PrintWords Go.Proofs.YtncnnbfejomkoaaW.PrintLast Go.Proofs.YtncnnbfejomkoaaW.PrintMore Go.Proofs.Ytncnnbfejomkoaa.Iter
set_option linter.unusedVariables false
set_option linter.unusedSimpArgs false
attribute [local go_sem] Oper.semAt_some

/-- A loop that is left in one way, and what stands behind it, parted. -/
def outPost (id : Nat) (Φ : Act → Act → World → Prop) (a : Act) : Exit → Act → World → Prop
  | .exit j, a', w' => j = id ∧ Φ a a' w'
  | _, _, _ => False
theorem loop_mid {id : Nat} {c : Code} {Q : Exit → Act → World → Prop} {a : Act} {w : World} (Φ : Act → Act → World → Prop) (h : c.wp Try.prog (outPost id Φ a) a w) (hk : ∀ a' w', Φ a a' w' → Q (.exit id) a' w') : c.wp Try.prog Q a w :=
  Code.wp_mono (fun e a' w' hp => by cases e <;> first | (obtain ⟨rfl, hp⟩ := hp; exact hk a' w' hp) | exact False.elim hp) h
theorem tw_at {l : List Int} {p : Int → Bool} {k : Nat} (hall : ∀ x ∈ l.take k, p x = true) (hlt : k < l.length) (hn : p l[k] = false) : (l.takeWhile p).length = k := by
  have e : l = l.take k ++ l[k] :: l.drop (k + 1) := by rw [← List.drop_eq_getElem_cons hlt, List.take_append_drop]
  rw [e, List.takeWhile_append_of_pos hall, List.takeWhile_cons_of_neg (by simp [hn])]
  simp; omega
theorem tw_all {l : List Int} {p : Int → Bool} (hall : ∀ x ∈ l.take l.length, p x = true) : (l.takeWhile p).length = l.length := by
  rw [List.take_length] at hall
  have := List.takeWhile_append_of_pos (l₂ := []) hall
  rw [show l.takeWhile p = l from by simpa using this]
/-- told(l, &asked), over the box 'asked'. -/
theorem told_TT {B : Nat} {A0 : Option Addr} {c0 : Nat} {l : List Int} {W : World} (hB : Boxed W B 3 (.int .i64 0)) (hs : W.heap.size = B + 1) (hC : (Kd.int .i64).C W A0 l.length l) (hlow : ∀ k, rowOf A0 l.length k → k < B) :
    Calls Try.prog 13 #[.slice A0 l.length c0, .pointer (some ⟨B, 0, none⟩)] W fun e w' => e = .returned (.func (.func 36) #[] #[.pointer (some ⟨B + 1, 0, none⟩), .pointer (some ⟨B + 2, 0, none⟩)]) ∧ TT B A0 c0 l w' ∧ Acts (fun _ => False) W w' := by
  refine (told_calls A0 l.length c0 B W).mono ?_
  rintro e w' ⟨rfl, hw⟩
  obtain ⟨b1, b2, hA, hz⟩ := al2 hw
  rw [hs] at b1 b2
  exact ⟨by rw [hs], ⟨(hA.same _ (by omega) id).trans hB, b1, b2, int_moves hC (fun k hk => hA.same k (by have := hlow k hk; omega) id), hlow⟩, hA⟩
theorem Asks.low {g : Nat} {lb : Array Value} {f : Int → Value} {N M : Nat} {w : World} (h : Asks g lb f (fun k => k < N) w) (hN : N ≤ M) : Asks g lb f (fun k => k < M) w :=
  fun W x hk => h W x (fun k hd => hk k (by omega))
theorem run_store_func {P : Program} {w : World} {a : Addr} {m : Mode} (f : Fn) (ts lb : Array Value) : (store a (.func f ts lb) m).run P w = stored P w a (.func f ts lb) m := run_store P w a _ m rfl
attribute [local go_sem] run_store_func
set_option maxRecDepth 100000 in
set_option maxHeartbeats 4000000 in
theorem keep_walk (A0 : Option Addr) (c0 : Nat) (l : List Int) (a1 a2 : Int) (h1 : 0 ≤ a1 ∧ a1 ≤ 255) (h2 : 0 ≤ a2 ∧ a2 ≤ 255) (w : World) (hC : (Kd.int .i64).C w A0 l.length l) (hc0 : l.length ≤ c0) :
    Calls Try.prog 5 #[.slice A0 l.length c0, .int .u8 a1, .int .u8 a2] w fun e w' => e = .returned (.bool true) ∧ Below w.heap.size w w' := by
  go_enter Try.func5, Try.ntmps5
  by_cases h100 : 100 < (l.length : Int)
  · go_wp2_with (go_at_call 7; refine (awake_calls _).mono ?_; rintro e w1 ⟨rfl, hb1⟩)
    go_ret
    exact ⟨rfl, hb1⟩
  · have hb0 : a1 % 9 + 1 ≠ 0 := by omega
    have hC3 : (Kd.int .i64).C (((w.alloc (.cells #[.int .i64 (a1 % 9 + 1)] 3)).alloc (.cells #[.int .i64 (a2 % (a1 % 9 + 1))] 3)).alloc (.cells #[.func (.func 19) #[] #[.pointer (some ⟨w.heap.size, 0, none⟩), .pointer (some ⟨w.heap.size + 1, 0, none⟩)]] 41)) A0 l.length l := Kd.C_alloc (Kd.C_alloc (Kd.C_alloc hC _) _) _
    go_wp2_with (go_at_call 21; refine (refKeep_calls A0 c0 l _ _ hb0 _ hC3 hc0 (by omega)).mono ?_; rintro e w4 ⟨v4, rfl, ho4, hb4⟩)
    obtain ⟨W3, hW3⟩ : ∃ W3, ((w.alloc (.cells #[.int .i64 (a1 % 9 + 1)] 3)).alloc (.cells #[.int .i64 (a2 % (a1 % 9 + 1))] 3)).alloc (.cells #[.func (.func 19) #[] #[.pointer (some ⟨w.heap.size, 0, none⟩), .pointer (some ⟨w.heap.size + 1, 0, none⟩)]] 41) = W3 := ⟨_, rfl⟩
    have hs3 : W3.heap.size = w.heap.size + 3 := by rw [← hW3]; simp
    have hA3 : Acts (fun _ => False) w W3 := by rw [← hW3]; exact ((Acts.alloc _ _ _).trans (Acts.alloc _ _ _) (fun _ h => .inl h)).trans (Acts.alloc _ _ _) (fun _ h => .inl h)
    have x7 : Boxed W3 w.heap.size 3 (.int .i64 (a1 % 9 + 1)) := by rw [← hW3]; exact ((Boxed.new w 3 _).alloc _).alloc _
    have x8 : Boxed W3 (w.heap.size + 1) 3 (.int .i64 (a2 % (a1 % 9 + 1))) := by rw [← hW3]; have := (Boxed.new (w.alloc (.cells #[.int .i64 (a1 % 9 + 1)] 3)) 3 (.int .i64 (a2 % (a1 % 9 + 1)))).alloc (.cells #[.func (.func 19) #[] #[.pointer (some ⟨w.heap.size, 0, none⟩), .pointer (some ⟨w.heap.size + 1, 0, none⟩)]] 41); rwa [World.size_alloc] at this
    have x9 : Boxed W3 (w.heap.size + 2) 41 (.func (.func 19) #[] #[.pointer (some ⟨w.heap.size, 0, none⟩), .pointer (some ⟨w.heap.size + 1, 0, none⟩)]) := by rw [← hW3]; have := Boxed.new ((w.alloc (.cells #[.int .i64 (a1 % 9 + 1)] 3)).alloc (.cells #[.int .i64 (a2 % (a1 % 9 + 1))] 3)) 41 (.func (.func 19) #[] #[.pointer (some ⟨w.heap.size, 0, none⟩), .pointer (some ⟨w.heap.size + 1, 0, none⟩)]); simpa using this
    rw [hW3] at hb4 hC3 ho4
    clear hW3
    have z3 := Aside0.mk hs3
    clear hs3
    have y7 : Boxed w4 w.heap.size 3 (.int .i64 (a1 % 9 + 1)) := (hb4.block _ x7.lt).trans x7
    have y8 : Boxed w4 (w.heap.size + 1) 3 (.int .i64 (a2 % (a1 % 9 + 1))) := (hb4.block _ x8.lt).trans x8
    have y9 : Boxed w4 (w.heap.size + 2) 41 (.func (.func 19) #[] #[.pointer (some ⟨w.heap.size, 0, none⟩), .pointer (some ⟨w.heap.size + 1, 0, none⟩)]) := (hb4.block _ x9.lt).trans x9
    have hC4 : (Kd.int .i64).C w4 A0 l.length l := int_moves hC3 (fun k hk => hb4.block k (row_live hC3 k hk))
    obtain ⟨p, hp⟩ : ∃ p : Int → Bool, isV (a1 % 9 + 1) (a2 % (a1 % 9 + 1)) = p := ⟨_, rfl⟩
    have hask : ∀ (W : World), (∀ k, k < w.heap.size + 2 → W.heap[k]? = w4.heap[k]?) → ∀ x, Calls Try.prog 19 #[.int .i64 x, .pointer (some ⟨w.heap.size, 0, none⟩), .pointer (some ⟨w.heap.size + 1, 0, none⟩)] W fun e W' => e = .returned (.bool (p x)) ∧ ∃ m, W' = W.drewN m := fun W hk x => by
      have := asks19 w.heap.size (w.heap.size + 1) _ _ hb0 w4 y7 y8 W x (fun k h => hk k (by omega))
      rw [hp] at this; exact this
    rw [hp] at ho4
    clear hp
    refine loop_mid (id := 0) (fun a a' W' => (∃ m, W' = w4.drewN m) ∧ ∃ u1 u2 u3 u4 u5 u6 u7 u8 u9 u10 u11 u12 u13 u14, a' = putAll a [(11, .int .i64 ((l.takeWhile p).length : Int)), (33, u1), (34, u2), (35, u3), (36, u4), (37, u5), (38, u6), (39, u7), (40, u8), (41, u9), (42, u10), (43, u11), (44, u12), (45, u13), (46, u14)]) ?_ ?_
    · go_loopw [11] (fun z wr => ∃ (k m : Nat), k ≤ l.length ∧ z = .int .i64 k ∧ wr = w4.drewN m ∧ ∀ x ∈ l.take k, p x = true)
        (fun z _ => l.length - (intOf z).toNat)
      case atStart => exact ⟨0, 0, Nat.zero_le _, rfl, rfl, by simp⟩
      case round =>
        obtain ⟨k, m, hk, rfl, hwm, hall⟩ := hrel
        have c9 := Boxed.cell (show Boxed wr (w.heap.size + 2) 41 _ from by rw [hwm]; exact y9)
        have hCr : (Kd.int .i64).C wr A0 l.length l := by rw [hwm]; exact Kd.C_drewN hC4 _
        have hwA := Aside0.mk hwm
        clear hwm
        by_cases hlt : k < l.length
        · obtain ⟨ad, rfl, hcell⟩ := Kd.at_int hCr (k : Int) (by omega) (by omega)
          rw [rd_get hlt, Int.toNat_natCast] at hcell
          have hi0 : (0 : Int) ≤ (k : Int) := by omega
          have hi1 : (k : Int) < (l.length : Int) := by omega
          have hd : decide ((k : Int) < (l.length : Int)) = true := decide_eq_true hi1
          go_wp2
          go_quiet ((go_at_call 19; exact Calls.quiet_of (hask (wr.drewN _) (fun _ _ => by rw [hwA.out]; rfl) l[k])))
          cases hpk : p l[k] with
          | true =>
            go_wp2
            go_roundw
            case rel => exact ⟨k + 1, m + nq, by omega, by simp, by rw [hwA.out, World.drewN_drewN], fun y hy => by
              rw [take_more hlt] at hy
              rcases List.mem_append.1 hy with h | h
              · exact hall y h
              · rw [List.mem_singleton.1 h]; exact hpk⟩
            case measure => simp [intOf]; omega
          | false =>
            go_wp2
            exact ⟨rfl, ⟨m + nq, by rw [hwA.out, World.drewN_drewN]⟩, _, _, _, _, _, _, _, _, _, _, _, _, _, _, by rw [tw_at hall hlt hpk]; simp only [putAll, Act.put, List.setIfInBounds_toArray, List.set_cons_zero, List.set_cons_succ]; rfl⟩
        · obtain rfl : k = l.length := by omega
          have hd : decide ((l.length : Int) < (l.length : Int)) = false := decide_eq_false (by omega)
          go_wp2
          go_quiet (fail)
          go_wp2
          exact ⟨rfl, ⟨m + nq, by rw [hwA.out, World.drewN_drewN]⟩, _, _, _, _, _, _, _, _, _, _, _, _, _, _, by rw [tw_all hall]; simp only [putAll, Act.put, List.setIfInBounds_toArray, List.set_cons_zero, List.set_cons_succ]; rfl⟩
    · rintro a' W' ⟨⟨m, rfl⟩, u1, u2, u3, u4, u5, u6, u7, u8, u9, u10, u11, u12, u13, u14, rfl⟩
      simp only [putAll, Act.put, List.setIfInBounds_toArray, List.set_cons_zero, List.set_cons_succ]
      obtain ⟨W5, hW5⟩ : ∃ W5, w4.drewN m = W5 := ⟨_, rfl⟩
      have hb5 : Below w4.heap.size w4 W5 := by rw [← hW5]; exact pw_below_drewN (Below.refl _ _) _
      have hk5 : ∀ k : Nat, W5.heap[k]? = w4.heap[k]? := fun k => by rw [← hW5]; rfl
      have hs5 : W5.heap.size = w4.heap.size := by rw [← hW5]; rfl
      rw [hW5]
      clear hW5
      have hz4 : w.heap.size + 3 ≤ w4.heap.size := by have := hb4.size; have := z3.out; omega
      have hP4 : Asks 19 #[.pointer (some ⟨w.heap.size, 0, none⟩), .pointer (some ⟨w.heap.size + 1, 0, none⟩)] (fun x => .bool (p x)) (fun k => k < w.heap.size + 2) w4 := fun W x hk => hask W hk x
      go_wp2
      refine region_mid (fun a a' W' => ∃ u1 u2 u3 u4 v5, a' = putAll a [(47, u1), (49, u3), (48, u2), (50, u4), (51, v5), (13, v5)] ∧ W'.ownsRow w4.heap.size 3 1 v5 (l.takeWhile p).length ((l.takeWhile p).map (Value.int .i64)) ∧ Boxed W' w4.heap.size 3 (.int .i64 (0 + ((min ((l.takeWhile p).length + 1) l.length : Nat) : Int))) ∧ Below w4.heap.size w4 W') ?_ ?_
      · obtain ⟨W6, hW6⟩ : ∃ W6, W5.alloc (.cells #[.int .i64 0] 3) = W6 := ⟨_, rfl⟩
        have hA6 : Acts (fun _ => False) W5 W6 := by rw [← hW6]; exact Acts.alloc _ _ _
        have hs6 : W6.heap.size = w4.heap.size + 1 := by rw [← hW6]; simp [hs5]
        have hB6 : Boxed W6 w4.heap.size 3 (.int .i64 0) := by rw [← hW6, ← hs5]; exact Boxed.new W5 3 _
        have hb6 : Below w4.heap.size w4 W6 := hb5.trans (hA6.below (by omega) (fun _ _ h => h))
        rw [hW6]
        clear hW6
        have c9 := Boxed.cell (t := 41) ((hb6.block _ (by omega)).trans y9)
        have hB6d : Boxed W6.drew w4.heap.size 3 (.int .i64 0) := hB6
        have hs6d : W6.drew.heap.size = w4.heap.size + 1 := hs6
        have hC6d : (Kd.int .i64).C W6.drew A0 l.length l := int_moves hC4 (fun k hk => hb6.block k (row_live hC4 k hk))
        refine start_ (n := 6) (S := fun w' => w'.cell? ⟨w.heap.size + 1 + 1, 0, none⟩ = some (.func (.func 19) #[] #[.pointer (some ⟨w.heap.size, 0, none⟩), .pointer (some ⟨w.heap.size + 1, 0, none⟩)])) (ds := []) #[false, false, false, false, false, false] (by kernel_rfl) rfl rfl c9 (fun hHeld => ?_)
        refine pure_ (i := 0) (N := some 47) (v := ?_) (a' := ?_) #[true, false, false, false, false, false] rfl rfl (by kernel_rfl) (fun _ _ _ h => h) (Or.inl ⟨by rfl, ?_⟩) ?_ ?_
        rotate_left
        · intro w'
          go_simp
          with_reducible rfl
        rotate_left
        · simp only [Act.put, List.setIfInBounds_toArray, List.set_cons_zero, List.set_cons_succ]
          rfl
        refine take_ (i := 2) (N := some 49) (v := ?_) (a' := ?_) #[true, false, true, false, false, false] rfl rfl (by kernel_rfl) (fun _ _ _ h => h) (Or.inl ⟨by rfl, ?_⟩) hHeld ?_ ?_
        rotate_left
        · intro w' s0
          go_simp
          with_reducible rfl
        rotate_left
        · simp only [Act.put, List.setIfInBounds_toArray, List.set_cons_zero, List.set_cons_succ]
          rfl
        refine one_ (i := 1) (N := some 48) #[true, true, true, false, false, false] rfl rfl (by kernel_rfl) (by decide) (fun K hK => ?_)
        refine goes_ Try.func13 (by kernel_rfl) rfl #[.slice A0 l.length c0, .pointer (some ⟨w4.heap.size, 0, none⟩)] (by rfl) rfl rfl (by simp only [List.map_toArray, List.map_cons, List.map_nil]; rfl) ?_
        with_reducible refine (told_TT hB6d hs6d hC6d (fun k hk => row_live hC4 k hk)).mono ?_
        rintro e w7 ⟨rfl, hT7, hA7⟩
        refine ⟨_, rfl, ?_⟩
        have hb7 : Below w4.heap.size w4 w7 := hb6.trans ((below_drew (Below.refl _ _)).trans (hA7.below (by show _ ≤ W6.heap.size; omega) (fun _ _ h => h)))
        refine hK.out _ _ (Boxed.cell (t := 41) ((hb7.block _ (by omega)).trans y9)) (fun hHeld => ?_)
        clear hK K
        refine norm_ (a' := ?_) ?_ ?_
        rotate_left
        · show Act.put _ (some 48) _ = _
          simp only [Act.put, List.setIfInBounds_toArray, List.set_cons_zero, List.set_cons_succ]
          rfl
        refine one_ (i := 3) (N := some 50) #[true, true, true, true, false, false] rfl rfl (by kernel_rfl) (by decide) (fun K hK => ?_)
        refine goes_ Try.func22 (by kernel_rfl) rfl #[.func (.func 36) #[] #[.pointer (some ⟨w4.heap.size + 1, 0, none⟩), .pointer (some ⟨w4.heap.size + 2, 0, none⟩)], .func (.func 19) #[] #[.pointer (some ⟨w.heap.size, 0, none⟩), .pointer (some ⟨w.heap.size + 1, 0, none⟩)]] (by rfl) rfl rfl (by simp only [List.map_toArray, List.map_cons, List.map_nil]; rfl) ?_
        with_reducible refine (whilec_calls _ _ _ _ _).mono ?_
        rintro e w8 ⟨rfl, hw8⟩
        refine ⟨_, rfl, ?_⟩
        obtain ⟨_, _, hA8, _⟩ := al2 hw8
        have hb8 : Below w4.heap.size w4 w8 := hb7.trans (hA8.below hb7.size (fun _ _ h => h))
        refine hK.out _ _ (Boxed.cell (t := 41) ((hb8.block _ (by omega)).trans y9)) (fun hHeld => ?_)
        clear hK K
        refine norm_ (a' := ?_) ?_ ?_
        rotate_left
        · show Act.put _ (some 50) _ = _
          simp only [Act.put, List.setIfInBounds_toArray, List.set_cons_zero, List.set_cons_succ]
          rfl
        refine one_ (i := 4) (N := some 51) #[true, true, true, true, true, false] rfl rfl (by kernel_rfl) (by decide) (fun K hK => ?_)
        refine goes_ Try.func14 (by kernel_rfl) rfl #[.func (.func 39) #[] #[.pointer (some ⟨w7.heap.size, 0, none⟩), .pointer (some ⟨w7.heap.size + 1, 0, none⟩)], .int .i64 0] (by rfl) rfl rfl (by simp only [List.map_toArray, List.map_cons, List.map_nil]; rfl) ?_
        with_reducible refine (keep_while hT7 (by omega) ((hP4.at (fun k hk => hb8.block k (by omega))).low (by omega)) hw8).mono ?_
        rintro e w9 ⟨v5, rfl, ho9, hA9, hk9⟩
        refine ⟨_, rfl, ?_⟩
        have hb9 : Below w4.heap.size w4 w9 := hb8.trans (hA9.below hb8.size (fun k hk e => by omega))
        refine hK.out _ _ (Boxed.cell (t := 41) ((hb9.block _ (by omega)).trans y9)) (fun hHeld => ?_)
        clear hK K
        refine norm_ (a' := ?_) ?_ ?_
        rotate_left
        · show Act.put _ (some 51) _ = _
          simp only [Act.put, List.setIfInBounds_toArray, List.set_cons_zero, List.set_cons_succ]
          rfl
        refine pure_ (i := 5) (N := some 13) (v := ?_) (a' := ?_) #[true, true, true, true, true, true] rfl rfl (by kernel_rfl) (fun _ _ _ h => h) (Or.inl ⟨by rfl, ?_⟩) ?_ ?_
        rotate_left
        · intro w'
          go_simp
          with_reducible rfl
        rotate_left
        · simp only [Act.put, List.setIfInBounds_toArray, List.set_cons_zero, List.set_cons_succ]
          rfl
        refine done_ (by kernel_rfl) ?_
        exact ⟨_, _, _, _, _, by simp only [putAll, Act.put, List.setIfInBounds_toArray, List.set_cons_zero, List.set_cons_succ]; rfl, ho9.mono hb8.size, hk9, hb9⟩
      · rintro a' w9 ⟨x1, x2, x3, x4, v5, rfl, ho9, hk9, hb9⟩
        simp only [putAll, Act.put, List.setIfInBounds_toArray, List.set_cons_zero, List.set_cons_succ]
        obtain ⟨tw, htw, htl, hws⟩ : ∃ tw : Nat, (l.takeWhile p).length = tw ∧ tw ≤ l.length ∧ l.takeWhile p = l.take tw := ⟨_, rfl, (List.takeWhile_prefix p).length_le, (List.prefix_iff_eq_take.1 (List.takeWhile_prefix p))⟩
        rw [htw] at hk9 ⊢
        rw [hws] at ho9
        obtain ⟨i0, hi, hz0, hz1, hz2⟩ := info_parts elem3
        obtain ⟨ys, hys, hcut, hCy, hyl⟩ : ∃ ys, l.take tw = ys ∧ (∀ W : World, (Instr.slice 22 (.slice A0 l.length c0) none (some (.int .i64 tw)) none).run Try.prog W = .ok (.slice A0 ys.length c0) W) ∧ (Kd.int .i64).C w4 A0 ys.length ys ∧ ys.length ≤ 1000 := by
          obtain ⟨h1, h2, h3⟩ := print_take_of (P := Try.prog) (Value.int .i64) 0 22 3 .i64 Try.underlying22 hi hz1 A0 c0 l (tw : Int) (by omega) (by omega) hc0
          rw [Int.toNat_natCast] at h1 h2
          refine ⟨_, rfl, h1, Kd.C_of_reads (h1 := fun _ => rfl) (h2 _ (Kd.reads_of_C hC4)), by rw [List.length_take]; omega⟩
        rw [hys] at ho9
        have hyc : ys.length ≤ c0 := by rw [← hys, List.length_take]; omega
        clear htw hws hys i0 hi hz0 hz1 hz2
        obtain ⟨A5, c5, rfl, r5, C5⟩ := Kd.R_reads (Kd.R_of_own (enc := Value.int .i64) (h1 := fun _ => rfl) (ok := fun _ => True) ho9 (fun _ _ => trivial))
        obtain ⟨mm, hmm⟩ : ∃ mm : Int, 0 + ((min (tw + 1) l.length : Nat) : Int) = mm := ⟨_, rfl⟩
        rw [hmm] at hk9
        have hmn : (if (l.length : Int) < (tw : Int) + 1 then (l.length : Int) else (tw : Int) + 1) = mm := by
          rw [← hmm]
          by_cases hq : (l.length : Int) < (tw : Int) + 1
          · rw [if_pos hq]; omega
          · rw [if_neg hq]; omega
        clear hmm
        have c12 := hk9.cell
        have c9 := Boxed.cell (t := 41) ((hb9.block _ (by omega)).trans y9)
        have hC9 : (Kd.int .i64).C w9 A0 l.length l := int_moves hC4 (fun k hk => hb9.block k (row_live hC4 k hk))
        have hP9 := hP4.at (fun k (hk : k < w.heap.size + 2) => hb9.block k (by omega))
        have hl9 : l.length ≤ 100 := by omega
        have hQ9 := asks25 (w.heap.size + 1 + 1) 19 _ _ _ w9 ((hb9.block _ (by omega)).trans y9) enters19 hP9
        have hz9 := hb9.size
        have hD9 : ∀ k, (k = w.heap.size + 1 + 1 ∨ k < w.heap.size + 2) → k < w9.heap.size := fun k hk => by omega
        clear hask hb5 hk5 hs5
        go_wp2_with (first
          | (go_at_call 10; refine (of_calls _ _ _ _).mono ?_; rintro e w10 ⟨rfl, hw10⟩)
          | (go_at_call 24; refine (mapb_calls _ _ _ _ _).mono ?_; rintro e w11 ⟨rfl, hw11⟩)
          | (go_at_call 23; refine (map_of _ hl9 hC9 hD9 hQ9 hw10 hw11).mono ?_; rintro e w12 ⟨v14, rfl, ho12, hb12⟩; obtain ⟨A1, c1, e1, r1, C1⟩ := Kd.R_reads (Kd.R_of_own (enc := Value.bool) (h1 := fun _ => rfl) (ok := fun _ => True) ho12 (fun _ _ => trivial)); rw [List.length_map] at e1 r1 C1; subst e1; clear hw10 hw11))
        have hask2 : ∀ (W : World), (∀ k, k < w.heap.size + 2 → W.heap[k]? = w12.heap[k]?) → ∀ x, Calls Try.prog 19 #[.int .i64 x, .pointer (some ⟨w.heap.size, 0, none⟩), .pointer (some ⟨w.heap.size + 1, 0, none⟩)] W fun e W' => e = .returned (.bool (p x)) ∧ ∃ m, W' = W.drewN m := fun W hk x => hP9 W x (fun k hd => (hk k hd).trans (hb12.block k (by omega)))
        have c9b := (hb12.block (w.heap.size + 2) (by omega)).trans ((hb9.block _ (by omega)).trans y9)
        have hC12 : (Kd.int .i64).C w12 A0 l.length l := int_moves hC9 (fun k hk => hb12.block k (row_live hC9 k hk))
        clear hQ9 hD9 hC9 c9
        go_loopw [71] (fun z wr => ∃ (k m : Nat), k ≤ l.length ∧ z = .int .i64 k ∧ wr = w12.drewN m)
          (fun z _ => l.length - (intOf z).toNat)
        case atStart => exact ⟨0, 0, Nat.zero_le _, rfl, rfl⟩
        case round =>
          obtain ⟨k, m, hk, rfl, hwm⟩ := hrel
          have c9 := Boxed.cell (show Boxed wr (w.heap.size + 2) 41 _ from by rw [hwm]; exact c9b)
          have hCr : (Kd.int .i64).C wr A0 l.length l := by rw [hwm]; exact Kd.C_drewN hC12 _
          have C1r : Kd.bool.C wr A1 l.length (l.map p) := by rw [hwm]; exact Kd.C_drewN C1 _
          have hwA := Aside0.mk hwm
          clear hwm
          by_cases hlt : k < l.length
          · obtain ⟨ad, rfl, hcell⟩ := Kd.at_int hCr (k : Int) (by omega) (by omega)
            obtain ⟨ad1, rfl, hcell1⟩ := Kd.at_bool C1r (k : Int) (by omega) (by omega)
            rw [rd_get hlt, Int.toNat_natCast] at hcell
            rw [Int.toNat_natCast, show rdOf false (l.map p) (k : Int) = p l[k] from by simp [rdOf, hlt]] at hcell1
            have hi0 : (0 : Int) ≤ (k : Int) := by omega
            have hi1 : (k : Int) < (l.length : Int) := by omega
            have hd : decide ((k : Int) < (l.length : Int)) = true := decide_eq_true hi1
            go_wp2
            go_quiet ((go_at_call 19; exact Calls.quiet_of (hask2 (wr.drewN _) (fun _ _ => by rw [hwA.out]; rfl) l[k])))
            go_wp2
            go_roundw
            case rel => exact ⟨k + 1, m + nq, by omega, by simp, by rw [hwA.out, World.drewN_drewN]⟩
            case measure => simp [intOf]; omega
          · obtain rfl : k = l.length := by omega
            have hd : decide ((l.length : Int) < (l.length : Int)) = false := decide_eq_false (by omega)
            go_wp2
            have hbr : Below w9.heap.size w9 wr := by rw [hwA.out]; exact hb12.trans (pw_below_drewN (Below.refl _ _) _ |>.mono hb12.size)
            have hP20 : Asks 19 #[.pointer (some ⟨w.heap.size, 0, none⟩), .pointer (some ⟨w.heap.size + 1, 0, none⟩)] (fun x => .bool (p x)) (fun k => k < w.heap.size + 2) wr.drew := hP9.at (fun k (hk : k < w.heap.size + 2) => hbr.block k (by omega))
            have hC20 : (Kd.int .i64).C wr.drew A0 l.length l := hCr
            have c9d : wr.drew.cell? ⟨w.heap.size + 1 + 1, 0, none⟩ = some (.func (.func 19) #[] #[.pointer (some ⟨w.heap.size, 0, none⟩), .pointer (some ⟨w.heap.size + 1, 0, none⟩)]) := c9
            have hz20 : w.heap.size + 2 ≤ wr.drew.heap.size := by have := hbr.size; show _ ≤ wr.heap.size; omega
            have hb20 : Below w9.heap.size w9 wr.drew := hbr.trans (below_drew (Below.refl _ _) |>.mono hbr.size)
            have b9 := (hb9.block (w.heap.size + 2) (by omega)).trans y9
            clear hask2 hwA hC12 c9 c9b hCr hbr C1 C1r
            refine region_mid (fun a a' W' => (∃ u1 u2 u3 u4 u5 u6 u7 u8 u9 u10 u11 u12 u13 u14 u15 u16 u17, a' = putAll a [(86, u1), (87, u2), (88, u3), (89, u4), (90, u5), (91, u6), (92, u7), (93, u8), (94, u9), (95, u10), (96, u11), (97, u12), (98, u13), (99, u14), (100, u15), (101, u16), (102, u17), (6, .bool true)]) ∧ Below w9.heap.size w9 W') ?_ ?_
            · have hlf : (l.filter p).length ≤ 1000 := by have := List.length_filter_le p l; omega
              refine start_ (n := 18) (S := fun w' => w'.cell? ⟨w.heap.size + 1 + 1, 0, none⟩ = some (.func (.func 19) #[] #[.pointer (some ⟨w.heap.size, 0, none⟩), .pointer (some ⟨w.heap.size + 1, 0, none⟩)])) (ds := []) #[false, false, false, false, false, false, false, false, false, false, false, false, false, false, false, false, false, false] (by kernel_rfl) rfl rfl c9d (fun hHeld => ?_)
              refine pure_ (i := 0) (N := some 86) (v := ?_) (a' := ?_) #[true, false, false, false, false, false, false, false, false, false, false, false, false, false, false, false, false, false] rfl rfl (by kernel_rfl) (fun _ _ _ h => h) (Or.inl ⟨by rfl, ?_⟩) ?_ ?_
              rotate_left
              · intro w'
                go_simp
                with_reducible rfl
              rotate_left
              · simp only [Act.put, List.setIfInBounds_toArray, List.set_cons_zero, List.set_cons_succ]
                rfl
              refine take_ (i := 2) (N := some 88) (v := ?_) (a' := ?_) #[true, false, true, false, false, false, false, false, false, false, false, false, false, false, false, false, false, false] rfl rfl (by kernel_rfl) (fun _ _ _ h => h) (Or.inl ⟨by rfl, ?_⟩) hHeld ?_ ?_
              rotate_left
              · intro w' s0
                go_simp
                with_reducible rfl
              rotate_left
              · simp only [Act.put, List.setIfInBounds_toArray, List.set_cons_zero, List.set_cons_succ]
                rfl
              refine pure_ (i := 5) (N := some 91) (v := ?_) (a' := ?_) #[true, false, true, false, false, true, false, false, false, false, false, false, false, false, false, false, false, false] rfl rfl (by kernel_rfl) (fun _ _ _ h => h) (Or.inl ⟨by rfl, ?_⟩) ?_ ?_
              rotate_left
              · intro w'
                go_simp
                with_reducible rfl
              rotate_left
              · simp only [Act.put, List.setIfInBounds_toArray, List.set_cons_zero, List.set_cons_succ]
                rfl
              refine one_ (i := 1) (N := some 87) #[true, true, true, false, false, true, false, false, false, false, false, false, false, false, false, false, false, false] rfl rfl (by kernel_rfl) (by decide) (fun K hK => ?_)
              refine goes_ Try.func10 (by kernel_rfl) rfl #[.slice A0 l.length c0] (by rfl) rfl rfl (by simp only [List.map_toArray, List.map_cons, List.map_nil]; rfl) ?_
              with_reducible refine (of_calls _ _ _ _).mono ?_
              rintro e w21 ⟨rfl, hw21⟩
              refine ⟨_, rfl, ?_⟩
              have hb21 : Below w9.heap.size w9 w21 := hb20.trans (by rw [← hw21]; exact ((Below.refl _ _).alloc (Nat.le_refl _) _).mono hb20.size)
              refine hK.out _ _ (Boxed.cell (t := 41) ((hb21.block _ (by omega)).trans b9)) (fun hHeld => ?_)
              clear hK K
              refine norm_ (a' := ?_) ?_ ?_
              rotate_left
              · show Act.put _ (some 87) _ = _
                simp only [Act.put, List.setIfInBounds_toArray, List.set_cons_zero, List.set_cons_succ]
                rfl
              refine one_ (i := 3) (N := some 89) #[true, true, true, true, false, true, false, false, false, false, false, false, false, false, false, false, false, false] rfl rfl (by kernel_rfl) (by decide) (fun K hK => ?_)
              refine goes_ Try.func26 (by kernel_rfl) rfl #[.func (.func 45) #[] #[.pointer (some ⟨wr.drew.heap.size, 0, none⟩)], .func (.func 19) #[] #[.pointer (some ⟨w.heap.size, 0, none⟩), .pointer (some ⟨w.heap.size + 1, 0, none⟩)]] (by rfl) rfl rfl (by simp only [List.map_toArray, List.map_cons, List.map_nil]; rfl) ?_
              with_reducible refine (keepc_calls _ _ _ _ _).mono ?_
              rintro e w22 ⟨rfl, hw22⟩
              refine ⟨_, rfl, ?_⟩
              obtain ⟨_, _, hA22, _⟩ := al2 hw22
              have hb22 : Below w9.heap.size w9 w22 := hb21.trans (hA22.below hb21.size (fun _ _ h => h))
              refine hK.out _ _ (Boxed.cell (t := 41) ((hb22.block _ (by omega)).trans b9)) (fun hHeld => ?_)
              clear hK K
              refine norm_ (a' := ?_) ?_ ?_
              rotate_left
              · show Act.put _ (some 89) _ = _
                simp only [Act.put, List.setIfInBounds_toArray, List.set_cons_zero, List.set_cons_succ]
                rfl
              refine one_ (i := 4) (N := some 90) #[true, true, true, true, true, true, false, false, false, false, false, false, false, false, false, false, false, false] rfl rfl (by kernel_rfl) (by decide) (fun K hK => ?_)
              refine goes_ Try.func16 (by kernel_rfl) rfl #[.func (.func 42) #[] #[.pointer (some ⟨w21.heap.size, 0, none⟩), .pointer (some ⟨w21.heap.size + 1, 0, none⟩)]] (by rfl) rfl rfl (by simp only [List.map_toArray, List.map_cons, List.map_nil]; rfl) ?_
              with_reducible refine (keep_of hl9 hC20 hz20 hP20 hw21 hw22).mono ?_
              rintro e w23 ⟨v23, rfl, ho23, hb23'⟩
              refine ⟨_, rfl, ?_⟩
              have hb23 : Below w9.heap.size w9 w23 := hb20.trans (hb23'.mono hb20.size)
              have ho4' := owns_keep ho4 (fun k e => (hb23.block k (by have := (ho4.lt k e).2; omega)).trans (hb9.block k (ho4.lt k e).2))
              refine hK.out _ _ (Boxed.cell (t := 41) ((hb23.block _ (by omega)).trans b9)) (fun hHeld => ?_)
              clear hK K
              refine norm_ (a' := ?_) ?_ ?_
              rotate_left
              · show Act.put _ (some 90) _ = _
                simp only [Act.put, List.setIfInBounds_toArray, List.set_cons_zero, List.set_cons_succ]
                rfl
              refine one_ (i := 6) (N := some 92) #[true, true, true, true, true, true, true, false, false, false, false, false, false, false, false, false, false, false] rfl rfl (by kernel_rfl) (by decide) (fun K hK => ?_)
              refine goes_ Try.func11 (by kernel_rfl) rfl #[v23, v4] (by rfl) rfl rfl (by simp only [List.map_toArray, List.map_cons, List.map_nil]; rfl) ?_
              with_reducible refine (same_own hlf ho23 ho4').mono ?_
              rintro e w24 ⟨rfl, ⟨n24, hd24⟩⟩
              refine ⟨_, rfl, ?_⟩
              have hb24 : Below w9.heap.size w9 w24 := by rw [hd24]; exact hb23.trans (pw_below_drewN (Below.refl _ _) _ |>.mono hb23.size)
              have C5' : (Kd.int .i64).C w24 A5 ys.length ys := int_moves C5 (fun k hk => hb24.block k (row_live C5 k hk))
              have Cy' : (Kd.int .i64).C w24 A0 ys.length ys := int_moves hCy (fun k hk => (hb24.block k (by have := row_live hCy k hk; omega)).trans (hb9.block k (row_live hCy k hk)))
              refine hK.out _ _ (Boxed.cell (t := 41) ((hb24.block _ (by omega)).trans b9)) (fun hHeld => ?_)
              clear hK K
              refine norm_ (a' := ?_) ?_ ?_
              rotate_left
              · show Act.put _ (some 92) _ = _
                simp only [Act.put, List.setIfInBounds_toArray, List.set_cons_zero, List.set_cons_succ]
                rfl
              refine pure_ (i := 7) (N := some 93) (v := ?_) (a' := ?_) #[true, true, true, true, true, true, true, true, false, false, false, false, false, false, false, false, false, false] rfl rfl (by kernel_rfl) (fun _ _ _ h => h) (Or.inl ⟨by rfl, ?_⟩) ?_ ?_
              rotate_left
              · intro w'
                go_simp
                with_reducible rfl
              rotate_left
              · simp only [Act.put, List.setIfInBounds_toArray, List.set_cons_zero, List.set_cons_succ]
                rfl
              refine pure_ (i := 8) (N := some 94) (v := ?_) (a' := ?_) #[true, true, true, true, true, true, true, true, true, false, false, false, false, false, false, false, false, false] rfl rfl (by kernel_rfl) (fun _ _ _ h => h) (Or.inl ⟨by rfl, ?_⟩) ?_ ?_
              rotate_left
              · intro w'
                go_simp
                with_reducible rfl
              rotate_left
              · simp only [Act.put, List.setIfInBounds_toArray, List.set_cons_zero, List.set_cons_succ]
                rfl
              refine pure_ (i := 9) (N := some 95) (v := ?_) (a' := ?_) #[true, true, true, true, true, true, true, true, true, true, false, false, false, false, false, false, false, false] rfl rfl (by kernel_rfl) (fun _ _ _ h => h) (Or.inl ⟨by rfl, ?_⟩) ?_ ?_
              rotate_left
              · intro w'
                go_simp
                with_reducible rfl
              rotate_left
              · simp only [Act.put, List.setIfInBounds_toArray, List.set_cons_zero, List.set_cons_succ]
                rfl
              refine pure_ (i := 10) (N := some 96) (v := ?_) (a' := ?_) #[true, true, true, true, true, true, true, true, true, true, true, false, false, false, false, false, false, false] rfl rfl (by kernel_rfl) (fun _ _ _ h => h) (Or.inl ⟨by rfl, ?_⟩) ?_ ?_
              rotate_left
              · intro w'
                go_simp
                with_reducible rfl
              rotate_left
              · simp only [Act.put, List.setIfInBounds_toArray, List.set_cons_zero, List.set_cons_succ]
                rfl
              refine pure_ (i := 11) (N := some 97) (v := ?_) (a' := ?_) #[true, true, true, true, true, true, true, true, true, true, true, true, false, false, false, false, false, false] rfl rfl (by kernel_rfl) (fun _ _ _ h => h) (Or.inl ⟨by rfl, ?_⟩) ?_ ?_
              rotate_left
              · intro w'
                go_simp
                with_reducible rfl
              rotate_left
              · simp only [Act.put, List.setIfInBounds_toArray, List.set_cons_zero, List.set_cons_succ]
                rfl
              refine one_ (i := 12) (N := some 98) #[true, true, true, true, true, true, true, true, true, true, true, true, true, false, false, false, false, false] rfl rfl (by kernel_rfl) (by decide) (fun K hK => ?_)
              refine goes_ Try.func11 (by kernel_rfl) rfl #[.slice A5 ys.length c5, .slice A0 ys.length c0] (by rfl) rfl rfl (by simp only [List.map_toArray, List.map_cons, List.map_nil]; rfl) ?_
              with_reducible refine (same_calls _ _ _ _ ys hyl w24 C5' r5 Cy' hyc).mono ?_
              rintro e w25 ⟨rfl, ⟨n25, hd25⟩⟩
              refine ⟨_, rfl, ?_⟩
              have hb25 : Below w9.heap.size w9 w25 := by rw [hd25]; exact hb24.trans (pw_below_drewN (Below.refl _ _) _ |>.mono hb24.size)
              refine hK.out _ _ (Boxed.cell (t := 41) ((hb25.block _ (by omega)).trans b9)) (fun hHeld => ?_)
              clear hK K
              refine norm_ (a' := ?_) ?_ ?_
              rotate_left
              · show Act.put _ (some 98) _ = _
                simp only [Act.put, List.setIfInBounds_toArray, List.set_cons_zero, List.set_cons_succ]
                rfl
              refine pure_ (i := 13) (N := some 99) (v := ?_) (a' := ?_) #[true, true, true, true, true, true, true, true, true, true, true, true, true, true, false, false, false, false] rfl rfl (by kernel_rfl) (fun _ _ _ h => h) (Or.inl ⟨by rfl, ?_⟩) ?_ ?_
              rotate_left
              · intro w'
                go_simp
                with_reducible rfl
              rotate_left
              · simp only [Act.put, List.setIfInBounds_toArray, List.set_cons_zero, List.set_cons_succ]
                rfl
              refine pure_ (i := 14) (N := some 100) (v := ?_) (a' := ?_) #[true, true, true, true, true, true, true, true, true, true, true, true, true, true, true, false, false, false] rfl rfl (by kernel_rfl) (fun _ _ _ h => h) (Or.inl ⟨by rfl, ?_⟩) ?_ ?_
              rotate_left
              · intro w'
                go_simp
                with_reducible rfl
              rotate_left
              · simp only [Act.put, List.setIfInBounds_toArray, List.set_cons_zero, List.set_cons_succ]
                rfl
              refine one_ (i := 15) (N := some 101) #[true, true, true, true, true, true, true, true, true, true, true, true, true, true, true, true, false, false] rfl rfl (by kernel_rfl) (by decide) (fun K hK => ?_)
              refine goes_ Try.func7 (by kernel_rfl) rfl #[] (by rfl) rfl rfl (by simp only [List.map_toArray, List.map_nil]) ?_
              with_reducible refine (awake_calls _).mono ?_
              rintro e w27 ⟨rfl, hb27'⟩
              refine ⟨_, rfl, ?_⟩
              have hb27 : Below w9.heap.size w9 w27 := hb25.trans (hb27'.mono hb25.size)
              refine hK.out _ _ (Boxed.cell (t := 41) ((hb27.block _ (by omega)).trans b9)) (fun hHeld => ?_)
              clear hK K
              refine norm_ (a' := ?_) ?_ ?_
              rotate_left
              · show Act.put _ (some 101) _ = _
                simp only [Act.put, List.setIfInBounds_toArray, List.set_cons_zero, List.set_cons_succ]
                rfl
              refine pure_ (i := 16) (N := some 102) (v := ?_) (a' := ?_) #[true, true, true, true, true, true, true, true, true, true, true, true, true, true, true, true, true, false] rfl rfl (by kernel_rfl) (fun _ _ _ h => h) (Or.inl ⟨by rfl, ?_⟩) ?_ ?_
              rotate_left
              · intro w'
                go_simp
                with_reducible rfl
              rotate_left
              · simp only [Act.put, List.setIfInBounds_toArray, List.set_cons_zero, List.set_cons_succ]
                rfl
              refine pure_ (i := 17) (N := some 6) (v := ?_) (a' := ?_) #[true, true, true, true, true, true, true, true, true, true, true, true, true, true, true, true, true, true] rfl rfl (by kernel_rfl) (fun _ _ _ h => h) (Or.inl ⟨by rfl, ?_⟩) ?_ ?_
              rotate_left
              · intro w'
                go_simp
                with_reducible rfl
              rotate_left
              · simp only [Act.put, List.setIfInBounds_toArray, List.set_cons_zero, List.set_cons_succ]
                rfl
              refine done_ (by kernel_rfl) ?_

              refine ⟨⟨_, _, _, _, _, _, _, _, _, _, _, _, _, _, _, _, _, by simp only [putAll, Act.put, List.setIfInBounds_toArray, List.set_cons_zero, List.set_cons_succ]; rfl⟩, ?_⟩
              exact hb27
            · rintro a' W' ⟨⟨v1, v2, v3, v4', v5, v6, v7, v8, v9, v10, v11, v12, v13, v14, v15, v16, v17, rfl⟩, hbW⟩
              simp only [putAll, Act.put, List.setIfInBounds_toArray, List.set_cons_zero, List.set_cons_succ]
              go_wp2
              go_ret
              refine ⟨rfl, ?_⟩
              have q1 : Below w.heap.size w W3 := hA3.below (Nat.le_refl _) (fun _ _ h => h)
              have q2 : Below w.heap.size W3 w4 := hb4.mono (by have := z3.out; omega)
              have q3 : Below w.heap.size w4 w9 := hb9.mono (by omega)
              exact ((q1.trans q2).trans q3).trans (hbW.mono (by omega))

/-- THE LAW's WALK, as its row asks it. -/
theorem rowsKeep_walk (a0 : Option Addr) (len0 cap0 : Nat) (z0 : List Int) (a1 a2 : Int) (w : World)
    (w0 : (a0 = none ∧ len0 = 0 ∧ cap0 = 0 ∧ z0 = []) ∨ ∃ x, a0 = some x ∧ len0 ≤ cap0 ∧ cap0 ≤ maxLen ∧ z0.length = cap0 ∧ (∀ i, i < z0.length → w.cell? (x.add i) = some (.int .i64 (z0.getD i 0))) ∧ ∀ n ∈ z0, (Lit.int .i64 n).wf = true)
    (y0 : len0 * 8 ≤ 140737488351232) (w1 : (Lit.int .u8 a1).wf = true) (w2 : (Lit.int .u8 a2).wf = true) :
    Calls Try.prog 5 #[.slice a0 len0 cap0, .int .u8 a1, .int .u8 a2] w fun e w' => e = .returned (.bool true) ∧ Below w.heap.size w w' := by
  obtain ⟨l0, rfl, hr0, hm0, hw0, hc0⟩ := ReadsInt.ofRowC w0
  exact keep_walk a0 cap0 l0 a1 a2 (bounds_u8 w1) (bounds_u8 w2) w (Kd.C_of_reads (d := (0 : Int)) (h1 := fun _ => rfl) hr0) hc0
end Go.Proofs.Ytncnnbfejomkoaa.Rows14
