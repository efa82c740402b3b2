/- CutsEach: the law's walk. -/
import Derived.Test.YtjbieekfjlmfmaaTu
namespace Go.Proofs.Ytjbieekfjlmfmaa.Cuts07
open Go.RowKit Go.Shelf Go.Proofs.YtjbieekfjlmfmaaW.PrintWords Go.Proofs.YtjbieekfjlmfmaaW.PrintLast Go.Proofs.YtjbieekfjlmfmaaW.PrintMore Go.Proofs.Ytjbieekfjlmfmaa.Iter Go.Proofs.Ytjbieekfjlmfmaa.XCutsEach
set_option linter.unusedVariables false
set_option linter.unusedSimpArgs false
attribute [local go_sem] Oper.semAt_some

theorem each_calls (s : ByteArray) (w : World) :
    Calls Try.prog 17 #[.string s] w fun e w' => e = .returned (.func (.func 25) #[] #[.pointer (some ⟨w.heap.size, 0, none⟩)]) ∧ w.alloc (.cells #[.string s] 9) = w' := by
  go_enter Try.func17, Try.ntmps17
  go_wp2
  go_ret
  exact ⟨rfl, rfl⟩
theorem enters25 : ∀ args w, (callFunc 25 args).run Try.prog w = .ok (.enter 25 args) w := enters_of Try.func25 (by kernel_rfl) rfl
theorem und41 : Try.prog.underlying 41 = some (.func #[44] #[] false) := by kernel_rfl
theorem SC_of_own {w : World} {base n c : Nat} {A : Option Addr} {xs : List ByteArray} (h : w.ownsRow base 9 1 (.slice A n c) xs.length (xs.map Value.string)) : n = xs.length ∧ n ≤ c ∧ Kd.string.C w A xs.length xs :=
  Kd.R_reads' (Kd.R_of_own (enc := Value.string) (h1 := fun _ => rfl) (ok := fun _ => True) h (fun _ _ => trivial))
theorem notOut {Φ : Act → Act → World → Prop} {a : Act} : ¬ LetsOut (midOf Φ a) := fun ⟨_, _, h⟩ => h
theorem each_len (s : ByteArray) : (eachOf s).length = manyOf s.size := by simp [eachOf, waysOf]
theorem each_at (s : ByteArray) (i : Nat) (h : i < manyOf s.size) : (eachOf s)[i]? = some (Pure.atR s (wayOf s.size i)) := by simp [eachOf, waysOf, h]
theorem calls_more {f : FuncId} {args : Array Value} {w : World} {R R' : Ending → World → Prop} (h : Calls Try.prog f args w R) (hr : ∀ e w', R e w' → R' e w') : Calls Try.prog f args w R' := h.mono hr
set_option maxRecDepth 100000 in
set_option maxHeartbeats 4000000 in
theorem each_walk (s : ByteArray) (w : World) :
    Calls Try.prog 5 #[.string s] w fun e w' => e = .returned (.bool true) ∧ Below w.heap.size w w' := by
  obtain ⟨ka, hka0⟩ := Pure.awake_tells
  have hka := hka0 ka (Nat.le_refl _)
  clear hka0
  refine calls_of_marks Try.func5 rfl ?_
  simp only [Try.ntmps5, List.size_toArray, List.length_cons, List.length_nil, Nat.reduceAdd, Nat.reduceSub, Array.replicate_succ, Array.replicate_zero, List.push_toArray, List.append_toArray, List.nil_append, List.cons_append]
  obtain ⟨W1, hW1⟩ : ∃ W1, (w.alloc (.cells #[.string s] 9)).alloc (.cells #[.bool false] 4) = W1 := ⟨_, rfl⟩
  have hs1 : W1.heap.size = w.heap.size + 2 := by rw [← hW1]; simp
  have hA1 : Acts (fun _ => False) w W1 := by rw [← hW1]; exact (Acts.alloc _ _ _).trans (Acts.alloc _ _ _) (fun _ h => .inl h)
  have hb1 : Below w.heap.size w W1 := hA1.below (Nat.le_refl _) (fun _ _ h => h)
  have b0 : Boxed W1 w.heap.size 9 (.string s) := by rw [← hW1]; exact (Boxed.new w 9 _).alloc _
  have b1 : Boxed W1 (w.heap.size + 1) 4 (.bool false) := by rw [← hW1]; have := Boxed.new (w.alloc (.cells #[.string s] 9)) 4 (.bool false); rwa [World.size_alloc] at this
  have c0 := b0.cell
  have c1 := b1.cell
  have c1f := b1.frozen
  by_cases h8 : 8 < (s.size : Int)
  · go_upto_region 1 with fail
    clear hW1
    have zA := Aside0.mk hs1
    clear hs1
    go_wp2_with (go_at_call 8; refine (quillpenlaw07_awake.calls ka true _ hka).mono ?_; rintro e w9 ⟨rfl, hb9⟩; have hr9 : Boxed w9 (w.heap.size + 1) 4 (.bool false) := (hb9.block _ b1.lt).trans b1; have g2 := hr9.cell; have g2f := hr9.frozen)
    have hbs : Below w.heap.size w9 (w9.setCell ⟨w.heap.size + 1, 0, none⟩ (.bool true)) := (Acts.setCell (C := fun k => k = w.heap.size + 1) w9 _ 0 _ rfl).below (by have := hr9.lt; omega) (fun k hk e => by omega)
    exact ⟨_, results_cellb rfl _ _ (w.heap.size + 1) _ rfl (hr9.set _).cell, rfl, (hb1.trans (hb9.mono hb1.size)).trans hbs⟩
  · go_upto_region 1 with fail
    clear hW1
    have zA := Aside0.mk hs1
    clear hs1
    go_wp2_with (go_at_call 17; refine (each_calls s _).mono ?_; rintro e w3 ⟨rfl, hw3⟩; have hnil := run_nil_func 41 und41 (.func 25) #[] #[.pointer (some ⟨W1.heap.size, 0, none⟩)] w3; have d0 := (show Boxed w3 w.heap.size 9 (.string s) by rw [← hw3]; exact b0.alloc _).cell)
    have hlen := each_len s
    have hml := many_le (s.size : Int)
    obtain ⟨W4, hW4⟩ : ∃ W4, w3.alloc (.cells #[.int .i64 0] 3) = W4 := ⟨_, rfl⟩
    have hs3 : w3.heap.size = W1.heap.size + 1 := by rw [← hw3]; simp
    have hs4 : W4.heap.size = W1.heap.size + 2 := by rw [← hW4]; simp [hs3]
    have hA4 : Acts (fun _ => False) W1 W4 := by rw [← hW4, ← hw3]; exact (Acts.alloc _ _ _).trans (Acts.alloc _ _ _) (fun _ h => .inl h)
    have hBi : Boxed W4 w3.heap.size 3 (.int .i64 0) := by rw [← hW4]; exact Boxed.new w3 3 _
    have hBs4 : W4.heap[W1.heap.size]? = some (.cells #[.string s] 9 (0, 0)) := by
      rw [← hW4]; exact (Below.heap_alloc _ _ _ (by omega)).trans (by rw [← hw3]; exact World.alloc_heap_new W1 _)
    have e0 : Boxed W4 w.heap.size 9 (.string s) := (hA4.same _ b0.lt id).trans b0
    have e1 : Boxed W4 (w.heap.size + 1) 4 (.bool false) := (hA4.same _ b1.lt id).trans b1
    have hb4 : Below w.heap.size w W4 := hb1.trans (hA4.below hb1.size (fun _ _ h => h))
    rw [hW4]
    have hG := each_gives W1.heap.size s (by omega) W4 hBs4
    clear hW4 hw3 c0 c1 c1f hnil d0 b0 b1 hA1 hA4 hb1
    have z34 := Aside0.mk hs3
    have z44 := Aside0.mk hs4
    clear hs3 hs4
    refine wp_range_at (gf := 25) rfl enters25 hG (fun x args F W h => by obtain ⟨v, rfl, _⟩ := h; rfl) (Nat.le_refl _) (fun k hk => rfl) (fun k hk => by have := z44.out; rcases hk with h | h; (· omega); exact h.elim) (fun _ _ h _ => h) (fun _ _ _ h _ => h)
      (fun pre C' W' => Boxed W' w3.heap.size 3 (.int .i64 pre.length) ∧ ∀ k, C' k ↔ k = w3.heap.size)
      (fun _ _ _ _ => False)
      ⟨fun s C W W' h hz hk => ⟨(hk _ ((h.2 _).2 rfl)).trans h.1, h.2⟩, fun s C W h k hk => by rw [(h.2 k).1 hk]; exact h.1.lt⟩
      (fun _ => frames_false)
      (fun k => k = w3.heap.size) ⟨hBi, fun _ => Iff.rfl⟩
      (fun k hk h => by have := z34.out; rcases hk with h' | h'; (· omega); exact h'.elim)
      (fun fr pre x a₁ C' W' => ∃ A cap, a₁ = { tmps := (fr.setIfInBounds 17 (.slice A x.length cap)).setIfInBounds 5 (.slice A x.length cap), defers := [] } ∧ Boxed W' w3.heap.size 3 (.int .i64 pre.length) ∧ W'.ownsRow W4.heap.size 9 1 (.slice A x.length cap) x.length (x.map Value.string) ∧ ∀ k, C' k ↔ k = w3.heap.size ∨ Value.ownBlock (.slice A x.length cap) = some k)
      (fun pre x a₁ => ?_) ?_ ?_ ?_ ?_
    · constructor
      · rintro s C' W W' ⟨A, cap, e, h2, h3, h4⟩ hz hk
        exact ⟨A, cap, e, (hk _ ((h4 _).2 (.inl rfl))).trans h2, owns_keep h3 (fun k e => hk k ((h4 k).2 (.inr e))), h4⟩
      · rintro s C' W ⟨A, cap, e, h2, h3, h4⟩ k hk
        rcases (h4 k).1 hk with rfl | h
        · exact h2.lt
        · exact (h3.lt k h).2
    · rintro l2 pre x args F C1 W2 hsz2 hpre ⟨hp2, hp3⟩ ⟨v, rfl, hrow, hF⟩ hFC hFn hA hM
      obtain ⟨A, cap, rfl, r1, C1'⟩ := Kd.R_reads (Kd.R_of_own (enc := Value.string) (h1 := fun _ => rfl) (ok := fun _ => True) hrow (fun _ _ => trivial))
      gi_wp2
      exact ⟨fun k => k = w3.heap.size ∨ Value.ownBlock (.slice A x.length cap) = some k, Acts.refl _ _, fun k h => .inl (h.imp (fun e => (hp3 k).2 e) (fun e => (hF k).2 e)), A, cap, by simp, hp2, owns_raise hrow (fun k e => hFn k ((hF k).2 e)), fun _ => Iff.rfl⟩
    · rintro l2 pre x a₁ C1 W2 hsz2 hpre ⟨A, cap, ha, hp2, hrow, hC1⟩ hA hM
      simp only [List.setIfInBounds_toArray, List.set_cons_succ, List.set_cons_zero] at ha
      subst ha
      have hx1 : pre.length + 1 ≤ manyOf s.size := by have := hpre.length_le; rw [hlen] at this; simpa using this
      have hxe : x = Pure.atR s (wayOf s.size pre.length) := by
        obtain ⟨t, ht⟩ := hpre
        have e1 : (eachOf s)[pre.length]? = some x := by rw [← ht]; simp
        have e2 := each_at s pre.length (by omega)
        rw [e1] at e2; exact Option.some.inj e2
      have hwl : (wayOf (s.size : Int) pre.length).length ≤ 16 := by have h1 := wayUp_len pre.length (s.size : Int).toNat; have := many_range (show pre.length < manyOf s.size by omega); unfold wayOf; omega
      obtain ⟨kw, hkw⟩ := refWay_is (s.size : Int) pre.length (by omega)
      generalize hway : wayOf (s.size : Int) pre.length = way at hkw hxe hwl
      obtain ⟨_, ⟨kr, hkr0⟩, hxl, hall⟩ := Pure.at_is s way (by omega)
      have hkr := hkr0 kr (Nat.le_refl _)
      rw [← hxe] at hkr hxl hall
      have hx100 : x.length ≤ 100 := by omega
      obtain ⟨ks, hks0⟩ := Pure.same_tells x (by omega)
      have hks := hks0 ks (Nat.le_refl _)
      obtain ⟨kj, hkj0⟩ := Pure.joined_tells x (by omega) (by rw [hall]; omega)
      have hkj := hkj0 kj (Nat.le_refl _)
      rw [hall] at hkj
      simp only at hkr hks hkj
      clear hkr0 hks0 hkj0 hxe hway hpre hxl
      have s0 : Boxed W2 w.heap.size 9 (.string s) := (hA.same _ e0.lt (fun h => by have := z34.out; have := zA.out; rcases h with h | h; (· omega); exact h.elim)).trans e0
      have k0 := s0.cell
      have ki := hp2.cell
      obtain ⟨_, hcap, hCx⟩ := SC_of_own hrow
      have hbW : Below W2.heap.size W2 W2.drew := below_drew (Below.refl _ _)
      gi_wp2
      refine region_midIn (fun a a' W5 => (∃ u1 u2 u3 u4 u5 u6 u7 u8 u9 u10 u11 u12 u13 u14, a' = putAll a [(18, u1), (19, u2), (20, u3), (21, u4), (22, u5), (23, u6), (24, u7), (25, u8), (26, u9), (27, u10), (28, u11), (29, u12), (30, u13), (31, u14), (32, .bool false)]) ∧ Below W2.heap.size W2 W5) ?_ ?_
      · refine start_round (n := 15) (S := fun w' => w'.cell? ⟨w.heap.size, 0, none⟩ = some (.string s) ∧ w'.cell? ⟨w3.heap.size, 0, none⟩ = some (.int .i64 pre.length)) (ds := []) #[false, false, false, false, false, false, false, false, false, false, false, false, false, false, false] (by kernel_rfl) (by kernel_rfl) rfl rfl notOut ⟨k0, ki⟩ (fun hHeld => ?_)
        have fS : ∀ W', Below W2.heap.size W2 W' → (W'.cell? ⟨w.heap.size, 0, none⟩ = some (.string s) ∧ W'.cell? ⟨w3.heap.size, 0, none⟩ = some (.int .i64 pre.length)) := fun W' h => ⟨Boxed.cell (t := 9) ((h.block _ s0.lt).trans s0), Boxed.cell (t := 3) ((h.block _ hp2.lt).trans hp2)⟩
        refine pure_ (i := 0) (N := some 18) (v := ?_) (a' := ?_) #[true, false, false, false, false, false, false, false, false, false, false, false, false, false, false] rfl rfl (by kernel_rfl) (fun _ _ _ h => h) (Or.inl ⟨by rfl, ?_⟩) ?_ ?_
        rotate_left
        · intro w'
          go_simp
          with_reducible rfl
        rotate_left
        · simp only [Act.put, List.setIfInBounds_toArray, List.set_cons_zero, List.set_cons_succ]
          rfl
        refine take_ (i := 1) (N := some 19) (v := ?_) (a' := ?_) #[true, true, false, false, false, false, false, false, false, false, false, false, false, false, false] rfl rfl (by kernel_rfl) (fun _ _ _ h => h) (Or.inl ⟨by rfl, ?_⟩) hHeld ?_ ?_
        rotate_left
        · rintro w' ⟨s0, s1⟩
          go_simp
          with_reducible rfl
        rotate_left
        · simp only [Act.put, List.setIfInBounds_toArray, List.set_cons_zero, List.set_cons_succ]
          rfl
        refine take_ (i := 2) (N := some 20) (v := ?_) (a' := ?_) #[true, true, true, false, false, false, false, false, false, false, false, false, false, false, false] rfl rfl (by kernel_rfl) (fun _ _ _ h => h) (Or.inl ⟨by rfl, ?_⟩) hHeld ?_ ?_
        rotate_left
        · rintro w' ⟨s0, s1⟩
          go_simp
          with_reducible rfl
        rotate_left
        · simp only [Act.put, List.setIfInBounds_toArray, List.set_cons_zero, List.set_cons_succ]
          rfl
        refine pure_ (i := 3) (N := some 21) (v := ?_) (a' := ?_) #[true, true, true, true, false, false, false, false, false, false, false, false, false, false, false] rfl rfl (by kernel_rfl) (fun _ _ _ h => h) (Or.inl ⟨by rfl, ?_⟩) ?_ ?_
        rotate_left
        · intro w'
          go_simp
          with_reducible rfl
        rotate_left
        · simp only [Act.put, List.setIfInBounds_toArray, List.set_cons_zero, List.set_cons_succ]
          rfl
        refine take_ (i := 4) (N := some 22) (v := ?_) (a' := ?_) #[true, true, true, true, true, false, false, false, false, false, false, false, false, false, false] rfl rfl (by kernel_rfl) (fun _ _ _ h => h) (Or.inl ⟨by rfl, ?_⟩) hHeld ?_ ?_
        rotate_left
        · rintro w' ⟨s0, s1⟩
          go_simp
          with_reducible rfl
        rotate_left
        · simp only [Act.put, List.setIfInBounds_toArray, List.set_cons_zero, List.set_cons_succ]
          rfl
        refine one_ (i := 5) (N := some 23) #[true, true, true, true, true, true, false, false, false, false, false, false, false, false, false] rfl rfl (by kernel_rfl) (by decide) (fun K hK => ?_)
        refine goes_ Try.func16 (by kernel_rfl) rfl #[.int .i64 (s.size : Int), .int .i64 (pre.length : Int)] (by rfl) rfl rfl (by simp only [List.map_toArray, List.map_cons, List.map_nil]; rfl) ?_
        with_reducible refine (quillpenref07_Way.calls kw _ _ way _ hkw).mono ?_
        rintro e w21 ⟨v21, rfl, ho21, hb21'⟩
        refine ⟨_, rfl, ?_⟩
        obtain ⟨A21, c21, rfl, r21, C21⟩ := Kd.R_reads ho21
        have hb21 : Below W2.heap.size W2 w21 := hbW.trans hb21'
        refine hK.out _ _ (fS _ hb21) (fun hHeld => ?_)
        clear hK K
        refine norm_ (a' := ?_) ?_ ?_
        rotate_left
        · show Act.put _ (some 23) _ = _
          simp only [Act.put, List.setIfInBounds_toArray, List.set_cons_zero, List.set_cons_succ]
          rfl
        refine one_ (i := 6) (N := some 24) #[true, true, true, true, true, true, true, false, false, false, false, false, false, false, false] rfl rfl (by kernel_rfl) (by decide) (fun K hK => ?_)
        refine goes_ Try.func18 (by kernel_rfl) rfl #[.string s, .slice A21 way.length c21] (by rfl) rfl rfl (by simp only [List.map_toArray, List.map_cons, List.map_nil]; rfl) ?_
        with_reducible refine (quillpenref07_At.calls kr s A21 c21 way x _ C21 r21 hkr).mono ?_
        rintro e w22 ⟨v22, rfl, ho22, hb22'⟩
        refine ⟨_, rfl, ?_⟩
        obtain ⟨A22, c22, rfl, r22, C22⟩ := Kd.R_reads ho22
        have hb22 : Below W2.heap.size W2 w22 := hb21.trans (hb22'.mono hb21.size)
        have hrow22 := owns_keep hrow (fun k e => hb22.block k (hrow.lt k e).2)
        obtain ⟨_, _, C22x⟩ := SC_of_own hrow22
        refine hK.out _ _ (fS _ hb22) (fun hHeld => ?_)
        clear hK K
        refine norm_ (a' := ?_) ?_ ?_
        rotate_left
        · show Act.put _ (some 24) _ = _
          simp only [Act.put, List.setIfInBounds_toArray, List.set_cons_zero, List.set_cons_succ]
          rfl
        refine one_ (i := 7) (N := some 25) #[true, true, true, true, true, true, true, true, false, false, false, false, false, false, false] rfl rfl (by kernel_rfl) (by decide) (fun K hK => ?_)
        refine goes_ Try.func10 (by kernel_rfl) rfl #[.slice A x.length cap, .slice A22 x.length c22] (by rfl) rfl rfl (by simp only [List.map_toArray, List.map_cons, List.map_nil]; rfl) ?_
        with_reducible refine (quillpenref05_Same.calls ks A cap x A22 c22 x true w22 C22x hcap C22 r22 hks).mono ?_
        rintro e w23 ⟨rfl, ⟨n23, hd23⟩⟩
        refine ⟨_, rfl, ?_⟩
        have hb23 : Below W2.heap.size W2 w23 := by rw [hd23]; exact hb22.trans (pw_below_drewN (Below.refl _ _) _ |>.mono hb22.size)
        have hrow23 := owns_keep hrow (fun k e => hb23.block k (hrow.lt k e).2)
        obtain ⟨_, _, C23x⟩ := SC_of_own hrow23
        refine hK.out _ _ (fS _ hb23) (fun hHeld => ?_)
        clear hK K
        refine norm_ (a' := ?_) ?_ ?_
        rotate_left
        · show Act.put _ (some 25) _ = _
          simp only [Act.put, List.setIfInBounds_toArray, List.set_cons_zero, List.set_cons_succ]
          rfl
        refine pure_ (i := 8) (N := some 26) (v := ?_) (a' := ?_) #[true, true, true, true, true, true, true, true, true, false, false, false, false, false, false] rfl rfl (by kernel_rfl) (fun _ _ _ h => h) (Or.inl ⟨by rfl, ?_⟩) ?_ ?_
        rotate_left
        · intro w'
          go_simp
          with_reducible rfl
        rotate_left
        · simp only [Act.put, List.setIfInBounds_toArray, List.set_cons_zero, List.set_cons_succ]
          rfl
        refine pure_ (i := 9) (N := some 27) (v := ?_) (a' := ?_) #[true, true, true, true, true, true, true, true, true, true, false, false, false, false, false] rfl rfl (by kernel_rfl) (fun _ _ _ h => h) (Or.inl ⟨by rfl, ?_⟩) ?_ ?_
        rotate_left
        · intro w'
          go_simp
          with_reducible rfl
        rotate_left
        · simp only [Act.put, List.setIfInBounds_toArray, List.set_cons_zero, List.set_cons_succ]
          rfl
        refine pure_ (i := 10) (N := some 28) (v := ?_) (a' := ?_) #[true, true, true, true, true, true, true, true, true, true, true, false, false, false, false] rfl rfl (by kernel_rfl) (fun _ _ _ h => h) (Or.inl ⟨by rfl, ?_⟩) ?_ ?_
        rotate_left
        · intro w'
          go_simp
          with_reducible rfl
        rotate_left
        · simp only [Act.put, List.setIfInBounds_toArray, List.set_cons_zero, List.set_cons_succ]
          rfl
        refine take_ (i := 12) (N := some 30) (v := ?_) (a' := ?_) #[true, true, true, true, true, true, true, true, true, true, true, false, true, false, false] rfl rfl (by kernel_rfl) (fun _ _ _ h => h) (Or.inl ⟨by rfl, ?_⟩) hHeld ?_ ?_
        rotate_left
        · rintro w' ⟨s0, s1⟩
          go_simp
          with_reducible rfl
        rotate_left
        · simp only [Act.put, List.setIfInBounds_toArray, List.set_cons_zero, List.set_cons_succ]
          rfl
        refine one_ (i := 11) (N := some 29) #[true, true, true, true, true, true, true, true, true, true, true, true, true, false, false] rfl rfl (by kernel_rfl) (by decide) (fun K hK => ?_)
        refine goes_ Try.func12 (by kernel_rfl) rfl #[.slice A x.length cap] (by rfl) rfl rfl (by simp only [List.map_toArray, List.map_cons, List.map_nil]; rfl) ?_
        with_reducible refine (quillpenlaw07_joined.calls kj A cap x s w23 C23x hcap hkj).mono ?_
        rintro e w24 ⟨rfl, ⟨n24, hd24⟩⟩
        refine ⟨_, rfl, ?_⟩
        have hb24 : Below W2.heap.size W2 w24 := by rw [hd24]; exact hb23.trans (pw_below_drewN (Below.refl _ _) _ |>.mono hb23.size)
        refine hK.out _ _ (fS _ hb24) (fun hHeld => ?_)
        clear hK K
        refine norm_ (a' := ?_) ?_ ?_
        rotate_left
        · show Act.put _ (some 29) _ = _
          simp only [Act.put, List.setIfInBounds_toArray, List.set_cons_zero, List.set_cons_succ]
          rfl
        refine pure_ (i := 13) (N := some 31) (v := ?_) (a' := ?_) #[true, true, true, true, true, true, true, true, true, true, true, true, true, true, false] rfl rfl (by kernel_rfl) (fun _ _ _ h => h) (Or.inl ⟨by rfl, ?_⟩) ?_ ?_
        rotate_left
        · intro w'
          go_simp
          with_reducible rfl
        rotate_left
        · simp only [Act.put, List.setIfInBounds_toArray, List.set_cons_zero, List.set_cons_succ]
          rfl
        refine pure_ (i := 14) (N := some 32) (v := ?_) (a' := ?_) #[true, true, true, true, true, true, true, true, true, true, true, true, true, true, true] rfl rfl (by kernel_rfl) (fun _ _ _ h => h) (Or.inl ⟨by rfl, ?_⟩) ?_ ?_
        rotate_left
        · intro w'
          go_simp
          with_reducible rfl
        rotate_left
        · simp only [Act.put, List.setIfInBounds_toArray, List.set_cons_zero, List.set_cons_succ]
          rfl
        refine done_ (by kernel_rfl) ?_
        refine ⟨⟨_, _, _, _, _, _, _, _, _, _, _, _, _, _, by simp only [putAll, Act.put, List.setIfInBounds_toArray, List.set_cons_zero, List.set_cons_succ]; rfl⟩, ?_⟩
        exact hb24
      · rintro a' W5 ⟨⟨v1, v2, v3, v4, v5, v6, v7, v8, v9, v10, v11, v12, v13, v14, rfl⟩, hb5⟩
        simp only [putAll, Act.put, List.setIfInBounds_toArray, List.set_cons_zero, List.set_cons_succ]
        have hi5 : Boxed W5 w3.heap.size 3 (.int .i64 pre.length) := (hb5.block _ hp2.lt).trans hp2
        have q0 := hi5.cell
        have q0f := hi5.frozen
        have hset := hi5.set (.int .i64 ((pre.length : Int) + 1))
        gi_wp2
        exact ⟨fun k => k = w3.heap.size, ((Acts.of_below (C := fun _ => False) hb5).weaken (fun _ _ h => h.elim)).trans (Acts.setCell (C := C1) _ _ _ _ ((hC1 _).2 (.inl rfl))) (fun _ h => .inl h), fun k h => .inl ((hC1 k).2 (.inl h)), by simpa using hset, fun _ => Iff.rfl⟩
    · rintro d C' W2 hd hdC hA hM ⟨hp2, hp3⟩ _ hK
      rw [hlen] at hp2
      have s0 : Boxed W2 w.heap.size 9 (.string s) := (hA.same _ e0.lt (fun h => by have := z34.out; have := zA.out; rcases h with h | h; (· omega); exact h.elim)).trans e0
      have r0 : Boxed W2 (w.heap.size + 1) 4 (.bool false) := (hA.same _ e1.lt (fun h => by have := z34.out; have := zA.out; rcases h with h | h; (· omega); exact h.elim)).trans e1
      have k0 := s0.cell
      have ki := hp2.cell
      have hbA : Below w.heap.size w W2 := hb4.trans (hA.below hb4.size (fun k hk h => by have := z34.out; have := zA.out; rcases h with h | h; (· omega); exact h.elim))
      obtain ⟨bad, _, ⟨kc, hc2⟩, hb0, hb1⟩ := counts (s.size : Int)
      have z4 := z44.out
      have z5 := zA.out
      have hz2 := hA.size
      clear e0 e1 hBs4 hBi
      go_wp2_with (first | (go_at_call 13; refine (quillpenref07_Count.calls kc _ _ _ _ hc2).mono ?_; rintro e w8 ⟨rfl, ⟨m8, rfl⟩⟩) | (go_at_call 8; refine (quillpenlaw07_awake.calls ka true _ hka).mono ?_; rintro e w9 ⟨rfl, hb9⟩; have hb9' : Below W2.heap.size W2 w9 := (pw_below_drewN (Below.refl _ _) m8).trans hb9; have hr9 : Boxed w9 (w.heap.size + 1) 4 (.bool false) := (hb9'.block _ r0.lt).trans r0; have g2 := hr9.cell; have g2f := hr9.frozen))
      exact ways_end rfl rfl (by omega) (by omega) hbA hb9' r0 hK
    · rintro d c pre C' W2 hd hdC hA hM hpre h
      exact h.elim
/-- THE LAW's WALK, as its row asks it. -/
theorem cutsEach_walk (a0 : ByteArray) (w : World) (w0 : a0.size ≤ 140737488351232) :
    Calls Try.prog 5 #[.string a0] w fun e w' => e = .returned (.bool true) ∧ Below w.heap.size w w' := each_walk a0 w
end Go.Proofs.Ytjbieekfjlmfmaa.Cuts07
