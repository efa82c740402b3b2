/- rows.Chain of two rows at ints. -/
import Derived.Test.YtncnnbfejomkoaaRf
import Derived.LoopNIn
namespace Go.Proofs.Ytncnnbfejomkoaa.Rows14
open Go.RowKit Go.Shelf Go.Proofs.YtncnnbfejomkoaaW.PrintWords Go.Proofs.YtncnnbfejomkoaaW.PrintLast Go.Proofs.YtncnnbfejomkoaaW.PrintMore Go.Proofs.Ytncnnbfejomkoaa.Iter
set_option linter.unusedVariables false
set_option linter.unusedSimpArgs false
attribute [local go_sem] Oper.semAt_some

theorem leave_two {fn : Func} {tmps : Array Value} {R : Ending → World → Prop} {d e : Nat} {W : World} (h : fn.results = #[]) (hK : W.heap[d]? = some (.deferred (some []))) (hL : (W.putObj d (.deferred none)).heap[e]? = some (.deferred (some []))) (hR : R (.returned (.tuple #[])) ((W.putObj d (.deferred none)).putObj e (.deferred none))) :
    LeavesInM Fence.wide 0 Try.prog fn tmps R [{ target := .collected d, args := #[] }, { target := .collected e, args := #[] }] .returning W :=
  ⟨by simp, .inl ⟨_, _, rfl, run_takeDeferred hK, by simp, .inl ⟨_, _, rfl, run_takeDeferred hL, ⟨_, results_none h _ _ _, hR⟩⟩⟩⟩

/-- Between two rounds of Chain's. -/
def ChnI (J : List Int → (Nat → Prop) → World → Prop) (l B : Nat) (zs pre : List Int) (C' : Nat → Prop) (A : World) : Prop :=
  ∃ Cj : Nat → Prop, J (zs ++ pre) Cj A ∧ Boxed A B 41 (.func (.yield l) #[] #[]) ∧ (∀ k, C' k ↔ Cj k ∨ k = B) ∧ ¬ Cj B
theorem chnI_frames {J : List Int → (Nat → Prop) → World → Prop} (hJ : Frames J) (l B : Nat) (zs : List Int) : Frames (ChnI J l B zs) :=
  ⟨fun s C' A A' ⟨Cj, h1, h2, h3, h4⟩ hz hk => ⟨Cj, hJ.keep _ _ _ _ h1 hz (fun k h => hk k ((h3 k).2 (.inl h))), (hk B ((h3 B).2 (.inr rfl))).trans h2, h3, h4⟩,
   fun s C' A ⟨Cj, h1, h2, h3, h4⟩ k hk => ((h3 k).1 hk).elim (hJ.live _ _ _ h1 k) (fun e => by rw [e]; exact h2.lt)⟩
def ChnX (Jx : List Int → (Nat → Prop) → World → Prop) (zs : List Int) (c : Code) (pre : List Int) (C' : Nat → Prop) (A : World) : Prop := c = .ret ∧ Jx (zs ++ pre) C' A
theorem chnX_frames {Jx : List Int → (Nat → Prop) → World → Prop} (hJ : Frames Jx) (zs : List Int) (c : Code) : Frames (ChnX Jx zs c) :=
  ⟨fun s C' A A' ⟨e, h⟩ hz hk => ⟨e, hJ.keep _ _ _ _ h hz hk⟩, fun s C' A ⟨e, h⟩ => hJ.live _ _ _ h⟩

set_option maxRecDepth 100000 in
set_option maxHeartbeats 2000000 in
theorem chain_gives (Bc Br g1 : Nat) (lb1 : Array Value) (g2 : Nat) (lb2 : Array Value) (xs1 xs2 : List Int) (D1 D2 E : Nat → Prop) (K : Nat → World → Prop) (w : World) (hBc : w.heap[Bc]? = some (.cells #[.slice (some ⟨Br, 0, none⟩) 2 2] 56 (0, 0)))
    (hBr : w.heap[Br]? = some (.cells #[.func (.func g1) #[] lb1, .func (.func g2) #[] lb2] 30 (0, 0))) (hne : ¬ E Bc ∧ ¬ E Br ∧ ∀ k, D2 k → ¬ E k)
    (e1 : ∀ args w, (callFunc g1 args).run Try.prog w = .ok (.enter g1 args) w) (e2 : ∀ args w, (callFunc g2 args).run Try.prog w = .ok (.enter g2 args) w) (hDl1 : ∀ k, D1 k ∨ E k → k < w.heap.size) (hDl2 : ∀ k, D2 k → k < w.heap.size)
    (hK : ∀ m W W', K m W → (∀ k, E k → W'.heap[k]? = W.heap[k]?) → K m W')
    (hG1 : Gives Try.prog g1 lb1 ints xs1 D1 E (K xs1.length) (fun pre => K pre.length) w) (hG2 : Gives Try.prog g2 lb2 ints xs2 D2 (fun _ => False) (fun _ => True) (fun _ _ => True) w) :
    Gives Try.prog 44 #[.pointer (some ⟨Bc, 0, none⟩)] ints (xs1 ++ xs2) (fun k => k = Bc ∨ k = Br ∨ D1 k ∨ D2 k) E (K xs1.length) (fun pre => K (min pre.length xs1.length)) w := by
  intro l J Jx C W hz hD hJ hJx hdis h0 hY
  have kBc := (hD Bc (.inl (.inl rfl))).trans hBc
  have kBr := (hD Br (.inl (.inr (.inl rfl)))).trans hBr
  have lBc : Bc < W.heap.size := (Array.getElem?_eq_some_iff.1 kBc).1
  have lBr : Br < W.heap.size := (Array.getElem?_eq_some_iff.1 kBr).1
  have cBc := Boxed.cell (t := 56) kBc
  refine (callsIn_wide (n := 0)).1 (callsIn_of_wp_marks Try.func44 rfl trivial ?_)
  simp only [Try.ntmps44, List.size_toArray, List.length_cons, List.length_nil, Nat.reduceAdd, Nat.reduceSub, Array.replicate_succ, Array.replicate_zero, List.push_toArray, List.append_toArray, List.nil_append, List.cons_append]
  gi_wp2
  obtain ⟨W1, hW1⟩ : ∃ W1, W.alloc (.cells #[.func (.yield l) #[] #[]] 41) = W1 := ⟨_, rfl⟩
  have hs1 : W1.heap.size = W.heap.size + 1 := by rw [← hW1]; simp
  have hA1 : ∀ F, Acts F W W1 := fun F => by rw [← hW1]; exact Acts.alloc _ W _
  have hB3 : Boxed W1 W.heap.size 41 (.func (.yield l) #[] #[]) := by rw [← hW1]; exact Boxed.new W 41 _
  rw [hW1]
  clear hW1
  have kBr1 := ((hA1 (fun _ => False)).same Br lBr id).trans kBr
  have r10 : W1.cell? ⟨Br, 0, none⟩ = some (.func (.func g1) #[] lb1) := (blk_cell kBr1 0).trans rfl
  refine wpIn_loop_rounds 3 ?_
  rw [roundsIn_succ]
  gi_wp2
  have hlow : ∀ k, C k → k < W.heap.size := hJ.live _ _ _ h0
  have hAW : ∀ W2, Acts (fun k => (C k ∨ k = W.heap.size) ∨ E k) W1 W2 → Acts (fun k => C k ∨ E k) W W2 := fun W2 hA => (hA1 _).trans hA (fun j hj => by
    rcases hj with (h | h) | h
    · exact .inl (.inl h)
    · exact .inr (by omega)
    · exact .inl (.inr h))
  have hMW : ∀ C1, More W1 (fun k => C k ∨ k = W.heap.size) C1 → ∀ k, C1 k → C k ∨ W.heap.size ≤ k := fun C1 hM k h => (hM k h).elim (fun h => h.imp id (fun e => by omega)) (fun h => .inr (by omega))
  refine (wpIn_wide (n := 0)).2 (wp_range_at (gf := g1) (lb := lb1) rfl e1 hG1 (fun x args F W h => by rw [h.1]; rfl) (by omega) (fun k hk => ((hA1 (fun _ => False)).same k (by have := hDl1 k hk; omega) id).trans (hD k (hk.imp (fun h => .inr (.inr (.inl h))) id))) hDl1 (hK _) (fun pre => hK _)
    (ChnI J l W.heap.size []) (ChnX Jx []) (chnI_frames hJ l _ _) (chnX_frames hJx _) (fun k => C k ∨ k = W.heap.size) ⟨C, hJ.acts h0 (hA1 (fun _ => False)) (fun _ _ h => h), hB3, fun _ => Iff.rfl, fun h => by have := hlow _ h; omega⟩
    (fun k hk h => h.elim (hdis k (hk.imp (fun h => .inr (.inr (.inl h))) id)) (fun e => by have := hDl1 k hk; omega))
    (fun fr pre x a₁ C' A => a₁ = { tmps := (fr.setIfInBounds 13 (.int .i64 x)).setIfInBounds 5 (.int .i64 x), defers := [] } ∧ ChnI J l W.heap.size [] pre C' A)
    (fun pre x a₁ => ⟨fun s C' A B h hz hk => ⟨h.1, (chnI_frames hJ l _ _).keep _ _ _ _ h.2 hz hk⟩, fun s C' A h => (chnI_frames hJ l _ _).live _ _ _ h.2⟩) ?_ ?_ ?_ ?_)
  · intro l2 pre x args F C1 W2 hs2 hpre hI hH hFC hFn hA hM
    obtain ⟨rfl, hF⟩ := hH
    gi_wp2
    exact ⟨C1, Acts.refl _ _, fun k h => .inl (.inl h), by simp, hI⟩
  · rintro l2 pre x a₁ C1 W2 hs2 hpre ⟨ha, Cj, hj, hb, hC1, hnB⟩ hA hM
    simp only [List.setIfInBounds_toArray, List.set_cons_succ, List.set_cons_zero] at ha
    subst ha
    have hAW := hAW W2 hA
    have hMW := hMW C1 hM
    have c3 := hb.cell
    have hCj : ∀ k, Cj k → ¬ (W.heap.size ≤ k ∧ k < W.heap.size + 1) := fun k hk h => hnB (by rw [show W.heap.size = k from by omega]; exact hk)
    have hsz := hb.lt
    have hpf : ([] ++ pre) ++ [x] <+: xs1 ++ xs2 := by
      obtain ⟨t, ht⟩ := hpre
      exact ⟨t ++ xs2, by rw [← ht]; simp⟩
    obtain ⟨fn, tm, asg, bd, hy, hR⟩ := hY ([] ++ pre) x _ (fun _ => False) Cj W2 hj hpf ⟨rfl, fun _ h => h⟩ (fun _ h => h.elim) (fun _ h => h.elim) hAW (fun k hk => hMW k ((hC1 k).2 (.inl hk)))
    dsimp only at hy
    have hto : ∀ k, (Cj k ∨ (W.heap.size ≤ k ∧ k < W.heap.size + 1)) → C1 k := fun k h => (hC1 k).2 (h.imp id (fun h => by omega))
    gi_wp2
    refine ⟨rfl, (show RoundIn (Fence.wide.inRound l2) 0 _ l fn tm asg bd _ _ from hR).mono ?_⟩
    rintro e W4 (⟨rfl, C2, hA4, hM4, hJ4⟩ | ⟨rfl, C2, hA4, hM4, hJ4⟩) <;> obtain ⟨q1, q2, q3, q4⟩ := ad_told hCj (by omega) (Acts.refl _ W2) hA4 hM4
    · gi_wp2
      exact ⟨fun k => C2 k ∨ k = W.heap.size, q1.weaken (fun k _ h => hto k h), fun k h => h.elim (fun h => (q2 k h).imp (hto k) id) (fun e => .inl ((hC1 k).2 (.inr e))), C2, by rw [← List.append_assoc]; exact hJ4, (q4 _ (by omega) (by omega)).trans hb, fun _ => Iff.rfl, fun h => q3 _ h ⟨Nat.le_refl _, by omega⟩⟩
    · gi_wp2
      exact ⟨C2, q1.weaken (fun k _ h => hto k h), fun k h => (q2 k h).imp (hto k) id, rfl, by rw [← List.append_assoc]; exact hJ4⟩
  · rintro d1 Cm Wm hd1 hdm1 hAm hMm hIm hKm hKd1
    have kAm := hAW Wm hAm
    have kMm := hMW Cm hMm
    have zm := kAm.size
    have ld1 := (Array.getElem?_eq_some_iff.1 hKd1).1
    have kBrm : Wm.heap[Br]? = some (.cells #[.func (.func g1) #[] lb1, .func (.func g2) #[] lb2] 30 (0, 0)) := (kAm.same Br lBr (fun h => h.elim (hdis Br (.inl (.inr (.inl rfl)))) hne.2.1)).trans kBr
    have r11 : Wm.cell? ⟨Br, 1, none⟩ = some (.func (.func g2) #[] lb2) := (blk_cell kBrm 1).trans rfl
    have hIm' : ChnI J l W.heap.size xs1 [] Cm Wm := by
      obtain ⟨Cj, h1, h2⟩ := hIm
      exact ⟨Cj, by rw [List.append_nil]; exact h1, h2⟩
    have hECm : ∀ k, E k → ¬ Cm k := fun k hk h => (kMm k h).elim (hdis k (.inr hk)) (fun h => by have := hDl1 k (.inr hk); omega)
    have mAW : ∀ W2, Acts (fun k => Cm k ∨ False) Wm W2 → Acts (fun k => C k ∨ E k) W W2 := fun W2 hA => kAm.trans hA (fun j hj => (kMm j (hj.elim id False.elim)).imp .inl id)
    have mMW : ∀ C1, More Wm Cm C1 → ∀ k, C1 k → C k ∨ W.heap.size ≤ k := fun C1 hM k h => (hM k h).elim (kMm k) (fun h => .inr (by omega))
    have hlv : ∀ (d2 : Nat) (C3 : Nat → Prop) (W3 : World), Wm.heap.size ≤ d2 → ¬ C3 d2 → Acts (fun k => Cm k ∨ False) Wm W3 → More Wm Cm C3 → W3.heap[d2]? = some (.deferred (some [])) →
        Acts (fun k => C k ∨ E k) W ((W3.putObj d2 (.deferred none)).putObj d1 (.deferred none)) ∧ (W3.putObj d2 (.deferred none)).heap[d1]? = some (.deferred (some [])) ∧
        (∀ (X : List Int → (Nat → Prop) → World → Prop), Frames X → ∀ ys Cx, (∀ k, Cx k → C3 k) → X ys Cx W3 → X ys Cx ((W3.putObj d2 (.deferred none)).putObj d1 (.deferred none))) ∧ K xs1.length ((W3.putObj d2 (.deferred none)).putObj d1 (.deferred none)) := by
      intro d2 C3 W3 hd2 hdm2 hA3 hM3 hKd2
      have p2 : Acts (fun k => k = d2) W3 (W3.putObj d2 (.deferred none)) := Acts.putObj _ _ _ rfl
      have p1 : Acts (fun k => k = d1) (W3.putObj d2 (.deferred none)) ((W3.putObj d2 (.deferred none)).putObj d1 (.deferred none)) := Acts.putObj _ _ _ rfl
      have n1 : ¬ C3 d1 := fun h => (hM3 d1 h).elim hdm1 (by omega)
      refine ⟨((mAW W3 hA3).trans p2 (fun j e => .inr (by omega))).trans p1 (fun j e => .inr (by omega)), ?_, fun X hX ys Cx hc hx => ?_, ?_⟩
      · exact (World.putObj_heap_other (by omega)).trans ((hA3.same d1 ld1 (fun h => h.elim hdm1 id)).trans hKd1)
      · exact hX.acts (hX.acts hx p2 (fun k hk e => hdm2 (by rw [← e]; exact hc k hk))) p1 (fun k hk e => n1 (by rw [← e]; exact hc k hk))
      · refine hK _ _ _ hKm (fun k hk => ?_)
        have hlt := hDl1 k (.inr hk)
        exact (World.putObj_heap_other (by omega)).trans ((World.putObj_heap_other (by omega)).trans (hA3.same k (by omega) (fun h => h.elim (hECm k hk) id)))
    gi_wp2
    rw [roundsIn_succ]
    gi_wp2
    refine (wpIn_wide (n := 0)).2 (wp_range_at (gf := g2) (lb := lb2) rfl e2 hG2 (fun x args F W h => by rw [h.1]; rfl) (by omega) (fun k hk => hk.elim (fun hk => (kAm.same k (by have := hDl2 k hk; omega) (fun h => h.elim (hdis k (.inl (.inr (.inr (.inr hk))))) (hne.2.2 k hk))).trans (hD k (.inl (.inr (.inr (.inr hk)))))) False.elim) (fun k hk => hk.elim (hDl2 k) False.elim) (fun _ _ h _ => h) (fun _ _ _ h _ => h)
      (ChnI J l W.heap.size xs1) (ChnX Jx xs1) (chnI_frames hJ l _ _) (chnX_frames hJx _) Cm hIm'
      (fun k hk h => hk.elim (fun hk => (kMm k h).elim (hdis k (.inl (.inr (.inr (.inr hk))))) (fun h => by have := hDl2 k hk; omega)) False.elim)
      (fun fr pre x a₁ C' A => a₁ = { tmps := (fr.setIfInBounds 13 (.int .i64 x)).setIfInBounds 5 (.int .i64 x), defers := [] } ∧ ChnI J l W.heap.size xs1 pre C' A)
      (fun pre x a₁ => ⟨fun s C' A B h hz hk => ⟨h.1, (chnI_frames hJ l _ _).keep _ _ _ _ h.2 hz hk⟩, fun s C' A h => (chnI_frames hJ l _ _).live _ _ _ h.2⟩) ?_ ?_ ?_ ?_)
    · intro l2 pre x args F C1 W2 hs2 hpre hI hH hFC hFn hA hM
      obtain ⟨rfl, hF⟩ := hH
      gi_wp2
      exact ⟨C1, Acts.refl _ _, fun k h => .inl (.inl h), by simp, hI⟩
    · rintro l2 pre x a₁ C1 W2 hs2 hpre ⟨ha, Cj, hj, hb, hC1, hnB⟩ hA hM
      simp only [List.setIfInBounds_toArray, List.set_cons_succ, List.set_cons_zero] at ha
      subst ha
      have hAW := mAW W2 hA
      have hMW := mMW C1 hM
      have c3 := hb.cell
      have hCj : ∀ k, Cj k → ¬ (W.heap.size ≤ k ∧ k < W.heap.size + 1) := fun k hk h => hnB (by rw [show W.heap.size = k from by omega]; exact hk)
      have hsz := hb.lt
      have hpf : (xs1 ++ pre) ++ [x] <+: xs1 ++ xs2 := by
        obtain ⟨t, ht⟩ := hpre
        exact ⟨t, by rw [← ht]; simp⟩
      obtain ⟨fn, tm, asg, bd, hy, hR⟩ := hY (xs1 ++ pre) x _ (fun _ => False) Cj W2 hj hpf ⟨rfl, fun _ h => h⟩ (fun _ h => h.elim) (fun _ h => h.elim) hAW (fun k hk => hMW k ((hC1 k).2 (.inl hk)))
      dsimp only at hy
      have hto : ∀ k, (Cj k ∨ (W.heap.size ≤ k ∧ k < W.heap.size + 1)) → C1 k := fun k h => (hC1 k).2 (h.imp id (fun h => by omega))
      gi_wp2
      refine ⟨rfl, (show RoundIn (Fence.wide.inRound l2) 0 _ l fn tm asg bd _ _ from hR).mono ?_⟩
      rintro e W4 (⟨rfl, C2, hA4, hM4, hJ4⟩ | ⟨rfl, C2, hA4, hM4, hJ4⟩) <;> obtain ⟨q1, q2, q3, q4⟩ := ad_told hCj (by omega) (Acts.refl _ W2) hA4 hM4
      · gi_wp2
        exact ⟨fun k => C2 k ∨ k = W.heap.size, q1.weaken (fun k _ h => hto k h), fun k h => h.elim (fun h => (q2 k h).imp (hto k) id) (fun e => .inl ((hC1 k).2 (.inr e))), C2, by rw [← List.append_assoc]; exact hJ4, (q4 _ (by omega) (by omega)).trans hb, fun _ => Iff.rfl, fun h => q3 _ h ⟨Nat.le_refl _, by omega⟩⟩
      · gi_wp2
        exact ⟨C2, q1.weaken (fun k _ h => hto k h), fun k h => (q2 k h).imp (hto k) id, rfl, by rw [← List.append_assoc]; exact hJ4⟩
    · rintro d2 C3 W3 hd2 hdm2 hA3 hM3 ⟨Cj, hj, _, hC3, _⟩ _ hKd2
      have lv := hlv d2 C3 W3 hd2 hdm2 hA3 hM3 hKd2
      gi_wp2
      rw [roundsIn_succ]
      gi_wp2
      refine leave_two rfl hKd2 lv.2.1 ⟨⟨_, rfl⟩, Cj, lv.1, fun k hk => mMW C3 hM3 k ((hC3 k).2 (.inl hk)), .inl ⟨lv.2.2.1 J hJ _ Cj (fun k hk => (hC3 k).2 (.inl hk)) hj, lv.2.2.2⟩⟩
    · rintro d2 c pre C3 W3 hd2 hdm2 hA3 hM3 hpre ⟨rfl, hx⟩ _ hKd2
      refine (wpIn_wide (n := 0)).1 ?_
      have lv := hlv d2 C3 W3 hd2 hdm2 hA3 hM3 hKd2
      gi_wp2
      refine leave_two rfl hKd2 lv.2.1 ⟨⟨_, rfl⟩, C3, lv.1, fun k hk => mMW C3 hM3 k hk, .inr ⟨xs1 ++ pre, by obtain ⟨t, rfl⟩ := hpre; exact ⟨t, by simp⟩, lv.2.2.1 Jx hJx _ C3 (fun _ h => h) hx, ?_⟩⟩
      have e : min (xs1 ++ pre).length xs1.length = xs1.length := by simp
      show K (min (xs1 ++ pre).length xs1.length) _
      rw [e]; exact lv.2.2.2
  · rintro d c pre C' W2 hd hdC hA hM hpre ⟨rfl, hx⟩ hk hKd
    refine (wpIn_wide (n := 0)).1 ?_
    gi_wp2
    have hp : Acts (fun k => k = d) W2 (W2.putObj d (.deferred none)) := Acts.putObj _ _ _ rfl
    refine leave_mark0 rfl hKd ⟨⟨_, rfl⟩, C', (hAW W2 hA).trans hp (fun j e => .inr (by omega)), hMW C' hM, .inr ⟨pre, by obtain ⟨t, rfl⟩ := hpre; exact ⟨t ++ xs2, by simp⟩, hJx.acts hx hp (fun k hk e => hdC (by rw [← e]; exact hk)), ?_⟩⟩
    have hl := hpre.length_le
    show K (min pre.length xs1.length) _
    rw [show min pre.length xs1.length = pre.length from by omega]
    exact hK _ _ _ hk (fun k hk => World.putObj_heap_other (by have := hDl1 k (.inr hk); omega))
end Go.Proofs.Ytncnnbfejomkoaa.Rows14
