/- rows.Map at bools. -/
import Derived.Test.YtncnnbfejomkoaaRi
import Derived.Shelf.RegionOpen
namespace Go.Proofs.Ytncnnbfejomkoaa.Rows14
open Go.RowKit Go.Shelf Go.Proofs.YtncnnbfejomkoaaW.PrintWords Go.Proofs.YtncnnbfejomkoaaW.PrintLast Go.Proofs.YtncnnbfejomkoaaW.PrintMore Go.Proofs.Ytncnnbfejomkoaa.Iter
set_option linter.unusedVariables false
set_option linter.unusedSimpArgs false
attribute [local go_sem] Oper.semAt_some

set_option maxRecDepth 100000 in
set_option maxHeartbeats 2000000 in
theorem mapb_gives (Bv Bf gf : Nat) (lb : Array Value) (gp : Nat) (lp : Array Value) (h : Int → Bool) (xs : List Int) (D E Dp : Nat → Prop) (K : Nat → World → Prop) (w : World) (hBv : w.heap[Bv]? = some (.cells #[.func (.func gf) #[] lb] 30 (0, 0))) (hBf : w.heap[Bf]? = some (.cells #[.func (.func gp) #[] lp] 41 (0, 0)))
    (hne : ¬ E Bf ∧ ∀ k, Dp k → ¬ E k) (hDp : ∀ k, Dp k → k < w.heap.size) (eg : ∀ args w, (callFunc gf args).run Try.prog w = .ok (.enter gf args) w) (ep : ∀ args w, (callFunc gp args).run Try.prog w = .ok (.enter gp args) w) (hDl : ∀ k, D k ∨ E k → k < w.heap.size)
    (hK : ∀ m W W', K m W → (∀ k, E k → W'.heap[k]? = W.heap[k]?) → K m W')
    (hG : Gives Try.prog gf lb ints xs D E (K xs.length) (fun pre => K pre.length) w) (hP : Asks gp lp (fun x => .bool (h x)) Dp w) :
    Gives Try.prog 41 #[.pointer (some ⟨Bv, 0, none⟩), .pointer (some ⟨Bf, 0, none⟩)] (Plain fun b : Bool => #[.bool b]) (xs.map h) (fun k => k = Bv ∨ k = Bf ∨ D k ∨ Dp k) E (K xs.length) (fun pre => K pre.length) w := by
  intro l J Jx C W hz hD hJ hJx hdis h0 hY
  have kBv := (hD Bv (.inl (.inl rfl))).trans hBv
  have kBf := (hD Bf (.inl (.inr (.inl rfl)))).trans hBf
  have cBv := Boxed.cell (t := 30) kBv
  have lBv : Bv < W.heap.size := (Array.getElem?_eq_some_iff.1 kBv).1
  have lBf : Bf < W.heap.size := (Array.getElem?_eq_some_iff.1 kBf).1
  refine (callsIn_wide (n := 0)).1 (callsIn_of_wp_marks Try.func41 rfl trivial ?_)
  simp only [Try.ntmps41, List.size_toArray, List.length_cons, List.length_nil, Nat.reduceAdd, Nat.reduceSub, Array.replicate_succ, Array.replicate_zero, List.push_toArray, List.append_toArray, List.nil_append, List.cons_append]
  obtain ⟨f, hf⟩ : ∃ f : List Int → List Bool, f = fun q => q.map h := ⟨_, rfl⟩
  obtain ⟨ys, hys⟩ : ∃ ys, f xs = ys := ⟨_, rfl⟩
  have hys' : xs.map h = ys := by rw [← hys, hf]
  rw [hys'] at hY ⊢
  gi_wp2
  obtain ⟨W1, hW1⟩ : ∃ W1, W.alloc (.cells #[.func (.yield l) #[] #[]] 55) = W1 := ⟨_, rfl⟩
  have hs1 : W1.heap.size = W.heap.size + 1 := by rw [← hW1]; simp
  have hA1 : Acts (fun _ => False) W W1 := by rw [← hW1]; exact Acts.alloc _ W _
  have hB3 : Boxed W1 W.heap.size 55 (.func (.yield l) #[] #[]) := by rw [← hW1]; exact Boxed.new W 55 _
  rw [hW1]
  clear hW1
  refine ad_range (gf := gf) (lb := lb) (fn := Try.f41) (Kd' := K xs.length) (Ks' := fun pre => K pre.length) (ys := ys) (ps := #[6]) rfl rfl rfl eg hG (fun _ => rfl) hz (fun k hk => hD k (hk.imp (fun h => .inr (.inr (.inl h))) id)) hDl (hK _) (fun pre => hK _) (hK _) (fun pre => hK _) hJ hJx h0 (fun k hk => hdis k (hk.imp (fun h => .inr (.inr (.inl h))) id))
    hA1 1 hs1 f (by rw [hf]; rfl) (fun pre A => Boxed A W.heap.size 55 (.func (.yield l) #[] #[]))
    (fun s A A' h hk => (hk _ (by omega) (by omega)).trans h) hB3
    (fun pre C' A => Jx (f pre) C' A)
    ⟨fun s C' A A' h hz hk => hJx.keep _ _ _ _ h hz hk, fun s C' A h => hJx.live _ _ _ h⟩
    (fun fr x => { tmps := (fr.setIfInBounds 6 (.int .i64 x)).setIfInBounds 4 (.int .i64 x), defers := [] }) ?_ ?_ ?_ (fun _ _ h => h) (fun _ _ h => h)
  · intro l2 x W2
    gi_wp2
    exact ⟨trivial, by simp⟩
  · rintro l2 pre x Cj W2 hpre hj b3 hCj hsz hA hM
    simp only [List.setIfInBounds_toArray, List.set_cons_succ, List.set_cons_zero]
    have c3 := b3.cell
    have kf2 : Boxed W2 Bf 41 (.func (.func gp) #[] lp) := (hA.same Bf lBf (fun h => h.elim (hdis Bf (.inl (.inr (.inl rfl)))) hne.1)).trans kBf
    have cf := kf2.cell
    have hPx : ∀ m, Calls Try.prog gp (#[.int .i64 x] ++ lp) (W2.drewN m) fun e W' => e = .returned (.bool (h x)) ∧ ∃ m', W' = W2.drewN m' := fun m => (hP (W2.drewN m) x (fun k hk => (hA.same k (by have := hDp k hk; omega) (fun h => h.elim (hdis k (.inl (.inr (.inr (.inr hk))))) (hne.2 k hk))).trans (hD k (.inl (.inr (.inr (.inr hk))))))).mono (fun e W' ⟨h1, m', h2⟩ => ⟨h1, m + m', by rw [h2, World.drewN_drewN]⟩)
    have hfe : f (pre ++ [x]) = f pre ++ [h x] := by rw [hf]; simp
    have hpf : f pre ++ [h x] <+: ys := by
      obtain ⟨t, rfl⟩ := hpre
      rw [← hfe, ← hys, hf]
      simp only [List.map_append]
      exact List.prefix_append _ _
    have hYs : ∀ m, YieldAt Fence.wide 0 Try.prog l #[.bool (h x)] (W2.drewN m) (fun e W4 => ∃ b C2, e = .returned (.bool b) ∧ Acts (fun k => Cj k ∨ False) (W2.drewN m) W4 ∧ More (W2.drewN m) (fun k => Cj k ∨ False) C2 ∧ (b = true → J (f pre ++ [h x]) C2 W4) ∧ (b = false → Jx (f pre ++ [h x]) C2 W4)) := fun m => by
      obtain ⟨fn, tm, asg, bd, hy, hR⟩ := hY (f pre) (h x) #[.bool (h x)] (fun _ => False) Cj (W2.drewN m) (hJ.acts hj (Acts.drewN (fun _ => False) _ _) (fun _ _ h => h)) hpf ⟨rfl, fun _ h => h⟩ (fun _ h => h.elim) (fun _ h => h.elim) (hA.trans (Acts.drewN _ _ _) (fun _ h => .inl h)) hM
      refine ⟨fn, tm, asg, bd, hy, hR.mono ?_⟩
      rintro e W4 (⟨rfl, C2, h1, h2, h3⟩ | ⟨rfl, C2, h1, h2, h3⟩)
      · exact ⟨true, C2, rfl, h1, h2, fun _ => h3, (fun h => Bool.noConfusion h)⟩
      · exact ⟨false, C2, rfl, h1, h2, (fun h => Bool.noConfusion h), fun _ => h3⟩
    clear hf hys hys'
    have hmx : Try.prog.follows .mixedOrders = true := by kernel_rfl
    gi_wp2
    refine region_midIn (fun a a' W4 => ∃ u1 u2 u3 u4 u5 b C2 m, a' = putAll a [(7, u1), (8, u2), (9, u3), (10, u4), (11, u5), (12, .bool (!b))] ∧ Acts (fun k => Cj k ∨ False) (W2.drewN m) W4 ∧ More (W2.drewN m) (fun k => Cj k ∨ False) C2 ∧ (b = true → J (f pre ++ [h x]) C2 W4) ∧ (b = false → Jx (f pre ++ [h x]) C2 W4)) ?_ ?_
    · gi_region_with_o (first | (refine ⟨trivial, rfl, (show CallsIn (Fence.wide.inRound l2) 0 _ _ _ _ _ from callsIn_wide.2 (hPx 1)).mono ?_⟩; rintro e W3 ⟨rfl, m, rfl⟩; obtain ⟨fn, tm, asg, bd, hy, hR⟩ := hYs m) | (refine ⟨rfl, (show RoundIn (Fence.wide.inRound l2) 0 _ l fn tm asg bd _ _ from hR).mono ?_⟩; rintro e W4 ⟨b, C2, rfl, hA4, hM4, hJ4, hJx4⟩))
      all_goals exact ⟨_, _, _, _, _, b, C2, m, by simp only [putAll, Act.put, List.setIfInBounds_toArray, List.set_cons_zero, List.set_cons_succ]; rfl, hA4, hM4, hJ4, hJx4⟩
    · rintro a' W4 ⟨u1, u2, u3, u4, u5, b, C2, m, rfl, hA4, hM4, hJ4, hJx4⟩
      simp only [putAll, Act.put, List.setIfInBounds_toArray, List.set_cons_zero, List.set_cons_succ]
      obtain ⟨q1, q2, q3, q4⟩ := ad_told hCj hsz (Acts.drewN _ _ m) hA4 hM4
      cases b with
      | true =>
        gi_wp2
        exact ⟨C2, q1, q2, q3, by rw [hfe]; exact hJ4 (by first | trivial | rfl), (q4 _ (by omega) (by omega)).trans b3⟩
      | false =>
        gi_wp2
        exact ⟨C2, q1, q2, by show Jx (f (pre ++ [x])) C2 W4; rw [hfe]; exact hJx4 (by first | trivial | rfl)⟩
  · rintro C2 W2 (⟨h1, h2, h3⟩ | ⟨pre, hp, h1, h3⟩)
    · exact .inl ⟨by rw [← hys]; exact h1, h3⟩
    · refine .inr ⟨f pre, ?_, h1, ?_⟩
      · obtain ⟨t, rfl⟩ := hp
        rw [← hys, hf]
        simp only [List.map_append]
        exact List.prefix_append _ _
      · show K (f pre).length W2
        rw [hf, List.length_map]; exact h3
end Go.Proofs.Ytncnnbfejomkoaa.Rows14
