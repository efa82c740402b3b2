/- rows.While, rows.Keep, rows.Map at ints. -/
import Derived.Test.YtncnnbfejomkoaaRf
import Derived.Shelf.RegionOpen
namespace Go.Proofs.Ytncnnbfejomkoaa.Rows14
open Go.RowKit Go.Shelf Go.Proofs.YtncnnbfejomkoaaW.PrintWords Go.Proofs.YtncnnbfejomkoaaW.PrintLast Go.Proofs.YtncnnbfejomkoaaW.PrintMore Go.Proofs.Ytncnnbfejomkoaa.Iter
set_option linter.unusedVariables false
set_option linter.unusedSimpArgs false
attribute [local go_sem] Oper.semAt_some

/-- A function value that tells f x of x; it reads the blocks of D. -/
def Asks (g : Nat) (lb : Array Value) (f : Int → Value) (D : Nat → Prop) (w : World) : Prop :=
  ∀ (W : World) (x : Int), (∀ k, D k → W.heap[k]? = w.heap[k]?) → Calls Try.prog g (#[.int .i64 x] ++ lb) W fun e W' => e = .returned (f x) ∧ ∃ m, W' = W.drewN m

set_option maxRecDepth 100000 in
set_option maxHeartbeats 2000000 in
theorem while_gives (Bv Bf gf : Nat) (lb : Array Value) (gp : Nat) (lp : Array Value) (p : Int → Bool) (xs : List Int) (D E Dp : Nat → Prop) (K : Nat → World → Prop) (w : World) (hBv : w.heap[Bv]? = some (.cells #[.func (.func gf) #[] lb] 30 (0, 0))) (hBf : w.heap[Bf]? = some (.cells #[.func (.func gp) #[] lp] 41 (0, 0)))
    (hne : ¬ E Bf ∧ ∀ k, Dp k → ¬ E k) (hDp : ∀ k, Dp k → k < w.heap.size) (eg : ∀ args w, (callFunc gf args).run Try.prog w = .ok (.enter gf args) w) (ep : ∀ args w, (callFunc gp args).run Try.prog w = .ok (.enter gp args) w) (hDl : ∀ k, D k ∨ E k → k < w.heap.size)
    (hK : ∀ m W W', K m W → (∀ k, E k → W'.heap[k]? = W.heap[k]?) → K m W')
    (hG : Gives Try.prog gf lb ints xs D E (K xs.length) (fun pre => K pre.length) w) (hP : Asks gp lp (fun x => .bool (p x)) Dp w) :
    Gives Try.prog 39 #[.pointer (some ⟨Bv, 0, none⟩), .pointer (some ⟨Bf, 0, none⟩)] ints (xs.takeWhile p) (fun k => k = Bv ∨ k = Bf ∨ D k ∨ Dp k) E (K (min ((xs.takeWhile p).length + 1) xs.length)) (fun pre => K pre.length) w := by
  intro l J Jx C W hz hD hJ hJx hdis h0 hY
  have kBv := (hD Bv (.inl (.inl rfl))).trans hBv
  have kBf := (hD Bf (.inl (.inr (.inl rfl)))).trans hBf
  have cBv := Boxed.cell (t := 30) kBv
  have lBv : Bv < W.heap.size := (Array.getElem?_eq_some_iff.1 kBv).1
  have lBf : Bf < W.heap.size := (Array.getElem?_eq_some_iff.1 kBf).1
  refine (callsIn_wide (n := 0)).1 (callsIn_of_wp_marks Try.func39 rfl trivial ?_)
  simp only [Try.ntmps39, List.size_toArray, List.length_cons, List.length_nil, Nat.reduceAdd, Nat.reduceSub, Array.replicate_succ, Array.replicate_zero, List.push_toArray, List.append_toArray, List.nil_append, List.cons_append]
  obtain ⟨ys, hys⟩ : ∃ ys, xs.takeWhile p = ys := ⟨_, rfl⟩
  rw [hys] at hY ⊢
  obtain ⟨Kd', hKd'⟩ : ∃ Kd', K (min (ys.length + 1) xs.length) = Kd' := ⟨_, rfl⟩
  rw [hKd']
  gi_wp2
  obtain ⟨W1, hW1⟩ : ∃ W1, W.alloc (.cells #[.func (.yield l) #[] #[]] 41) = W1 := ⟨_, rfl⟩
  have hs1 : W1.heap.size = W.heap.size + 1 := by rw [← hW1]; simp
  have hA1 : Acts (fun _ => False) W W1 := by rw [← hW1]; exact Acts.alloc _ W _
  have hB3 : Boxed W1 W.heap.size 41 (.func (.yield l) #[] #[]) := by rw [← hW1]; exact Boxed.new W 41 _
  rw [hW1]
  clear hW1
  refine ad_range (gf := gf) (lb := lb) (fn := Try.f39) (Kd' := Kd') (Ks' := fun pre => K pre.length) (ys := ys) (ps := #[6]) rfl rfl rfl eg hG (fun _ => rfl) hz (fun k hk => hD k (hk.imp (fun h => .inr (.inr (.inl h))) id)) hDl (hK _) (fun pre => hK _) (by rw [← hKd']; exact hK _) (fun pre => hK _) hJ hJx h0 (fun k hk => hdis k (hk.imp (fun h => .inr (.inr (.inl h))) id))
    hA1 1 hs1 id rfl (fun pre A => Boxed A W.heap.size 41 (.func (.yield l) #[] #[]) ∧ ∀ x ∈ pre, p x = true)
    (fun s A A' h hk => ⟨(hk _ (by omega) (by omega)).trans h.1, h.2⟩) ⟨hB3, by simp⟩
    (fun pre C' A => (Jx pre C' A ∧ ∀ x ∈ pre, p x = true) ∨ (∃ q x, pre = q ++ [x] ∧ J q C' A ∧ (∀ x ∈ q, p x = true) ∧ p x = false))
    ⟨fun s C' A A' h hz hk => h.imp (fun h => ⟨hJx.keep _ _ _ _ h.1 hz hk, h.2⟩) (fun ⟨q, x, e, h1, h2⟩ => ⟨q, x, e, hJ.keep _ _ _ _ h1 hz hk, h2⟩), fun s C' A h => h.elim (fun h => hJx.live _ _ _ h.1) (fun ⟨q, x, e, h1, h2⟩ => hJ.live _ _ _ h1)⟩
    (fun fr x => { tmps := (fr.setIfInBounds 6 (.int .i64 x)).setIfInBounds 4 (.int .i64 x), defers := [] }) ?_ ?_ ?_ (fun _ _ h => h) (fun _ _ h => h)
  · intro l2 x W2
    gi_wp2
    exact ⟨trivial, by simp⟩
  · rintro l2 pre x Cj W2 hpre hj ⟨b3, hall⟩ hCj hsz hA hM
    simp only [List.setIfInBounds_toArray, List.set_cons_succ, List.set_cons_zero]
    replace hj : J pre Cj W2 := hj
    have c3 := b3.cell
    have kf2 : Boxed W2 Bf 41 (.func (.func gp) #[] lp) := (hA.same Bf lBf (fun h => h.elim (hdis Bf (.inl (.inr (.inl rfl)))) hne.1)).trans kBf
    have cf := kf2.cell
    have hPx := hP W2 x (fun k hk => (hA.same k (by have := hDp k hk; omega) (fun h => h.elim (hdis k (.inl (.inr (.inr (.inr hk))))) (hne.2 k hk))).trans (hD k (.inl (.inr (.inr (.inr hk))))))
    gi_wp2
    refine ⟨trivial, rfl, (show CallsIn (Fence.wide.inRound l2) 0 _ _ _ _ _ from callsIn_wide.2 hPx).mono ?_⟩
    rintro e W3 ⟨rfl, m, rfl⟩
    have b3' : Boxed (W2.drewN m) W.heap.size 41 (.func (.yield l) #[] #[]) := b3
    have c3' := b3'.cell
    cases hp : p x with
    | false =>
      gi_wp2
      repeat (refine ⟨fun _ _ => trivial, ?_⟩; gi_wp2)
      exact ⟨Cj, Acts.drewN _ _ _, fun k h => .inl (.inl h), .inr ⟨pre, x, rfl, hJ.acts hj (Acts.drewN (fun _ => False) _ _) (fun _ _ h => h), hall, hp⟩⟩
    | true =>
      have hall' : ∀ y ∈ pre ++ [x], p y = true := fun y hy => by
        rcases List.mem_append.1 hy with h | h
        · exact hall y h
        · rw [List.mem_singleton.1 h]; exact hp
      have hpf : pre ++ [x] <+: ys := by
        obtain ⟨t, rfl⟩ := hpre
        rw [← hys, List.takeWhile_append_of_pos hall']
        exact List.prefix_append _ _
      obtain ⟨fn, tm, asg, bd, hy, hR⟩ := hY pre x _ (fun _ => False) Cj (W2.drewN m) (hJ.acts hj (Acts.drewN (fun _ => False) _ _) (fun _ _ h => h)) hpf ⟨rfl, fun _ h => h⟩ (fun _ h => h.elim) (fun _ h => h.elim) (hA.trans (Acts.drewN _ _ _) (fun _ h => .inl h)) hM
      dsimp only at hy
      gi_wp2
      refine ⟨rfl, (show RoundIn (Fence.wide.inRound l2) 0 _ l fn tm asg bd _ _ from hR).mono ?_⟩
      rintro e W4 (⟨rfl, C2, hA4, hM4, hJ4⟩ | ⟨rfl, C2, hA4, hM4, hJ4⟩) <;> obtain ⟨q1, q2, q3, q4⟩ := ad_told hCj hsz (Acts.drewN _ _ m) hA4 hM4
      · gi_wp2
        exact ⟨C2, q1, q2, q3, hJ4, (q4 _ (by omega) (by omega)).trans b3, hall'⟩
      · gi_wp2
        exact ⟨C2, q1, q2, .inl ⟨hJ4, hall'⟩⟩
  · rintro C2 W2 (⟨h1, h2, h3⟩ | ⟨pre, hp, h1, h3⟩)
    · have : ys = xs := by
        rw [← hys]
        have := List.takeWhile_append_of_pos (l₂ := []) h2.2
        simpa using this
      refine .inl ⟨by rw [this]; exact h1, ?_⟩
      rw [← hKd', this, show min (xs.length + 1) xs.length = xs.length from by omega]; exact h3
    · obtain ⟨t, rfl⟩ := hp
      rcases h1 with ⟨h1, h2⟩ | ⟨q, x, rfl, h1, h2, h4⟩
      · refine .inr ⟨pre, ?_, h1, h3⟩
        rw [← hys, List.takeWhile_append_of_pos h2]
        exact List.prefix_append _ _
      · have : ys = q := by
          rw [← hys, List.append_assoc, List.takeWhile_append_of_pos h2]
          simp [h4]
        refine .inl ⟨by rw [this]; exact h1, ?_⟩
        rw [← hKd', this]
        have e : min (q.length + 1) (q ++ [x] ++ t).length = (q ++ [x]).length := by simp
        rw [e]; exact h3

set_option maxRecDepth 100000 in
set_option maxHeartbeats 2000000 in
theorem keep_gives (Bv Bf gf : Nat) (lb : Array Value) (gp : Nat) (lp : Array Value) (p : Int → Bool) (xs : List Int) (D E Dp : Nat → Prop) (K : Nat → World → Prop) (w : World) (hBv : w.heap[Bv]? = some (.cells #[.func (.func gf) #[] lb] 30 (0, 0))) (hBf : w.heap[Bf]? = some (.cells #[.func (.func gp) #[] lp] 41 (0, 0)))
    (hne : ¬ E Bf ∧ ∀ k, Dp k → ¬ E k) (hDp : ∀ k, Dp k → k < w.heap.size) (eg : ∀ args w, (callFunc gf args).run Try.prog w = .ok (.enter gf args) w) (ep : ∀ args w, (callFunc gp args).run Try.prog w = .ok (.enter gp args) w) (hDl : ∀ k, D k ∨ E k → k < w.heap.size)
    (hK : ∀ m W W', K m W → (∀ k, E k → W'.heap[k]? = W.heap[k]?) → K m W')
    (hG : Gives Try.prog gf lb ints xs D E (K xs.length) (fun pre => K pre.length) w) (hP : Asks gp lp (fun x => .bool (p x)) Dp w) :
    Gives Try.prog 42 #[.pointer (some ⟨Bv, 0, none⟩), .pointer (some ⟨Bf, 0, none⟩)] ints (xs.filter p) (fun k => k = Bv ∨ k = Bf ∨ D k ∨ Dp k) E (K xs.length) (fun pre W => ∃ q, q <+: xs ∧ q.filter p = pre ∧ K q.length W) w := by
  intro l J Jx C W hz hD hJ hJx hdis h0 hY
  have kBv := (hD Bv (.inl (.inl rfl))).trans hBv
  have kBf := (hD Bf (.inl (.inr (.inl rfl)))).trans hBf
  have cBv := Boxed.cell (t := 30) kBv
  have lBv : Bv < W.heap.size := (Array.getElem?_eq_some_iff.1 kBv).1
  have lBf : Bf < W.heap.size := (Array.getElem?_eq_some_iff.1 kBf).1
  refine (callsIn_wide (n := 0)).1 (callsIn_of_wp_marks Try.func42 rfl trivial ?_)
  simp only [Try.ntmps42, List.size_toArray, List.length_cons, List.length_nil, Nat.reduceAdd, Nat.reduceSub, Array.replicate_succ, Array.replicate_zero, List.push_toArray, List.append_toArray, List.nil_append, List.cons_append]
  obtain ⟨f, hf⟩ : ∃ f : List Int → List Int, f = fun q => q.filter p := ⟨_, rfl⟩
  obtain ⟨ys, hys⟩ : ∃ ys, f xs = ys := ⟨_, rfl⟩
  have hys' : xs.filter p = ys := by rw [← hys, hf]
  rw [hys'] at hY ⊢
  obtain ⟨Ks', hKs'⟩ : ∃ Ks' : List Int → World → Prop, (fun pre W => ∃ q, q <+: xs ∧ q.filter p = pre ∧ K q.length W) = Ks' := ⟨_, rfl⟩
  rw [hKs']
  gi_wp2
  obtain ⟨W1, hW1⟩ : ∃ W1, W.alloc (.cells #[.func (.yield l) #[] #[]] 41) = W1 := ⟨_, rfl⟩
  have hs1 : W1.heap.size = W.heap.size + 1 := by rw [← hW1]; simp
  have hA1 : Acts (fun _ => False) W W1 := by rw [← hW1]; exact Acts.alloc _ W _
  have hB3 : Boxed W1 W.heap.size 41 (.func (.yield l) #[] #[]) := by rw [← hW1]; exact Boxed.new W 41 _
  rw [hW1]
  clear hW1
  refine ad_range (gf := gf) (lb := lb) (fn := Try.f42) (Kd' := K xs.length) (Ks' := Ks') (ys := ys) (ps := #[6]) rfl rfl rfl eg hG (fun _ => rfl) hz (fun k hk => hD k (hk.imp (fun h => .inr (.inr (.inl h))) id)) hDl (hK _) (fun pre => hK _) (hK _) (by rw [← hKs']; exact fun pre W W' ⟨q, h1, h2, h3⟩ h => ⟨q, h1, h2, hK _ _ _ h3 h⟩) hJ hJx h0 (fun k hk => hdis k (hk.imp (fun h => .inr (.inr (.inl h))) id))
    hA1 1 hs1 f (by rw [hf]; rfl) (fun pre A => Boxed A W.heap.size 41 (.func (.yield l) #[] #[]))
    (fun s A A' h hk => (hk _ (by omega) (by omega)).trans h) hB3
    (fun pre C' A => Jx (f pre) C' A)
    ⟨fun s C' A A' h hz hk => hJx.keep _ _ _ _ h hz hk, fun s C' A h => hJx.live _ _ _ h⟩
    (fun fr x => { tmps := (fr.setIfInBounds 6 (.int .i64 x)).setIfInBounds 4 (.int .i64 x), defers := [] }) ?_ ?_ ?_ (fun _ _ h => h) (fun _ _ h => h)
  · intro l2 x W2
    gi_wp2
    exact ⟨trivial, by simp⟩
  · rintro l2 pre x Cj W2 hpre hj b3 hCj hsz hA hM
    simp only [List.setIfInBounds_toArray, List.set_cons_succ, List.set_cons_zero]
    replace hj : J (f pre) Cj W2 := hj
    have c3 := b3.cell
    have kf2 : Boxed W2 Bf 41 (.func (.func gp) #[] lp) := (hA.same Bf lBf (fun h => h.elim (hdis Bf (.inl (.inr (.inl rfl)))) hne.1)).trans kBf
    have cf := kf2.cell
    have hPx := hP W2 x (fun k hk => (hA.same k (by have := hDp k hk; omega) (fun h => h.elim (hdis k (.inl (.inr (.inr (.inr hk))))) (hne.2 k hk))).trans (hD k (.inl (.inr (.inr (.inr hk))))))
    gi_wp2
    refine ⟨trivial, rfl, (show CallsIn (Fence.wide.inRound l2) 0 _ _ _ _ _ from callsIn_wide.2 hPx).mono ?_⟩
    rintro e W3 ⟨rfl, m, rfl⟩
    have b3' : Boxed (W2.drewN m) W.heap.size 41 (.func (.yield l) #[] #[]) := b3
    have c3' := b3'.cell
    cases hp : p x with
    | false =>
      have hfe : f (pre ++ [x]) = f pre := by rw [hf]; simp [hp]
      gi_wp2
      repeat (refine ⟨fun _ _ => trivial, ?_⟩; gi_wp2)
      exact ⟨Cj, Acts.drewN _ _ _, fun k h => .inl (.inl h), hCj, by rw [hfe]; exact hJ.acts hj (Acts.drewN (fun _ => False) _ _) (fun _ _ h => h), b3'⟩
    | true =>
      have hfe : f (pre ++ [x]) = f pre ++ [x] := by rw [hf]; simp [hp]
      have hpf : f pre ++ [x] <+: ys := by
        obtain ⟨t, rfl⟩ := hpre
        rw [← hfe, ← hys, hf]
        simp only [List.filter_append]
        exact List.prefix_append _ _
      obtain ⟨fn, tm, asg, bd, hy, hR⟩ := hY (f pre) x _ (fun _ => False) Cj (W2.drewN m) (hJ.acts hj (Acts.drewN (fun _ => False) _ _) (fun _ _ h => h)) hpf ⟨rfl, fun _ h => h⟩ (fun _ h => h.elim) (fun _ h => h.elim) (hA.trans (Acts.drewN _ _ _) (fun _ h => .inl h)) hM
      dsimp only at hy
      gi_wp2
      refine ⟨rfl, (show RoundIn (Fence.wide.inRound l2) 0 _ l fn tm asg bd _ _ from hR).mono ?_⟩
      rintro e W4 (⟨rfl, C2, hA4, hM4, hJ4⟩ | ⟨rfl, C2, hA4, hM4, hJ4⟩) <;> obtain ⟨q1, q2, q3, q4⟩ := ad_told hCj hsz (Acts.drewN _ _ m) hA4 hM4
      · gi_wp2
        exact ⟨C2, q1, q2, q3, by rw [hfe]; exact hJ4, (q4 _ (by omega) (by omega)).trans b3⟩
      · gi_wp2
        exact ⟨C2, q1, q2, by show Jx (f (pre ++ [x])) C2 W4; rw [hfe]; exact hJ4⟩
  · rintro C2 W2 (⟨h1, h2, h3⟩ | ⟨pre, hp, h1, h3⟩)
    · exact .inl ⟨by rw [← hys]; exact h1, h3⟩
    · refine .inr ⟨f pre, ?_, h1, ?_⟩
      · obtain ⟨t, rfl⟩ := hp
        rw [← hys, hf]
        simp only [List.filter_append]
        exact List.prefix_append _ _
      · rw [← hKs']; exact ⟨pre, hp, by rw [hf], h3⟩
end Go.Proofs.Ytncnnbfejomkoaa.Rows14
