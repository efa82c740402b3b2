/- Iterators made of other ones: the range over the other one, and the end. No program is in sight. -/
import Derived.Test.YtjbieekfjlmfmaaIter
namespace Go.Proofs.Ytjbieekfjlmfmaa.Iter
open Go.RowKit
set_option linter.unusedVariables false

/-- A function's leaving over the mark of one range over a function. -/
theorem leave_mark {P : Program} {fn : Func} {tmps : Array Value} {R : Ending → World → Prop} {d : Nat} {W : World} {v : Value} (h : ∀ w, (results fn tmps).run P w = .ok v w) (hK : W.heap[d]? = some (.deferred (some []))) (hR : R (.returned v) (W.putObj d (.deferred none))) :
    LeavesInM Fence.wide 0 P fn tmps R [{ target := .collected d, args := #[] }] .returning W :=
  ⟨by simp, .inl ⟨_, _, rfl, run_takeDeferred hK, ⟨_, h _, hR⟩⟩⟩

/-- How a round's body of an iterator made of another one may be left: Cj: the listener's blocks; m blocks from B on: the iterator's own. -/
def adPost {α β : Type} (J : List β → (Nat → Prop) → World → Prop) (f : List α → List β) (X : List α → World → Prop) (Y : List α → (Nat → Prop) → World → Prop) (B m : Nat) (xs : List α) (Cj : Nat → Prop) (W : World) : Exit → Act → World → Prop
  | .normal, _, W' => ∃ C2, Acts (fun k => Cj k ∨ (B ≤ k ∧ k < B + m)) W W' ∧ More W (fun k => Cj k ∨ (B ≤ k ∧ k < B + m)) C2 ∧ (∀ k, C2 k → ¬ (B ≤ k ∧ k < B + m)) ∧ J (f xs) C2 W' ∧ X xs W'
  | .ret, _, W' => ∃ C2, Acts (fun k => Cj k ∨ (B ≤ k ∧ k < B + m)) W W' ∧ More W (fun k => Cj k ∨ (B ≤ k ∧ k < B + m)) C2 ∧ Y xs C2 W'
  | _, _, _ => False

/-- What a call of the listener leaves. -/
theorem ad_told {Cj C2 : Nat → Prop} {B m : Nat} {W2 W3 W4 : World} (hCj : ∀ k, Cj k → ¬ (B ≤ k ∧ k < B + m)) (hB : B + m ≤ W2.heap.size)
    (hA3 : Acts (fun k => Cj k ∨ (B ≤ k ∧ k < B + m)) W2 W3) (hA4 : Acts (fun k => Cj k ∨ False) W3 W4) (hM4 : More W3 (fun k => Cj k ∨ False) C2) :
    Acts (fun k => Cj k ∨ (B ≤ k ∧ k < B + m)) W2 W4 ∧ More W2 (fun k => Cj k ∨ (B ≤ k ∧ k < B + m)) C2 ∧ (∀ k, C2 k → ¬ (B ≤ k ∧ k < B + m)) ∧ (∀ k, B ≤ k → k < B + m → W4.heap[k]? = W3.heap[k]?) := by
  have hz := hA3.size
  refine ⟨hA3.trans hA4 (fun j hj => .inl (.inl (hj.elim id False.elim))), fun k hk => ?_, fun k hk => ?_, fun k h1 h2 => hA4.same k (by omega) (fun h => h.elim (fun h => hCj k h ⟨h1, h2⟩) id)⟩
  · rcases hM4 k hk with (h | h) | h
    · exact .inl (.inl h)
    · exact h.elim
    · exact .inr (by omega)
  · rcases hM4 k hk with (h | h) | h
    · exact hCj k h
    · exact h.elim
    · omega

/-- AN ITERATOR MADE OF ANOTHER ONE: its range over that, and its end. -/
theorem ad_range {α β : Type} {P : Program} {fn : Func} (hres : fn.results = #[]) {g : Operand} {ps : Array Tmp} {assign body : Code} {Q : Exit → Act → World → Prop} {a : Act} {W W1 : World} {gf : Nat} {lb : Array Value} {encs : α → Array Value} {xs : List α} {ys : List β} {D E : Nat → Prop} {Kd Kd' : World → Prop} {Ks : List α → World → Prop} {Ks' : List β → World → Prop} {w0 : World}
    (ha : a.defers = []) (hg : a.eval g = .func (.func gf) #[] lb) (eg : ∀ args w, (callFunc gf args).run P w = .ok (.enter gf args) w) (hG : Gives P gf lb (Plain encs) xs D E Kd Ks w0) (hps : ∀ x, (encs x).size = ps.size)
    (hz : w0.heap.size ≤ W.heap.size) (hD : ∀ k, D k ∨ E k → W.heap[k]? = w0.heap[k]?) (hDl : ∀ k, D k ∨ E k → k < w0.heap.size)
    (hKd : ∀ W W', Kd W → (∀ k, E k → W'.heap[k]? = W.heap[k]?) → Kd W') (hKs : ∀ pre W W', Ks pre W → (∀ k, E k → W'.heap[k]? = W.heap[k]?) → Ks pre W')
    (hKd' : ∀ W W', Kd' W → (∀ k, E k → W'.heap[k]? = W.heap[k]?) → Kd' W') (hKs' : ∀ pre W W', Ks' pre W → (∀ k, E k → W'.heap[k]? = W.heap[k]?) → Ks' pre W')
    {J Jx : List β → (Nat → Prop) → World → Prop} {C : Nat → Prop} (hJ : Frames J) (hJx : Frames Jx) (h0 : J [] C W) (hdis : ∀ k, D k ∨ E k → ¬ C k)
    (hA1 : Acts (fun _ => False) W W1) (m : Nat) (hs1 : W1.heap.size = W.heap.size + m)
    (f : List α → List β) (hf0 : f [] = []) (X : List α → World → Prop) (hX : ∀ s A A', X s A → (∀ k, W.heap.size ≤ k → k < W.heap.size + m → A'.heap[k]? = A.heap[k]?) → X s A') (hX0 : X [] W1)
    (Y : List α → (Nat → Prop) → World → Prop) (hY : Frames Y) (fr : Array Value → α → Act)
    (hassign : ∀ (l2 : Nat) (x : α) (W2 : World), assign.wpIn (Fence.wide.inRound l2) 0 P (Exit.then (fun a₁ W' => W' = W2 ∧ a₁ = fr a.tmps x) (fun _ _ _ => False)) { tmps := (ps.zip (encs x)).foldl (fun t (p, v) => t.setIfInBounds p v) a.tmps, defers := [] } W2)
    (hbody : ∀ (l2 : Nat) (pre : List α) (x : α) (Cj : Nat → Prop) (W2 : World), pre ++ [x] <+: xs → J (f pre) Cj W2 → X pre W2 → (∀ k, Cj k → ¬ (W.heap.size ≤ k ∧ k < W.heap.size + m)) → W.heap.size + m ≤ W2.heap.size → Acts (fun k => C k ∨ E k) W W2 → More W C Cj →
      body.wpIn (Fence.wide.inRound l2) 0 P (adPost J f X Y W.heap.size m (pre ++ [x]) Cj W2) (fr a.tmps x) W2)
    (hend : ∀ C2 W2, (J (f xs) C2 W2 ∧ X xs W2 ∧ Kd W2) ∨ (∃ pre, pre <+: xs ∧ Y pre C2 W2 ∧ Ks pre W2) → (J ys C2 W2 ∧ Kd' W2) ∨ (∃ pre, pre <+: ys ∧ Jx pre C2 W2 ∧ Ks' pre W2))
    (hQn : ∀ a' W', bodyPostM Fence.wide 0 P fn (Ended J Jx ys C E Kd' Ks' W) .normal a' W' → Q .normal a' W') (hQr : ∀ a' W', bodyPostM Fence.wide 0 P fn (Ended J Jx ys C E Kd' Ks' W) .ret a' W' → Q .ret a' W') :
    (Code.rangeFunc g ps assign body).wpIn Fence.wide 0 P Q a W1 := by
  have hlow : ∀ k, C k → k < W.heap.size := hJ.live _ _ _ h0
  have hAW : ∀ W2, Acts (fun k => (C k ∨ (W.heap.size ≤ k ∧ k < W.heap.size + m)) ∨ E k) W1 W2 → Acts (fun k => C k ∨ E k) W W2 := fun W2 hA => (hA1.weaken (fun _ _ h => h.elim)).trans hA (fun j hj => by
    rcases hj with (h | h) | h
    · exact .inl (.inl h)
    · exact .inr h.1
    · exact .inl (.inr h))
  have hMW : ∀ C1, More W1 (fun k => C k ∨ (W.heap.size ≤ k ∧ k < W.heap.size + m)) C1 → ∀ k, C1 k → C k ∨ W.heap.size ≤ k := fun C1 hM k h => (hM k h).elim (fun h => h.elim .inl (fun h => .inr h.1)) (fun h => .inr (by omega))
  -- between two rounds
  obtain ⟨I, hIe⟩ : ∃ I : List α → (Nat → Prop) → World → Prop, I = fun pre C' A => ∃ Cj, J (f pre) Cj A ∧ X pre A ∧ W.heap.size + m ≤ A.heap.size ∧ (∀ k, C' k ↔ Cj k ∨ (W.heap.size ≤ k ∧ k < W.heap.size + m)) ∧ (∀ k, Cj k → ¬ (W.heap.size ≤ k ∧ k < W.heap.size + m)) := ⟨_, rfl⟩
  obtain ⟨Ix, hXe⟩ : ∃ Ix : Code → List α → (Nat → Prop) → World → Prop, Ix = fun c pre C' A => c = .ret ∧ Y pre C' A := ⟨_, rfl⟩
  have hIf : Frames I := by
    rw [hIe]
    refine ⟨fun s C' A A' ⟨Cj, h1, h2, h3, h4, h5⟩ hs hk => ⟨Cj, hJ.keep _ _ _ _ h1 hs (fun k h => hk k ((h4 k).2 (.inl h))), hX _ _ _ h2 (fun k a b => hk k ((h4 k).2 (.inr ⟨a, b⟩))), by omega, h4, h5⟩, fun s C' A ⟨Cj, h1, h2, h3, h4, h5⟩ k hk => ?_⟩
    rcases (h4 k).1 hk with h | h
    · exact hJ.live _ _ _ h1 k h
    · omega
  have hXf : ∀ c, Frames (Ix c) := fun c => by
    rw [hXe]
    exact ⟨fun s C' A A' ⟨e, h⟩ hs hk => ⟨e, hY.keep _ _ _ _ h hs hk⟩, fun s C' A ⟨_, h⟩ => hY.live _ _ _ h⟩
  -- the end
  have fin : ∀ (d : Nat) (tmps : Array Value) (C2 : Nat → Prop) (W2 : World), W1.heap.size ≤ d → ¬ C2 d → Acts (fun k => (C k ∨ (W.heap.size ≤ k ∧ k < W.heap.size + m)) ∨ E k) W1 W2 → (∀ k, C2 k → C k ∨ W.heap.size ≤ k) → W2.heap[d]? = some (.deferred (some [])) →
      ((J ys C2 W2 ∧ Kd' W2) ∨ (∃ pre, pre <+: ys ∧ Jx pre C2 W2 ∧ Ks' pre W2)) → LeavesInM Fence.wide 0 P fn tmps (Ended J Jx ys C E Kd' Ks' W) [{ target := .collected d, args := #[] }] .returning W2 := by
    intro d tmps C2 W2 hd hn hA hM hK he
    have hp : Acts (fun k => k = d) W2 (W2.putObj d (.deferred none)) := Acts.putObj _ _ _ rfl
    have hE : ∀ k, E k → (W2.putObj d (.deferred none)).heap[k]? = W2.heap[k]? := fun k hk => World.putObj_heap_other (by have := hDl k (.inr hk); omega)
    refine leave_mark (fun w => results_none hres _ _ _) hK ⟨⟨_, rfl⟩, C2, (hAW W2 hA).trans hp (fun j e => .inr (by omega)), hM, ?_⟩
    rcases he with ⟨h1, h2⟩ | ⟨pre, h1, h2, h3⟩
    · exact .inl ⟨hJ.acts h1 hp (fun k hk e => hn (by rw [← e]; exact hk)), hKd' _ _ h2 hE⟩
    · exact .inr ⟨pre, h1, hJx.acts h2 hp (fun k hk e => hn (by rw [← e]; exact hk)), hKs' _ _ _ h3 hE⟩
  refine (wpIn_wide (n := 0)).2 (wp_range (I := I) (Ix := Ix) hg eg hG (fun x args F W h => by rw [h.1]; exact hps x) (by omega) (fun k hk => (hA1.same k (by have := hDl k hk; omega) id).trans (hD k hk)) hDl hKd hKs hIf hXf (fun k => C k ∨ (W.heap.size ≤ k ∧ k < W.heap.size + m))
    (by rw [hIe]; exact ⟨C, by rw [hf0]; exact hJ.acts h0 hA1 (fun _ _ h => h), hX0, by omega, fun _ => Iff.rfl, fun k hk h => by have := hlow k hk; omega⟩)
    (fun k hk h => h.elim (hdis k hk) (fun h => by have := hDl k hk; omega))
    (fun pre x a₁ C' A => a₁ = fr a.tmps x ∧ I pre C' A) (fun pre x a₁ => ⟨fun s C' A A' h hs hk => ⟨h.1, hIf.keep _ _ _ _ h.2 hs hk⟩, fun s C' A h => hIf.live _ _ _ h.2⟩) ?_ ?_ ?_ ?_)
  · rintro l2 pre x args F C1 W2 _ hpre hi ⟨rfl, hF⟩ _ _ _ _
    refine wpIn_mono (hassign l2 x W2) ?_
    intro e a' W' hq
    cases e with
    | normal =>
      obtain ⟨rfl, ha'⟩ := hq
      exact ⟨C1, Acts.refl _ _, fun k h => .inl (.inl h), ha', hi⟩
    | ret => exact hq.elim
    | exit id => exact hq.elim
    | goto t => exact hq.elim
    | panic ch => exact hq.elim
    | outgrown => exact hq.elim
  · rintro l2 pre x a₁ C1 W2 _ hpre ⟨rfl, hi⟩ hA hM
    rw [hIe] at hi
    obtain ⟨Cj, h1, h2, h3, h4, h5⟩ := hi
    have e1 : ∀ k, C1 k ↔ Cj k ∨ (W.heap.size ≤ k ∧ k < W.heap.size + m) := h4
    refine wpIn_mono (hbody l2 pre x Cj W2 hpre h1 h2 h5 h3 (hAW W2 hA) (fun k hk => hMW C1 hM k ((h4 k).2 (.inl hk)))) ?_
    intro e a' W' hq
    cases e with
    | normal =>
      obtain ⟨C2, q1, q2, q3, q4, q5⟩ := hq
      have := q1.size
      refine ⟨fun k => C2 k ∨ (W.heap.size ≤ k ∧ k < W.heap.size + m), q1.weaken (fun k _ h => (h4 k).2 h), fun k h => ?_, by rw [hIe]; exact ⟨C2, q4, q5, by omega, fun _ => Iff.rfl, q3⟩⟩
      rcases h with h | h
      · exact (q2 k h).imp (fun h => (h4 k).2 h) id
      · exact .inl ((h4 k).2 (.inr h))
    | ret =>
      obtain ⟨C2, q1, q2, q3⟩ := hq
      exact ⟨C2, q1.weaken (fun k _ h => (h4 k).2 h), fun k h => (q2 k h).imp (fun h => (h4 k).2 h) id, by rw [hXe]; exact ⟨rfl, q3⟩⟩
    | exit id => exact hq.elim
    | goto t => exact hq.elim
    | panic ch => exact hq.elim
    | outgrown => exact hq.elim
  · intro d C' W2 hd hn hA hM hi hk hK
    rw [hIe] at hi
    obtain ⟨Cj, h1, h2, h3, h4, h5⟩ := hi
    refine hQn _ _ ?_
    show LeavesInM _ _ _ _ _ _ _ _ _
    rw [ha]
    exact fin d _ Cj W2 hd (fun h => hn ((h4 d).2 (.inl h))) hA (fun k hk => hMW C' hM k ((h4 k).2 (.inl hk))) hK (hend Cj W2 (.inl ⟨h1, h2, hk⟩))
  · intro d c pre C' W2 hd hn hA hM hpre hx hs hK
    rw [hXe] at hx
    obtain ⟨rfl, hy⟩ := hx
    refine (wpIn_wide (n := 0)).1 ?_
    refine wpIn_ret ?_
    refine hQr _ _ ?_
    show LeavesInM _ _ _ _ _ _ _ _ _
    rw [ha]
    exact fin d _ C' W2 hd hn hA (hMW C' hM) hK (hend C' W2 (.inr ⟨pre, hpre, hy, hs⟩))
end Go.Proofs.Ytjbieekfjlmfmaa.Iter
