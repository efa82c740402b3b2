/- A range over a function, where the iterator keeps cells of its own: footprints for either side. No program is in sight. -/
import Derived.RangeFuncNested
import Derived.RangeFuncBound
import Derived.RangeFuncCalls
import Derived.RangeFuncLeaves
import Derived.Below
import Derived.Deep.Draws
namespace Go.Proofs.YtmignbhpofmgeaaDoor.Iter
open Go.RowKit

/-- From W to W' nothing has turned but the blocks of C, and new ones. -/
structure Acts (C : Nat → Prop) (W W' : World) : Prop where
  os : W'.os = W.os
  tape : W'.tape = W.tape
  output : W'.output = W.output
  size : W.heap.size ≤ W'.heap.size
  same : ∀ k, k < W.heap.size → ¬ C k → W'.heap[k]? = W.heap[k]?
theorem Acts.refl (C : Nat → Prop) (W : World) : Acts C W W := ⟨rfl, rfl, rfl, Nat.le_refl _, fun _ _ _ => rfl⟩
theorem Acts.weaken {C C' : Nat → Prop} {W W' : World} (h : Acts C W W') (hc : ∀ k, k < W.heap.size → C k → C' k) : Acts C' W W' :=
  ⟨h.os, h.tape, h.output, h.size, fun k hk hn => h.same k hk (fun hC => hn (hc k hk hC))⟩
/-- Two stretches: what the second one turns lay in C, or is newer than the first one's begin. -/
theorem Acts.trans {C C' : Nat → Prop} {A B D : World} (h : Acts C A B) (k : Acts C' B D) (hc : ∀ j, C' j → C j ∨ A.heap.size ≤ j) : Acts C A D :=
  ⟨k.os.trans h.os, k.tape.trans h.tape, k.output.trans h.output, Nat.le_trans h.size k.size, fun j hj hn =>
    (k.same j (Nat.lt_of_lt_of_le hj h.size) (fun hC => (hc j hC).elim hn (fun hle => by omega))).trans (h.same j hj hn)⟩
theorem Acts.of_below {C : Nat → Prop} {W W' : World} (h : Below W.heap.size W W') : Acts C W W' := ⟨h.os, h.tape, h.output, h.size, fun k hk _ => h.block k hk⟩
theorem Acts.below {C : Nat → Prop} {n : Nat} {W W' : World} (h : Acts C W W') (hn : n ≤ W.heap.size) (hc : ∀ k, k < n → ¬ C k) : Below n W W' := ⟨h.os, h.tape, h.output, h.size, fun k hk => h.same k (by omega) (hc k hk)⟩
theorem Acts.alloc (C : Nat → Prop) (W : World) (o : Obj) : Acts C W (W.alloc o) := Acts.of_below ((Below.refl _ W).alloc (Nat.le_refl _) o)
theorem Acts.putObj {C : Nat → Prop} (W : World) (l : Nat) (o : Obj) (hl : C l) : Acts C W (W.putObj l o) :=
  ⟨rfl, rfl, rfl, by simp, fun k _ hn => World.putObj_heap_other (fun e => hn (by rw [e]; exact hl))⟩
theorem Acts.setCell {C : Nat → Prop} (W : World) (g i : Nat) (v : Value) (hg : C g) : Acts C W (W.setCell ⟨g, i, none⟩ v) :=
  ⟨rfl, rfl, rfl, by simp [World.setCell], fun k _ hn => Below.heap_setCell W _ v k (fun e => hn (by rw [e]; exact hg))⟩
theorem Acts.drew (C : Nat → Prop) (W : World) : Acts C W W.drew := ⟨rfl, rfl, rfl, Nat.le_refl _, fun _ _ _ => rfl⟩
theorem Acts.drewN (C : Nat → Prop) (W : World) (n : Nat) : Acts C W (W.drewN n) := ⟨rfl, rfl, rfl, Nat.le_refl _, fun _ _ _ => rfl⟩
theorem Acts.grown {C : Nat → Prop} {W W' : World} {row : Option Nat} (hg : W.grownBy W' row) (hr : ∀ r, row = some r → C r) : Acts C W W' :=
  ⟨hg.os, hg.tape, hg.output, hg.size, fun k hk hn => hg.block k hk (fun e => hn (hr k e.symm))⟩

/-- C' is C but for what is new since W. -/
def More (W : World) (C C' : Nat → Prop) : Prop := ∀ k, C' k → C k ∨ W.heap.size ≤ k
theorem More.refl (W : World) (C : Nat → Prop) : More W C C := fun _ h => .inl h
theorem More.trans {A B : World} {C C' C'' : Nat → Prop} (h : More A C C') (k : More B C' C'') (hs : A.heap.size ≤ B.heap.size) : More A C C'' :=
  fun j hj => (k j hj).elim (h j) (fun hle => .inr (Nat.le_trans hs hle))

/-- What is said of a world leans on the blocks of C alone, and these are there. -/
structure Frames {β : Type} (J : β → (Nat → Prop) → World → Prop) : Prop where
  keep : ∀ s C W W', J s C W → W.heap.size ≤ W'.heap.size → (∀ k, C k → W'.heap[k]? = W.heap[k]?) → J s C W'
  live : ∀ s C W, J s C W → ∀ k, C k → k < W.heap.size
theorem Frames.acts {β : Type} {J : β → (Nat → Prop) → World → Prop} (h : Frames J) {s : β} {C E : Nat → Prop} {W W' : World} (hj : J s C W) (ha : Acts E W W') (hd : ∀ k, C k → ¬ E k) : J s C W' :=
  h.keep s C W W' hj ha.size (fun k hk => ha.same k (h.live s C W hj k hk) (hd k hk))
theorem frames_false {β : Type} : Frames (fun (_ : β) _ _ => False) := ⟨fun _ _ _ _ h => h.elim, fun _ _ _ h => h.elim⟩
theorem Frames.and {β : Type} {I J : β → (Nat → Prop) → World → Prop} (h : Frames I) (k : Frames J) : Frames (fun s C W => I s C W ∧ J s C W) :=
  ⟨fun s C W W' hs hz hc => ⟨h.keep s C W W' hs.1 hz hc, k.keep s C W W' hs.2 hz hc⟩, fun s C W hs => h.live s C W hs.1⟩

/-- A round's word: yes, and on; or no. -/
def Told {α : Type} (J Jx : List α → (Nat → Prop) → World → Prop) (pre : List α) (C : Nat → Prop) (W : World) (e : Ending) (W' : World) : Prop :=
  (e = .returned (.bool true) ∧ ∃ C', Acts C W W' ∧ More W C C' ∧ J pre C' W') ∨ (e = .returned (.bool false) ∧ ∃ C', Acts C W W' ∧ More W C C' ∧ Jx pre C' W')
/-- What stands behind an iterator: all was told; or a round has said no behind a part of it. -/
def Ended {α : Type} (J Jx : List α → (Nat → Prop) → World → Prop) (xs : List α) (C E : Nat → Prop) (Kd : World → Prop) (Ks : List α → World → Prop) (W : World) (e : Ending) (W' : World) : Prop :=
  (∃ v, e = .returned v) ∧ ∃ C', Acts (fun k => C k ∨ E k) W W' ∧ More W C C' ∧ ((J xs C' W' ∧ Kd W') ∨ (∃ pre, pre <+: xs ∧ Jx pre C' W' ∧ Ks pre W'))
/-- What a round is handed stands for x, as a value alone. -/
def Plain {α : Type} (encs : α → Array Value) (x : α) (args : Array Value) (F : Nat → Prop) (_ : World) : Prop := args = encs x ∧ ∀ k, ¬ F k
/-- THE CONTRACT OF AN ITERATOR VALUE (function g, what it has captured: lb) that tells xs. H: what a round is handed for x: the arguments, and the blocks that go over to the round. D: the blocks that it reads; E: those that it writes, and that lay when it was made; w: where it was made. Kd, Ks: what is said of E's blocks when all is told, or when a round said no. -/
def Gives {α : Type} (P : Program) (g : Nat) (lb : Array Value) (H : α → Array Value → (Nat → Prop) → World → Prop) (xs : List α) (D E : Nat → Prop) (Kd : World → Prop) (Ks : List α → World → Prop) (w : World) : Prop :=
  ∀ (l : Nat) (J Jx : List α → (Nat → Prop) → World → Prop) (C : Nat → Prop) (W : World), w.heap.size ≤ W.heap.size → (∀ k, D k ∨ E k → W.heap[k]? = w.heap[k]?) → Frames J → Frames Jx →
    (∀ k, D k ∨ E k → ¬ C k) → J [] C W →
    (∀ pre x args F C1 W1, J pre C1 W1 → pre ++ [x] <+: xs → H x args F W1 → (∀ k, F k → ¬ C1 k) → (∀ k, F k → W.heap.size ≤ k) → Acts (fun k => C k ∨ E k) W W1 → More W C C1 → YieldAt Fence.wide 0 P l args W1 (Told J Jx (pre ++ [x]) (fun k => C1 k ∨ F k) W1)) →
    Calls P g (#[.func (.yield l) #[] #[]] ++ lb) W (Ended J Jx xs C E Kd Ks W)
theorem Gives.mono {α : Type} {P : Program} {g : Nat} {lb : Array Value} {H : α → Array Value → (Nat → Prop) → World → Prop} {xs : List α} {D E : Nat → Prop} {Kd Kd' : World → Prop} {Ks Ks' : List α → World → Prop} {w : World}
    (h : Gives P g lb H xs D E Kd Ks w) (hd : ∀ W, Kd W → Kd' W) (hs : ∀ pre W, Ks pre W → Ks' pre W) : Gives P g lb H xs D E Kd' Ks' w := fun l J Jx C W a b c d e f y =>
  (h l J Jx C W a b c d e f y).mono fun _ _ ⟨hv, C', h1, h2, h3⟩ => ⟨hv, C', h1, h2, h3.elim (fun z => .inl ⟨z.1, hd _ z.2⟩) (fun ⟨p, z1, z2, z3⟩ => .inr ⟨p, z1, z2, hs _ _ z3⟩)⟩
theorem Gives.later {α : Type} {P : Program} {g : Nat} {lb : Array Value} {H : α → Array Value → (Nat → Prop) → World → Prop} {xs : List α} {D E : Nat → Prop} {Kd : World → Prop} {Ks : List α → World → Prop} {w w' : World}
    (h : Gives P g lb H xs D E Kd Ks w) (hz : w.heap.size ≤ w'.heap.size) (hb : ∀ k, D k ∨ E k → w'.heap[k]? = w.heap[k]?) : Gives P g lb H xs D E Kd Ks w' := fun l J Jx C W a b c d e f y =>
  h l J Jx C W (Nat.le_trans hz a) (fun k hk => (b k hk).trans (hb k hk)) c d e f y

/-- How a round's body may be left. -/
def endsRound {α : Type} (I : List α → (Nat → Prop) → World → Prop) (Ix : Code → List α → (Nat → Prop) → World → Prop) (xs : List α) (C : Nat → Prop) (W : World) : Exit → Act → World → Prop
  | .normal, _, W' => ∃ C', Acts C W W' ∧ More W C C' ∧ I xs C' W'
  | .ret, _, W' => ∃ C', Acts C W W' ∧ More W C C' ∧ Ix .ret xs C' W'
  | .exit id, _, W' => ∃ C', Acts C W W' ∧ More W C C' ∧ Ix (.exit id) xs C' W'
  | .goto t, _, W' => ∃ C', Acts C W W' ∧ More W C C' ∧ Ix (.goto t) xs C' W'
  | .panic _, _, _ => False
  | .outgrown, _, _ => False

/-- THE STATEMENT 'for .. := range g { body }' over an iterator that has its contract, outside of every round. -/
theorem wp_range {α : Type} {P : Program} {g : Operand} {ps : Array Tmp} {assign body : Code} {Q : Exit → Act → World → Prop} {a : Act} {w : World} {gf : Nat} {lb : Array Value}
    (hg : a.eval g = .func (.func gf) #[] lb) (eg : ∀ args w, (callFunc gf args).run P w = .ok (.enter gf args) w)
    {H : α → Array Value → (Nat → Prop) → World → Prop} {xs : List α} {D E : Nat → Prop} {Kd : World → Prop} {Ks : List α → World → Prop} {w0 : World} (hG : Gives P gf lb H xs D E Kd Ks w0) (hps : ∀ x args F W, H x args F W → args.size = ps.size)
    (hz : w0.heap.size ≤ w.heap.size) (hD : ∀ k, D k ∨ E k → w.heap[k]? = w0.heap[k]?) (hDl : ∀ k, D k ∨ E k → k < w0.heap.size)
    (hKd : ∀ W W', Kd W → (∀ k, E k → W'.heap[k]? = W.heap[k]?) → Kd W') (hKs : ∀ pre W W', Ks pre W → (∀ k, E k → W'.heap[k]? = W.heap[k]?) → Ks pre W')
    (I : List α → (Nat → Prop) → World → Prop) (Ix : Code → List α → (Nat → Prop) → World → Prop) (hI : Frames I) (hIx : ∀ c, Frames (Ix c)) (C : Nat → Prop) (h0 : I [] C w) (hdis : ∀ k, D k ∨ E k → ¬ C k)
    (M : List α → α → Act → (Nat → Prop) → World → Prop) (hM : ∀ pre x a₁, Frames (fun (_ : Unit) => M pre x a₁))
    (hassign : ∀ (l : Nat) (pre : List α) (x : α) (args : Array Value) (F C1 : Nat → Prop) (W : World), w.heap.size ≤ W.heap.size → pre ++ [x] <+: xs → I pre C1 W → H x args F W → (∀ k, F k → ¬ C1 k) → (∀ k, F k → w.heap.size ≤ k) → Acts (fun k => C k ∨ E k) w W → More w C C1 →
      assign.wpIn (Fence.wide.inRound l) 0 P (Exit.then (fun a₁ W' => ∃ C2, Acts (fun k => C1 k ∨ F k) W W' ∧ More W (fun k => C1 k ∨ F k) C2 ∧ M pre x a₁ C2 W') (fun _ _ _ => False)) { tmps := (ps.zip args).foldl (fun t (p, v) => t.setIfInBounds p v) a.tmps, defers := [] } W)
    (hbody : ∀ (l : Nat) (pre : List α) (x : α) (a₁ : Act) (C1 : Nat → Prop) (W : World), w.heap.size ≤ W.heap.size → pre ++ [x] <+: xs → M pre x a₁ C1 W → Acts (fun k => C k ∨ E k) w W → More w C C1 →
      body.wpIn (Fence.wide.inRound l) 0 P (endsRound I Ix (pre ++ [x]) C1 W) a₁ W)
    (hdone : ∀ (d : Nat) (C' : Nat → Prop) (W : World), w.heap.size ≤ d → ¬ C' d → Acts (fun k => C k ∨ E k) w W → More w C C' → I xs C' W → Kd W → W.heap[d]? = some (.deferred (some [])) →
      Q .normal { a with defers := { target := .collected d, args := #[] } :: a.defers } W)
    (hstop : ∀ (d : Nat) (c : Code) (pre : List α) (C' : Nat → Prop) (W : World), w.heap.size ≤ d → ¬ C' d → Acts (fun k => C k ∨ E k) w W → More w C C' → pre <+: xs → Ix c pre C' W → Ks pre W → W.heap[d]? = some (.deferred (some [])) →
      c.wp P Q { a with defers := { target := .collected d, args := #[] } :: a.defers } W) :
    (Code.rangeFunc g ps assign body).wp P Q a w := by
  refine (wpIn_wide (n := 0)).1 (wpIn_rangeFunc ?_)
  intro fn hfn
  rw [show Fence.wide.round = none from rfl]
  obtain ⟨rec, hrec⟩ : ∃ rec : LoopState → Option Code → Loop, rec = fun st pe => { state := st, pending := pe, fn, tmps := a.tmps, params := ps, assign, body, defers := w.heap.size } := ⟨_, rfl⟩
  obtain ⟨W1, hW1⟩ : ∃ W1, (w.alloc (.deferred (some []))).alloc (.loop (rec .ready none)) = W1 := ⟨_, rfl⟩
  have hz1 : W1.heap.size = w.heap.size + 2 := by rw [← hW1]; simp
  have hL1 : W1.heap[w.heap.size + 1]? = some (.loop (rec .ready none)) := by
    rw [← hW1]; have := World.alloc_heap_new (w.alloc (.deferred (some []))) (.loop (rec .ready none)); rwa [World.size_alloc] at this
  have hK1 : W1.heap[w.heap.size]? = some (.deferred (some [])) := by
    rw [← hW1]; exact (Below.heap_alloc _ _ _ (by simp)).trans (World.alloc_heap_new w _)
  have hA1 : ∀ F, Acts F w W1 := fun F => by
    rw [← hW1]; exact Acts.of_below (((Below.refl _ w).alloc (Nat.le_refl _) _).alloc (by simp) _)
  have hI1 : I [] C W1 := hI.acts h0 (hA1 (fun _ => False)) (fun _ _ h => h)
  have hlive := hI.live [] C w h0
  refine ⟨w.heap.size + 1, [{ target := .collected w.heap.size, args := #[] }], W1, { target := .fn (.func gf) lb, args := #[.func (.yield (w.heap.size + 1)) #[] #[]] }, W1, gf,
    #[.func (.yield (w.heap.size + 1)) #[] #[]] ++ lb, W1, ?_, ?_, fun _ _ => trivial, ?_, fun h => by simp [Fence.wide] at h, callsIn_wide.2 ?_⟩
  · rw [← hW1, hrec]; exact run_enterLoop_outer _ _ _ _ _
  · simp only [resolve, hg]
    simp [go_sem]
  · simp [invoke, go_sem, eg]
  · -- the loop's own blocks, beside the body's
    have full : ∀ (st : LoopState) (pe : Option Code) (X : List α → (Nat → Prop) → World → Prop) (hX : Frames X), Frames (fun pre C' W => ∃ C1 : Nat → Prop, (∀ k, C' k ↔ C1 k ∨ k = w.heap.size + 1 ∨ k = w.heap.size) ∧ ¬ C1 (w.heap.size + 1) ∧ ¬ C1 w.heap.size ∧ X pre C1 W ∧
        W.heap[w.heap.size + 1]? = some (.loop (rec st pe)) ∧ W.heap[w.heap.size]? = some (.deferred (some [])) ∧ (∀ k, C1 k → C k ∨ w.heap.size ≤ k)) := fun st pe X hX =>
      ⟨fun s C' A B ⟨C1, e, n1, n2, hi, hl, hk, hc⟩ hs hq => ⟨C1, e, n1, n2, hX.keep s C1 A B hi hs (fun k hk => hq k ((e k).2 (.inl hk))), (hq _ ((e _).2 (.inr (.inl rfl)))).trans hl, (hq _ ((e _).2 (.inr (.inr rfl)))).trans hk, hc⟩,
       fun s C' A ⟨C1, e, n1, n2, hi, hl, hk, hc⟩ k hk' => ((e k).1 hk').elim (hX.live s C1 A hi k) (fun h => h.elim (fun e => by rw [e]; exact (Array.getElem?_eq_some_iff.1 hl).1) (fun e => by rw [e]; exact (Array.getElem?_eq_some_iff.1 hk).1))⟩
    have fullx : Frames (fun pre C' W => ∃ c, ∃ C1 : Nat → Prop, (∀ k, C' k ↔ C1 k ∨ k = w.heap.size + 1 ∨ k = w.heap.size) ∧ ¬ C1 (w.heap.size + 1) ∧ ¬ C1 w.heap.size ∧ Ix c pre C1 W ∧
        W.heap[w.heap.size + 1]? = some (.loop (rec .done (some c))) ∧ W.heap[w.heap.size]? = some (.deferred (some [])) ∧ (∀ k, C1 k → C k ∨ w.heap.size ≤ k)) :=
      ⟨fun s C' A B ⟨c, h⟩ hs hq => ⟨c, (full .done (some c) (Ix c) (hIx c)).keep s C' A B h hs hq⟩, fun s C' A ⟨c, h⟩ => (full .done (some c) (Ix c) (hIx c)).live s C' A h⟩
    refine (hG (w.heap.size + 1) _ _ (fun k => C k ∨ k = w.heap.size + 1 ∨ k = w.heap.size) W1 (by omega) (fun k hk => ((hA1 (fun _ => False)).same k (by have := hDl k hk; omega) (fun h => h)).trans (hD k hk)) (full .ready none I hI) fullx
      (fun k hk h => by
        have := hDl k hk
        rcases h with h | h | h
        · exact hdis k hk h
        · omega
        · omega)
      ⟨C, fun k => Iff.rfl, fun h => by have := hlive _ h; omega, fun h => by have := hlive _ h; omega, hI1, hL1, hK1, fun k h => .inl h⟩ ?_).mono ?_
    · -- one round
      rintro pre x args F C' W ⟨C1, he, n1, n2, hi, hl, hk, hcc⟩ hpre hH hFC hFn hAct hMore
      have hlt : w.heap.size + 1 < W.heap.size := (Array.getElem?_eq_some_iff.1 hl).1
      have hy := run_yield (P := P) (args := args) hl (by rw [hrec]; exact hps x args F W hH)
      have f1 : ¬ F (w.heap.size + 1) := fun h => hFC _ h ((he _).2 (.inr (.inl rfl)))
      have f2 : ¬ F w.heap.size := fun h => hFC _ h ((he _).2 (.inr (.inr rfl)))
      rw [hrec] at hy
      have hAw : Acts (fun k => C k ∨ E k) w W := (hA1 _).trans hAct (fun j hj => by
        rcases hj with (h | h | h) | h
        · exact .inl (.inl h)
        · exact .inr (by omega)
        · exact .inr (by omega)
        · exact .inl (.inr h))
      refine ⟨fn, _, assign, body, hy, roundIn_of_wpIn (F := Fence.wide) trivial (wpIn_mono (hassign (w.heap.size + 1) pre x args F C1 W (by omega) hpre hi hH (fun k hk h => hFC k hk ((he k).2 (.inl h))) (fun k hk => by have := hFn k hk; omega) hAw hcc) ?_)⟩
      clear hy
      intro e a' Wa hq
      cases e with
      | normal =>
        obtain ⟨C2, hAa, hMa, hMx⟩ := hq
        have n1' : ¬ C2 (w.heap.size + 1) := fun h => (hMa _ h).elim (fun h => h.elim n1 f1) (fun h => by omega)
        have n2' : ¬ C2 w.heap.size := fun h => (hMa _ h).elim (fun h => h.elim n2 f2) (fun h => by omega)
        have hl' := (hAa.same _ hlt (fun h => h.elim n1 f1)).trans hl
        have hk' := (hAa.same _ (by omega) (fun h => h.elim n2 f2)).trans hk
        have hsa := hAa.size
        refine ⟨_, run_beginRound hl' (by rw [hrec]), ?_⟩
        obtain ⟨W2, hW2⟩ : ∃ W2, Wa.putObj (w.heap.size + 1) (.loop { rec .ready none with state := .busy }) = W2 := ⟨_, rfl⟩
        rw [hW2]
        have hA2 : Acts (fun k => k = w.heap.size + 1) Wa W2 := by rw [← hW2]; exact Acts.putObj _ _ _ rfl
        have hl2 : W2.heap[w.heap.size + 1]? = some (.loop { rec .ready none with state := .busy }) := by rw [← hW2]; exact World.putObj_heap_same (by omega)
        have hk2 : W2.heap[w.heap.size]? = some (.deferred (some [])) := (hA2.same _ (by omega) (by omega)).trans hk'
        have hM2 : M pre x a' C2 W2 := (hM pre x a').acts (s := ()) hMx hA2 (fun k h e => n1' (by rw [← e]; exact h))
        have hs2 := hA2.size
        have hcc2 : More w C C2 := fun k h => (hMa k h).elim (fun h => h.elim (hcc k) (fun h => .inr (by have := hFn k h; omega))) (fun h => .inr (by have := hAw.size; omega))
        have hAw2 : Acts (fun k => C k ∨ E k) w W2 := (hAw.trans hAa (fun j hj => hj.elim (fun h => (hcc j h).elim (fun h => .inl (.inl h)) .inr) (fun h => .inr (by have := hFn j h; omega)))).trans hA2 (fun j e => .inr (by omega))
        refine wpIn_mono (hbody (w.heap.size + 1) pre x a' C2 W2 (by omega) hpre hM2 hAw2 hcc2) ?_
        -- the round's end
        have fin : ∀ (jump : Option Code) (C3 : Nat → Prop) (W3 : World) (X : List α → (Nat → Prop) → World → Prop), Frames X → Acts C2 W2 W3 → More W2 C2 C3 → X (pre ++ [x]) C3 W3 →
            (Instr.endRound (w.heap.size + 1) jump).run P W3 = .ok (.bool jump.isNone) (W3.putObj (w.heap.size + 1) (.loop (rec (if jump.isNone then .ready else .done) jump))) ∧
            Acts (fun k => C' k ∨ F k) W (W3.putObj (w.heap.size + 1) (.loop (rec (if jump.isNone then .ready else .done) jump))) ∧
            (∀ k, (C3 k ∨ k = w.heap.size + 1 ∨ k = w.heap.size) → (C' k ∨ F k) ∨ W.heap.size ≤ k) ∧ ¬ C3 (w.heap.size + 1) ∧ ¬ C3 w.heap.size ∧ X (pre ++ [x]) C3 (W3.putObj (w.heap.size + 1) (.loop (rec (if jump.isNone then .ready else .done) jump))) ∧
            (W3.putObj (w.heap.size + 1) (.loop (rec (if jump.isNone then .ready else .done) jump))).heap[w.heap.size + 1]? = some (.loop (rec (if jump.isNone then .ready else .done) jump)) ∧
            (W3.putObj (w.heap.size + 1) (.loop (rec (if jump.isNone then .ready else .done) jump))).heap[w.heap.size]? = some (.deferred (some [])) ∧ (∀ k, C3 k → C k ∨ w.heap.size ≤ k) := by
          intro jump C3 W3 X hX hA3 hM3 hx3
          have n13 : ¬ C3 (w.heap.size + 1) := fun h => (hM3 _ h).elim n1' (fun h => by omega)
          have n23 : ¬ C3 w.heap.size := fun h => (hM3 _ h).elim n2' (fun h => by omega)
          have hl3 := (hA3.same _ (by omega) n1').trans hl2
          have hk3 := (hA3.same _ (by omega) n2').trans hk2
          have hs3 := hA3.size
          have hend := run_endRound (P := P) jump hl3
          have hput : Acts (fun k => k = w.heap.size + 1) W3 (W3.putObj (w.heap.size + 1) (.loop (rec (if jump.isNone then .ready else .done) jump))) := Acts.putObj _ _ _ rfl
          have c13 : ∀ k, C3 k → (C1 k ∨ F k) ∨ W.heap.size ≤ k := fun k h => (hM3 k h).elim (hMa k) (fun h => .inr (by omega))
          refine ⟨by rw [hrec] at hend ⊢; exact hend, ?_, ?_, n13, n23, hX.acts hx3 hput (fun k h e => n13 (by rw [← e]; exact h)), World.putObj_heap_same (by omega), (World.putObj_heap_other (by omega)).trans hk3, fun k h => (c13 k h).elim (fun h => h.elim (hcc k) (fun h => .inr (by have := hFn k h; omega))) (fun h => .inr (by omega))⟩
          · have e1 : Acts (fun k => C' k ∨ F k) W Wa := hAa.weaken (fun k _ h => h.elim (fun h => .inl ((he k).2 (.inl h))) .inr)
            have e2 : Acts (fun k => C' k ∨ F k) W W2 := e1.trans hA2 (fun j ej => .inl (.inl ((he j).2 (.inr (.inl ej)))))
            have e3 : Acts (fun k => C' k ∨ F k) W W3 := e2.trans hA3 (fun j hj => (hMa j hj).elim (fun h => .inl (h.elim (fun h => .inl ((he j).2 (.inl h))) .inr)) .inr)
            exact e3.trans hput (fun j ej => .inl (.inl ((he j).2 (.inr (.inl ej)))))
          · intro k h
            rcases h with h | h | h
            · exact (c13 k h).elim (fun h => .inl (h.elim (fun h => .inl ((he k).2 (.inl h))) .inr)) .inr
            · exact .inl (.inl ((he k).2 (.inr (.inl h))))
            · exact .inl (.inl ((he k).2 (.inr (.inr h))))
        rintro e a3 W3 hp
        cases e with
        | normal =>
          obtain ⟨C3, hA3, hM3, hi3⟩ := hp
          obtain ⟨hr, hA, hMo, m1, m2, hx, hl4, hk4, hc4⟩ := fin none C3 W3 I hI hA3 hM3 hi3
          exact ⟨_, _, hr, .inl ⟨rfl, fun k => C3 k ∨ k = w.heap.size + 1 ∨ k = w.heap.size, hA, hMo, C3, fun k => Iff.rfl, m1, m2, hx, hl4, hk4, hc4⟩⟩
        | ret =>
          obtain ⟨C3, hA3, hM3, hi3⟩ := hp
          obtain ⟨hr, hA, hMo, m1, m2, hx, hl4, hk4, hc4⟩ := fin (some .ret) C3 W3 (Ix .ret) (hIx _) hA3 hM3 hi3
          exact ⟨_, _, hr, .inr ⟨rfl, fun k => C3 k ∨ k = w.heap.size + 1 ∨ k = w.heap.size, hA, hMo, .ret, C3, fun k => Iff.rfl, m1, m2, hx, hl4, hk4, hc4⟩⟩
        | exit id =>
          obtain ⟨C3, hA3, hM3, hi3⟩ := hp
          obtain ⟨hr, hA, hMo, m1, m2, hx, hl4, hk4, hc4⟩ := fin (some (.exit id)) C3 W3 (Ix (.exit id)) (hIx _) hA3 hM3 hi3
          exact ⟨_, _, hr, .inr ⟨rfl, fun k => C3 k ∨ k = w.heap.size + 1 ∨ k = w.heap.size, hA, hMo, .exit id, C3, fun k => Iff.rfl, m1, m2, hx, hl4, hk4, hc4⟩⟩
        | goto t =>
          obtain ⟨C3, hA3, hM3, hi3⟩ := hp
          obtain ⟨hr, hA, hMo, m1, m2, hx, hl4, hk4, hc4⟩ := fin (some (.goto t)) C3 W3 (Ix (.goto t)) (hIx _) hA3 hM3 hi3
          exact ⟨_, _, hr, .inr ⟨rfl, fun k => C3 k ∨ k = w.heap.size + 1 ∨ k = w.heap.size, hA, hMo, .goto t, C3, fun k => Iff.rfl, m1, m2, hx, hl4, hk4, hc4⟩⟩
        | panic ch => exact hp.elim
        | outgrown => exact hp.elim
      | ret => exact hq.elim
      | exit id => exact hq.elim
      | goto t => exact hq.elim
      | panic ch => exact hq.elim
      | outgrown => exact hq.elim
    · -- behind the iterator
      have last : ∀ (st : LoopState) (pe : Option Code) (hst : st ≠ .busy) (C' C1 : Nat → Prop) (W2 : World) (X : (Nat → Prop) → World → Prop), Frames (fun (_ : Unit) => X) → Acts (fun k => (C k ∨ k = w.heap.size + 1 ∨ k = w.heap.size) ∨ E k) W1 W2 → (∀ k, C' k ↔ C1 k ∨ k = w.heap.size + 1 ∨ k = w.heap.size) → ¬ C1 (w.heap.size + 1) → ¬ C1 w.heap.size → X C1 W2 →
          W2.heap[w.heap.size + 1]? = some (.loop (rec st pe)) → W2.heap[w.heap.size]? = some (.deferred (some [])) → ∃ W3, (Instr.endLoop (w.heap.size + 1)).run P W2 = .ok pe W3 ∧ Acts (fun k => C k ∨ E k) w W3 ∧ X C1 W3 ∧ (∀ k, E k → W3.heap[k]? = W2.heap[k]?) ∧ W3.heap[w.heap.size]? = some (.deferred (some [])) := by
        intro st pe hst C' C1 W2 X hX hA2 he n1 n2 hx hl hk
        have hend := run_endLoop (P := P) hl (by rw [hrec]; exact hst)
        rw [show (rec st pe).pending = pe from by rw [hrec]] at hend
        have hput : ∀ o, Acts (fun k => k = w.heap.size + 1) W2 (W2.putObj (w.heap.size + 1) o) := fun o => Acts.putObj _ _ _ rfl
        refine ⟨_, hend, ?_, hX.acts (s := ()) hx (hput _) (fun k h e => n1 (by rw [← e]; exact h)), fun k hk => World.putObj_heap_other (by have := hDl k (.inr hk); omega), (World.putObj_heap_other (by omega)).trans hk⟩
        refine ((hA1 _).trans hA2 (fun j hj => ?_)).trans (hput _) (fun j e => .inr (by omega))
        rcases hj with (h | h | h) | h
        · exact .inl (.inl h)
        · exact .inr (by omega)
        · exact .inr (by omega)
        · exact .inl (.inr h)
      rintro e W2 ⟨⟨v, rfl⟩, C', hA2, hM2, (⟨⟨C1, he, n1, n2, hi, hl, hk, hcc⟩, hd⟩ | ⟨pre, hpre, ⟨c, C1, he, n1, n2, hi, hl, hk, hcc⟩, hs⟩)⟩
      · obtain ⟨W3, hend, hA3, hx3, hE3, hk3⟩ := last .ready none (by simp) C' C1 W2 (I xs) ⟨fun _ => hI.keep xs, fun _ => hI.live xs⟩ hA2 he n1 n2 hi hl hk
        exact ⟨none, W3, hend, hdone w.heap.size C1 W3 (Nat.le_refl _) n2 hA3 hcc hx3 (hKd _ _ hd hE3) hk3⟩
      · obtain ⟨W3, hend, hA3, hx3, hE3, hk3⟩ := last .done (some c) (by simp) C' C1 W2 (Ix c pre) ⟨fun _ => (hIx c).keep pre, fun _ => (hIx c).live pre⟩ hA2 he n1 n2 hi hl hk
        exact ⟨some c, W3, hend, (wpIn_wide (n := 0)).2 (hstop w.heap.size c pre C1 W3 (Nat.le_refl _) n2 hA3 hcc hpre hx3 (hKs _ _ _ hs hE3) hk3)⟩

/-- The same, where what is said between the assignment and the body names the frame ahead of the statement. -/
theorem wp_range_at {α : Type} {P : Program} {g : Operand} {ps : Array Tmp} {assign body : Code} {Q : Exit → Act → World → Prop} {a : Act} {w : World} {gf : Nat} {lb : Array Value}
    (hg : a.eval g = .func (.func gf) #[] lb) (eg : ∀ args w, (callFunc gf args).run P w = .ok (.enter gf args) w)
    {H : α → Array Value → (Nat → Prop) → World → Prop} {xs : List α} {D E : Nat → Prop} {Kd : World → Prop} {Ks : List α → World → Prop} {w0 : World} (hG : Gives P gf lb H xs D E Kd Ks w0) (hps : ∀ x args F W, H x args F W → args.size = ps.size)
    (hz : w0.heap.size ≤ w.heap.size) (hD : ∀ k, D k ∨ E k → w.heap[k]? = w0.heap[k]?) (hDl : ∀ k, D k ∨ E k → k < w0.heap.size)
    (hKd : ∀ W W', Kd W → (∀ k, E k → W'.heap[k]? = W.heap[k]?) → Kd W') (hKs : ∀ pre W W', Ks pre W → (∀ k, E k → W'.heap[k]? = W.heap[k]?) → Ks pre W')
    (I : List α → (Nat → Prop) → World → Prop) (Ix : Code → List α → (Nat → Prop) → World → Prop) (hI : Frames I) (hIx : ∀ c, Frames (Ix c)) (C : Nat → Prop) (h0 : I [] C w) (hdis : ∀ k, D k ∨ E k → ¬ C k)
    (M : Array Value → List α → α → Act → (Nat → Prop) → World → Prop) (hM : ∀ pre x a₁, Frames (fun (_ : Unit) => M a.tmps pre x a₁))
    (hassign : ∀ (l : Nat) (pre : List α) (x : α) (args : Array Value) (F C1 : Nat → Prop) (W : World), w.heap.size ≤ W.heap.size → pre ++ [x] <+: xs → I pre C1 W → H x args F W → (∀ k, F k → ¬ C1 k) → (∀ k, F k → w.heap.size ≤ k) → Acts (fun k => C k ∨ E k) w W → More w C C1 →
      assign.wpIn (Fence.wide.inRound l) 0 P (Exit.then (fun a₁ W' => ∃ C2, Acts (fun k => C1 k ∨ F k) W W' ∧ More W (fun k => C1 k ∨ F k) C2 ∧ M a.tmps pre x a₁ C2 W') (fun _ _ _ => False)) { tmps := (ps.zip args).foldl (fun t (p, v) => t.setIfInBounds p v) a.tmps, defers := [] } W)
    (hbody : ∀ (l : Nat) (pre : List α) (x : α) (a₁ : Act) (C1 : Nat → Prop) (W : World), w.heap.size ≤ W.heap.size → pre ++ [x] <+: xs → M a.tmps pre x a₁ C1 W → Acts (fun k => C k ∨ E k) w W → More w C C1 →
      body.wpIn (Fence.wide.inRound l) 0 P (endsRound I Ix (pre ++ [x]) C1 W) a₁ W)
    (hdone : ∀ (d : Nat) (C' : Nat → Prop) (W : World), w.heap.size ≤ d → ¬ C' d → Acts (fun k => C k ∨ E k) w W → More w C C' → I xs C' W → Kd W → W.heap[d]? = some (.deferred (some [])) →
      Q .normal { a with defers := { target := .collected d, args := #[] } :: a.defers } W)
    (hstop : ∀ (d : Nat) (c : Code) (pre : List α) (C' : Nat → Prop) (W : World), w.heap.size ≤ d → ¬ C' d → Acts (fun k => C k ∨ E k) w W → More w C C' → pre <+: xs → Ix c pre C' W → Ks pre W → W.heap[d]? = some (.deferred (some [])) →
      c.wp P Q { a with defers := { target := .collected d, args := #[] } :: a.defers } W) :
    (Code.rangeFunc g ps assign body).wp P Q a w := wp_range hg eg hG hps hz hD hDl hKd hKs I Ix hI hIx C h0 hdis (M a.tmps) hM hassign hbody hdone hstop

/-- A function's contract where its body holds such statements: it leaves with marks among its deferred calls. -/
theorem calls_of_marks {P : Program} {f : FuncId} {fn : Func} {c : Code} {args : Array Value} {w : World} {R : Ending → World → Prop} (hf : P.funcs[f]? = some fn) (hb : fn.body = some c)
    (h : c.wp P (bodyPostM Fence.wide 0 P fn R) { tmps := args ++ Array.replicate (fn.ntmps - args.size) undef, defers := [] } w) : Calls P f args w R :=
  (callsIn_wide (n := 0)).1 (callsIn_of_wp_marks hf hb trivial (wpIn_wide.2 h))
end Go.Proofs.YtmignbhpofmgeaaDoor.Iter
