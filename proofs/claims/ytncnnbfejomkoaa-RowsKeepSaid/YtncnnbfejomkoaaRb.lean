/- rows.Chunk at ints: what its closure tells. -/
import Derived.Test.YtncnnbfejomkoaaRa
import Derived.Maps.OwnIn
import Derived.Deep.Onto
namespace Go.Proofs.Ytncnnbfejomkoaa.Rows14
open Go.RowKit Go.Shelf Go.Proofs.YtncnnbfejomkoaaW.PrintWords Go.Proofs.YtncnnbfejomkoaaW.PrintLast Go.Proofs.YtncnnbfejomkoaaW.PrintMore Go.Proofs.Ytncnnbfejomkoaa.Iter
set_option linter.unusedVariables false
set_option linter.unusedSimpArgs false
attribute [local go_sem] Oper.semAt_some

/-- A function's leaving over the mark of one range over a function, with nothing handed back. -/
theorem leave_mark0 {fn : Func} {tmps : Array Value} {R : Ending → World → Prop} {d : Nat} {W : World} (h : fn.results = #[]) (hK : W.heap[d]? = some (.deferred (some []))) (hR : R (.returned (.tuple #[])) (W.putObj d (.deferred none))) :
    LeavesInM Fence.wide 0 Try.prog fn tmps R [{ target := .collected d, args := #[] }] .returning W :=
  ⟨by simp, .inl ⟨_, _, rfl, run_takeDeferred hK, ⟨_, results_none h _ _ _, hR⟩⟩⟩
theorem leave_mark1 {fn : Func} {tmps : Array Value} {R : Ending → World → Prop} {d : Nat} {W : World} {t : Tmp} (h : fn.results = #[.tmp t]) (hK : W.heap[d]? = some (.deferred (some []))) (hR : R (.returned (tmps.getD t undef)) (W.putObj d (.deferred none))) :
    LeavesInM Fence.wide 0 Try.prog fn tmps R [{ target := .collected d, args := #[] }] .returning W :=
  ⟨by simp, .inl ⟨_, _, rfl, run_takeDeferred hK, ⟨_, results_tmp h _ _ _, hR⟩⟩⟩

/-- What is kept where a row's block lies as it lay. -/
theorem owns_keep {W W' : World} {base e size n : Nat} {v : Value} {xs : List Value} (h : W.ownsRow base e size v n xs) (hk : ∀ k, v.ownBlock = some k → W'.heap[k]? = W.heap[k]?) : W'.ownsRow base e size v n xs := by
  refine ⟨h.1, h.2.imp id ?_⟩
  rintro ⟨g, cap, cur, rfl, h1, h2, h3⟩
  exact ⟨g, cap, cur, rfl, h1, (hk g rfl).trans h2, h3⟩

/-- 'l = append(l, x)' where l lies in a box and owns its row. -/
theorem pushed {W2 w1 : World} {base B : Nat} {t e : TypeId} {size k m : Nat} {v v' : Value} {xs ys : List Value} {tmp : Obj} (hv : Boxed W2 B t v) (hte : t ≠ e) (hrow : W2.ownsRow base e size v k xs) (hown' : w1.ownsRow base e size v' m ys)
    (hgrow : (W2.alloc tmp).grownBy w1 v.ownBlock) (hat : v'.ownBlock = v.ownBlock ∨ v'.ownBlock = some (W2.alloc tmp).heap.size) :
    Boxed w1 B t v ∧ Boxed (w1.setCell ⟨B, 0, none⟩ v') B t v' ∧ (w1.setCell ⟨B, 0, none⟩ v').ownsRow base e size v' m ys ∧ Acts (fun j => j = B ∨ v.ownBlock = some j) W2 (w1.setCell ⟨B, 0, none⟩ v') ∧ (∀ j, v'.ownBlock = some j → v.ownBlock = some j ∨ W2.heap.size ≤ j) := by
  have hv1 : Boxed w1 B t v := (hv.alloc tmp).kept hgrow (hv.not_row hte hrow)
  refine ⟨hv1, hv1.set v', hown'.kept (grownBy_setCell' w1 B v') (.inr (hv1.not_row hte hown').symm), ?_, ?_⟩
  · exact ((Acts.alloc _ W2 tmp).trans (Acts.grown (C := fun j => j = B ∨ v.ownBlock = some j) hgrow (fun r e => .inr e)) (fun _ h => .inl h)).trans (Acts.setCell _ _ _ _ (.inl rfl)) (fun _ h => .inl h)
  · intro j hj
    rcases hat with h | h
    · exact .inl (h ▸ hj)
    · rw [h] at hj; cases hj; right; simp

def chStep (n : Int) (s : List (List Int) × List Int) (x : Int) : List (List Int) × List Int :=
  if ((s.2.length + 1 : Nat) : Int) < n then (s.1, s.2 ++ [x]) else (s.1 ++ [s.2 ++ [x]], [])
def chRun (n : Int) (xs : List Int) : List (List Int) × List Int := xs.foldl (chStep n) ([], [])
def chunksOf (n : Int) (xs : List Int) : List (List Int) :=
  if n < 1 then [] else if (chRun n xs).2 = [] then (chRun n xs).1 else (chRun n xs).1 ++ [(chRun n xs).2]
theorem chRun_snoc (n : Int) (pre : List Int) (x : Int) : chRun n (pre ++ [x]) = chStep n (chRun n pre) x := by simp [chRun]
theorem chStep_mono (n : Int) (s : List (List Int) × List Int) (x : Int) : s.1 <+: (chStep n s x).1 := by
  unfold chStep; split
  · exact List.prefix_refl _
  · exact List.prefix_append _ _
theorem chRun_mono (n : Int) (ys : List Int) : ∀ s : List (List Int) × List Int, s.1 <+: (ys.foldl (chStep n) s).1 := by
  induction ys with
  | nil => exact fun s => List.prefix_refl _
  | cons y ys ih => exact fun s => (chStep_mono n s y).trans (ih _)
theorem chRun_prefix {n : Int} {pre xs : List Int} (h : pre <+: xs) : (chRun n pre).1 <+: (chRun n xs).1 := by
  obtain ⟨ys, rfl⟩ := h
  have := chRun_mono n ys (chRun n pre)
  simpa [chRun] using this
theorem chRun_chunks {n : Int} {xs : List Int} (hn : ¬ n < 1) : (chRun n xs).1 <+: chunksOf n xs := by
  unfold chunksOf; rw [if_neg hn]; split
  · exact List.prefix_refl _
  · exact List.prefix_append _ _
theorem chRun_len (n : Int) (xs : List Int) : (chRun n xs).2.length ≤ xs.length := by
  have : ∀ (ys : List Int) (s : List (List Int) × List Int), (ys.foldl (chStep n) s).2.length ≤ s.2.length + ys.length := by
    intro ys
    induction ys with
    | nil => intro s; simp
    | cons y ys ih =>
      intro s
      have h1 := ih (chStep n s y)
      have : (chStep n s y).2.length ≤ s.2.length + 1 := by unfold chStep; split <;> simp
      simp only [List.foldl_cons, List.length_cons]; omega
  have := this xs ([], [])
  simpa [chRun] using this

/-- A list of its own: what a round of Chunk's is handed. -/
def HandRow (x : List Int) (args : Array Value) (F : Nat → Prop) (W : World) : Prop :=
  ∃ v, args = #[v] ∧ W.ownsRow 0 3 1 v x.length (x.map (Value.int .i64)) ∧ ∀ k, F k ↔ v.ownBlock = some k

/-- What holds between Chunk's rounds. -/
def ChI (J : List (List Int) → (Nat → Prop) → World → Prop) (n : Int) (l B base : Nat) (C : Nat → Prop) (W0 : World) (pre : List Int) (C' : Nat → Prop) (W : World) : Prop :=
  ∃ (Cj : Nat → Prop) (v : Value), J (chRun n pre).1 Cj W ∧ Boxed W B 54 (.func (.yield l) #[] #[]) ∧ Boxed W (B + 1) 22 v ∧ W.ownsRow base 3 1 v (chRun n pre).2.length ((chRun n pre).2.map (Value.int .i64)) ∧
    (∀ k, C' k ↔ Cj k ∨ k = B ∨ k = B + 1 ∨ v.ownBlock = some k) ∧ (∀ k, Cj k → k ≠ B ∧ k ≠ B + 1 ∧ v.ownBlock ≠ some k)
theorem chI_frames {J : List (List Int) → (Nat → Prop) → World → Prop} (hJ : Frames J) (n : Int) (l B base : Nat) (C : Nat → Prop) (W0 : World) : Frames (ChI J n l B base C W0) :=
  ⟨fun s C' A A' ⟨Cj, v, h1, h2, h3, h4, h5, h6⟩ hz hc =>
    ⟨Cj, v, hJ.keep _ _ _ _ h1 hz (fun k hk => hc k ((h5 k).2 (.inl hk))), (hc _ ((h5 _).2 (.inr (.inl rfl)))).trans h2, (hc _ ((h5 _).2 (.inr (.inr (.inl rfl))))).trans h3, owns_keep h4 (fun k hk => hc k ((h5 k).2 (.inr (.inr (.inr hk))))), h5, h6⟩,
   fun s C' A ⟨Cj, v, h1, h2, h3, h4, h5, h6⟩ k hk => ((h5 k).1 hk).elim (hJ.live _ _ _ h1 k) (fun h => h.elim (fun e => by rw [e]; exact h2.lt) (fun h => h.elim (fun e => by rw [e]; exact h3.lt) (fun e => (h4.lt k e).2)))⟩
def ChX (Jx : List (List Int) → (Nat → Prop) → World → Prop) (n : Int) (c : Code) (pre : List Int) (C' : Nat → Prop) (W : World) : Prop :=
  c = .ret ∧ (∀ k, C' k → k < W.heap.size) ∧ ∃ Cj : Nat → Prop, Jx (chRun n pre).1 Cj W ∧ ∀ k, Cj k → C' k
theorem chX_frames {Jx : List (List Int) → (Nat → Prop) → World → Prop} (hJ : Frames Jx) (n : Int) (c : Code) : Frames (ChX Jx n c) :=
  ⟨fun s C' A A' ⟨e, hl, Cj, h1, h2⟩ hz hc => ⟨e, fun k hk => Nat.lt_of_lt_of_le (hl k hk) hz, Cj, hJ.keep _ _ _ _ h1 hz (fun k hk => hc k (h2 k hk)), h2⟩,
   fun s C' A ⟨e, hl, _⟩ => hl⟩

theorem elem3 : (Try.prog.info? 3).map (fun i => (i.zero, i.size, i.bytes)) = some (some (.int .i64 0), 1, 8) := by kernel_rfl
set_option maxRecDepth 100000 in
set_option maxHeartbeats 2000000 in
theorem chunk_gives (Bn Bv : Nat) (n : Int) (hn1 : -9223372036854775808 ≤ n) (hn2 : n ≤ 9223372036854775807) (gf : Nat) (lb : Array Value) (xs : List Int) (hlen : xs.length ≤ 1000) (D : Nat → Prop) (w : World) (hBn : w.heap[Bn]? = some (.cells #[.int .i64 n] 3 (0, 0))) (hBv : w.heap[Bv]? = some (.cells #[.func (.func gf) #[] lb] 30 (0, 0)))
    (eg : ∀ args w, (callFunc gf args).run Try.prog w = .ok (.enter gf args) w) (hDl : ∀ k, D k → k < w.heap.size)
    (hG : Gives Try.prog gf lb (Plain fun x : Int => #[.int .i64 x]) xs D (fun _ => False) (fun _ => True) (fun _ _ => True) w) :
    Gives Try.prog 33 #[.pointer (some ⟨Bn, 0, none⟩), .pointer (some ⟨Bv, 0, none⟩)] HandRow (chunksOf n xs) (fun k => k = Bn ∨ k = Bv ∨ D k) (fun _ => False) (fun _ => True) (fun _ _ => True) w := by
  intro l J Jx C W hz hD hJ hJx hdis h0 hY
  obtain ⟨i0, hi, hz0, hz1, hz2⟩ := info_parts elem3
  have kBn := (hD Bn (.inl (.inl rfl))).trans hBn
  have kBv := (hD Bv (.inl (.inr (.inl rfl)))).trans hBv
  have cBn : W.cell? ⟨Bn, 0, none⟩ = some (.int .i64 n) := (blk_cell kBn 0).trans rfl
  have cBv : W.cell? ⟨Bv, 0, none⟩ = some (.func (.func gf) #[] lb) := (blk_cell kBv 0).trans rfl
  have lBn : Bn < W.heap.size := (Array.getElem?_eq_some_iff.1 kBn).1
  have lBv : Bv < W.heap.size := (Array.getElem?_eq_some_iff.1 kBv).1
  refine (callsIn_wide (n := 0)).1 (callsIn_of_wp_marks Try.func33 rfl trivial ?_)
  simp only [Try.ntmps33, List.size_toArray, List.length_cons, List.length_nil, Nat.reduceAdd, Nat.reduceSub, Array.replicate_succ, Array.replicate_zero, List.push_toArray, List.append_toArray, List.nil_append, List.cons_append]
  by_cases hn : n < 1
  · gi_wp2
    refine ⟨_, results_none rfl _ _ _, ⟨_, rfl⟩, C, Acts.alloc _ _ _, More.refl _ _, .inl ⟨?_, trivial⟩⟩
    rw [show chunksOf n xs = [] from by simp [chunksOf, hn]]
    exact hJ.acts h0 (Acts.alloc (fun _ => False) _ _) (fun _ _ h => h)
  · gi_wp2
    obtain ⟨W1, hW1⟩ : ∃ W1, (W.alloc (.cells #[.func (.yield l) #[] #[]] 54)).alloc (.cells #[.slice none 0 0] 22) = W1 := ⟨_, rfl⟩
    have hs1 : W1.heap.size = W.heap.size + 2 := by rw [← hW1]; simp
    have hA1 : ∀ F, Acts F W W1 := fun F => by rw [← hW1]; exact (Acts.alloc F W _).trans (Acts.alloc F _ _) (fun _ h => .inl h)
    have hB3 : Boxed W1 W.heap.size 54 (.func (.yield l) #[] #[]) := by rw [← hW1]; exact (Boxed.new W 54 _).alloc _
    have hB4 : Boxed W1 (W.heap.size + 1) 22 (.slice none 0 0) := by rw [← hW1]; have := Boxed.new (W.alloc (.cells #[.func (.yield l) #[] #[]] 54)) 22 (.slice none 0 0); rwa [World.size_alloc] at this
    rw [hW1]
    have hI0 : ChI J n l W.heap.size W.heap.size C W [] (fun k => C k ∨ k = W.heap.size ∨ k = W.heap.size + 1) W1 :=
      ⟨C, .slice none 0 0, hJ.acts h0 (hA1 (fun _ => False)) (fun _ _ h => h), hB3, hB4, World.ownsRow_nil _ _ _ _, fun k => by simp [Value.ownBlock], fun k hk => ⟨by have := hJ.live _ _ _ h0 k hk; omega, by have := hJ.live _ _ _ h0 k hk; omega, by simp [Value.ownBlock]⟩⟩
    clear hW1
    have hAW : ∀ W2, Acts (fun k => (C k ∨ k = W.heap.size ∨ k = W.heap.size + 1) ∨ False) W1 W2 → Acts (fun k => C k ∨ False) W W2 := fun W2 hA => (hA1 _).trans hA (fun j hj => by
      rcases hj with (h | h | h) | h
      · exact .inl (.inl h)
      · exact .inr (by omega)
      · exact .inr (by omega)
      · exact h.elim)
    have hMW : ∀ C1, More W1 (fun k => C k ∨ k = W.heap.size ∨ k = W.heap.size + 1) C1 → ∀ k, C1 k → C k ∨ W.heap.size ≤ k := fun C1 hM k h => (hM k h).elim (fun h => h.elim .inl (fun h => .inr (by omega))) (fun h => .inr (by omega))
    refine (wpIn_wide (n := 0)).2 (wp_range (gf := gf) (lb := lb) rfl eg hG (fun x args F W h => by rw [h.1]; rfl) (by omega) (fun k hk => hk.elim (fun hk => ((hA1 (fun _ => False)).same k (by have := hDl k hk; omega) (fun h => h)).trans (hD k (.inl (.inr (.inr hk))))) False.elim) (fun k hk => hk.elim (hDl k) False.elim) (fun _ _ h _ => h) (fun _ _ _ h _ => h)
      (ChI J n l W.heap.size W.heap.size C W) (ChX Jx n) (chI_frames hJ n l _ _ C W) (chX_frames hJx n) (fun k => C k ∨ k = W.heap.size ∨ k = W.heap.size + 1) hI0
      (fun k hk h => hk.elim (fun hk => h.elim (hdis k (.inl (.inr (.inr hk)))) (fun h => by have := hDl k hk; omega)) False.elim)
      (fun pre x a₁ C' W' => a₁ = { tmps := #[.func (.yield l) #[] #[], .pointer (some ⟨Bn, 0, none⟩), .pointer (some ⟨Bv, 0, none⟩), .pointer (some ⟨W.heap.size, 0, none⟩), .pointer (some ⟨W.heap.size + 1, 0, none⟩), .int .i64 x, .int .i64 n, .bool false, .func (.func gf) #[] lb, .int .i64 x, undef, undef, undef, undef, undef, undef, undef, undef, undef, undef, undef, undef, undef, undef, undef, undef, undef, undef], defers := [] } ∧ ChI J n l W.heap.size W.heap.size C W pre C' W') (fun pre x a₁ => ⟨fun s C' A B h hz hk => ⟨h.1, (chI_frames hJ n l _ _ C W).keep _ _ _ _ h.2 hz hk⟩, fun s C' A h => (chI_frames hJ n l _ _ C W).live _ _ _ h.2⟩) ?_ ?_ ?_ ?_)
    · intro l2 pre x args F C1 W2 hs2 hpre hI hH hFC hFn hA hM
      obtain ⟨rfl, hF⟩ := hH
      gi_wp2
      exact ⟨C1, Acts.refl _ _, fun k h => .inl (.inl h), trivial, hI⟩
    · rintro l2 pre x a₁ C1 W2 hs2 hpre ⟨rfl, Cj, v, hj, h3, h4, hrow, hC, hCj⟩ hA hM
      have c3 := h3.cell
      have c4 := h4.cell
      have f4 := h4.frozen
      have hx1 : pre.length + 1 ≤ xs.length := by have := hpre.length_le; simpa using this
      have hcl := chRun_len n pre
      have lw1 : W1.heap.size ≤ W2.heap.size := hs2
      have low : ∀ k, k < W.heap.size → ¬ C k → W2.heap[k]? = W.heap[k]? := fun k hk hn => (hA.same k (by omega) (fun h => h.elim (fun h => h.elim hn (by omega)) False.elim)).trans ((hA1 (fun _ => False)).same k hk (fun h => h))
      have lowC : ∀ k, k < W.heap.size → ¬ C k → ¬ C1 k := fun k hk hn h => (hM k h).elim (fun h => h.elim hn (by omega)) (by omega)
      have nBn := hdis Bn (.inl (.inl rfl))
      have kBn2 := (low Bn lBn nBn).trans kBn
      have hApp : ∀ (v' : Value) (w1 : World), w1.ownsRow W.heap.size 3 1 v' ((chRun n pre).2.length + 1) (((chRun n pre).2.map (Value.int .i64)) ++ [.int .i64 x]) → (W2.alloc (.cells #[.int .i64 x] 3)).grownBy w1 v.ownBlock → (v'.ownBlock = v.ownBlock ∨ v'.ownBlock = some (W2.alloc (.cells #[.int .i64 x] 3)).heap.size) →
          Boxed w1 (W.heap.size + 1) 22 v ∧ Boxed (w1.setCell ⟨W.heap.size + 1, 0, none⟩ v') (W.heap.size + 1) 22 v' ∧ (w1.setCell ⟨W.heap.size + 1, 0, none⟩ v').ownsRow W.heap.size 3 1 v' ((chRun n pre).2 ++ [x]).length (((chRun n pre).2 ++ [x]).map (Value.int .i64)) ∧
          Acts C1 W2 (w1.setCell ⟨W.heap.size + 1, 0, none⟩ v') ∧ Boxed (w1.setCell ⟨W.heap.size + 1, 0, none⟩ v') W.heap.size 54 (.func (.yield l) #[] #[]) ∧ J (chRun n pre).1 Cj (w1.setCell ⟨W.heap.size + 1, 0, none⟩ v') ∧
          (w1.setCell ⟨W.heap.size + 1, 0, none⟩ v').heap[Bn]? = some (.cells #[.int .i64 n] 3 (0, 0)) ∧ (∀ j, v'.ownBlock = some j → ¬ Cj j ∧ j ≠ W.heap.size ∧ j ≠ W.heap.size + 1 ∧ (C1 j ∨ W2.heap.size ≤ j) ∧ W.heap.size ≤ j) := by
        intro v' w1 hown hgrow hat
        obtain ⟨g1, g2, g3, g4, g5⟩ := pushed h4 (by decide) hrow hown hgrow hat
        have nv : ∀ j, v.ownBlock = some j → j ≠ Bn := fun j hj => by have := (hrow.lt j hj).1; omega
        refine ⟨g1, g2, by simpa using g3, g4.weaken (fun j _ hj => hj.elim (fun e => (hC j).2 (.inr (.inr (.inl e)))) (fun e => (hC j).2 (.inr (.inr (.inr e))))), (g4.same _ h3.lt (fun h => h.elim (by omega) (fun h => h3.not_row (by decide) hrow h.symm))).trans h3,
          hJ.acts hj g4 (fun k hk h => h.elim (hCj k hk).2.1 (hCj k hk).2.2), (g4.same _ (by have := (Array.getElem?_eq_some_iff.1 kBn2).1; exact this) (fun h => h.elim (by omega) (fun h => nv _ h rfl))).trans kBn2, fun j hj' => ?_⟩
        have l3 := h3.lt
        have l4 := h4.lt
        rcases g5 j hj' with h | h
        · exact ⟨fun hc => (hCj j hc).2.2 h, fun e => h3.not_row (by decide) hrow (by rw [h, e]), fun e => h4.not_row (by decide) hrow (by rw [h, e]), .inl ((hC j).2 (.inr (.inr (.inr h)))), (hrow.lt j h).1⟩
        · exact ⟨fun hc => by have := hJ.live _ _ _ hj j hc; omega, by omega, by omega, .inr h, by omega⟩
      have hAW := hAW _ hA
      have hMW := hMW _ hM
      by_cases hlt : (((chRun n pre).2.length : Int) + 1) < n
      · have hst : chRun n (pre ++ [x]) = ((chRun n pre).1, (chRun n pre).2 ++ [x]) := by rw [chRun_snoc]; unfold chStep; rw [if_pos (by omega)]
        gi_wp2_with (gi_at_builtin; refine wpListIn_append_own_at _ rfl _ _ 22 rfl W.heap.size 3 i0 (.int .i64 0) 1 8 Try.underlying22 hi hz0 hz1 hz2 rfl (by decide) v (chRun n pre).2.length _ rfl (hrow.alloc _) ⟨W2.heap.size, 0, none⟩ 1 1 [.int .i64 x] rfl rfl (cell_one_new _ _ _) (by simp [Value.oneCell']) (by simp [maxLen]; omega) (by omega) (by simp; omega) ?_; intro v' w1 hown hgrow hnil hat; obtain ⟨g, cap, rfl⟩ := ownsRow_succ hown; obtain ⟨hb1, hb2, hrow2, hA3, hy3, hj3, hn3, hf3⟩ := hApp _ w1 hown hgrow hat; have c4' := hb1.cell; have f4' := hb1.frozen; have cn := Boxed.cell (t := 3) hn3)
        refine ⟨fun k => Cj k ∨ k = W.heap.size ∨ k = W.heap.size + 1 ∨ Value.ownBlock (.slice (some ⟨g, 0, none⟩) ((chRun n pre).2.length + 1) cap) = some k, hA3, fun k h => ?_, ?_⟩
        · rcases h with h | h | h | h
          · exact .inl ((hC k).2 (.inl h))
          · exact .inl ((hC k).2 (.inr (.inl h)))
          · exact .inl ((hC k).2 (.inr (.inr (.inl h))))
          · exact (hf3 k h).2.2.2.1
        · unfold ChI
          rw [hst]
          exact ⟨Cj, _, hj3, hy3, hb2, hrow2, fun _ => Iff.rfl, fun k hk => ⟨(hCj k hk).1, (hCj k hk).2.1, fun e => (hf3 k e).1 hk⟩⟩
      · have hst : chRun n (pre ++ [x]) = ((chRun n pre).1 ++ [(chRun n pre).2 ++ [x]], []) := by rw [chRun_snoc]; unfold chStep; rw [if_neg (by omega)]
        have hpf : (chRun n pre).1 ++ [(chRun n pre).2 ++ [x]] <+: chunksOf n xs := by
          have := (chRun_prefix (n := n) hpre).trans (chRun_chunks (by omega)); rwa [hst] at this
        gi_wp2_with (gi_at_builtin; refine wpListIn_append_own_at _ rfl _ _ 22 rfl W.heap.size 3 i0 (.int .i64 0) 1 8 Try.underlying22 hi hz0 hz1 hz2 rfl (by decide) v (chRun n pre).2.length _ rfl (hrow.alloc _) ⟨W2.heap.size, 0, none⟩ 1 1 [.int .i64 x] rfl rfl (cell_one_new _ _ _) (by simp [Value.oneCell']) (by simp [maxLen]; omega) (by omega) (by simp; omega) ?_; intro v' w1 hown hgrow hnil hat; obtain ⟨g, cap, rfl⟩ := ownsRow_succ hown; obtain ⟨hb1, hb2, hrow2, hA3, hy3, hj3, hn3, hf3⟩ := hApp _ w1 hown hgrow hat; have c4' := hb1.cell; have f4' := hb1.frozen; have cn := Boxed.cell (t := 3) hn3; have c54 := hy3.cell; (obtain ⟨fn, tm, asg, bd, hy, hR⟩ := hY (chRun n pre).1 ((chRun n pre).2 ++ [x]) #[.slice (some ⟨g, 0, none⟩) ((chRun n pre).2.length + 1) cap] (fun k => Value.ownBlock (.slice (some ⟨g, 0, none⟩) ((chRun n pre).2.length + 1) cap) = some k) Cj _ hj3 hpf ⟨_, rfl, hrow2.mono (Nat.zero_le _), fun _ => Iff.rfl⟩ (fun k hk => (hf3 k hk).1) (fun k hk => (hf3 k hk).2.2.2.2) (hAW.trans hA3 (fun j hj => (hMW j hj).elim (fun h => .inl (.inl h)) .inr)) (fun k hk => hMW k ((hC k).2 (.inl hk)))); try dsimp only at hy)
        have l3 := h3.lt
        have l4 := h4.lt
        refine ⟨rfl, (show RoundIn (Fence.wide.inRound l2) 0 _ l fn tm asg bd _ _ from hR).mono ?_⟩
        have r24 : ∀ (C2 : Nat → Prop) (W4 : World), Acts (fun k => Cj k ∨ Value.ownBlock (.slice (some ⟨g, 0, none⟩) ((chRun n pre).2.length + 1) cap) = some k) (w1.setCell ⟨W.heap.size + 1, 0, none⟩ (.slice (some ⟨g, 0, none⟩) ((chRun n pre).2.length + 1) cap)) W4 →
            More (w1.setCell ⟨W.heap.size + 1, 0, none⟩ (.slice (some ⟨g, 0, none⟩) ((chRun n pre).2.length + 1) cap)) (fun k => Cj k ∨ Value.ownBlock (.slice (some ⟨g, 0, none⟩) ((chRun n pre).2.length + 1) cap) = some k) C2 →
            Acts C1 W2 W4 ∧ More W2 C1 C2 ∧ ∀ k, C2 k → k ≠ W.heap.size ∧ k ≠ W.heap.size + 1 := fun C2 W4 hA4 hM4 => by
          have l5 := hA3.size
          refine ⟨hA3.trans hA4 (fun j hj => hj.elim (fun h => .inl ((hC j).2 (.inl h))) (fun h => (hf3 j h).2.2.2.1)), fun k h => ?_, fun k h => ?_⟩
          · rcases hM4 k h with (h | h) | h
            · exact .inl ((hC k).2 (.inl h))
            · exact (hf3 k h).2.2.2.1
            · exact .inr (by omega)
          · rcases hM4 k h with (h | h) | h
            · exact ⟨(hCj k h).1, (hCj k h).2.1⟩
            · exact ⟨(hf3 k h).2.1, (hf3 k h).2.2.1⟩
            · exact ⟨by omega, by omega⟩
        rintro e W4 (⟨rfl, C2, hA4, hM4, hJ4⟩ | ⟨rfl, C2, hA4, hM4, hJ4⟩) <;> obtain ⟨hA24, hC2, nC2⟩ := r24 C2 W4 hA4 hM4
        · have b3 : Boxed W4 W.heap.size 54 (.func (.yield l) #[] #[]) := (hA4.same _ hy3.lt (fun h => h.elim (fun h => (hCj _ h).1 rfl) (fun h => (hf3 _ h).2.1 rfl))).trans hy3
          have b4 : Boxed W4 (W.heap.size + 1) 22 (.slice (some ⟨g, 0, none⟩) ((chRun n pre).2.length + 1) cap) := (hA4.same _ hb2.lt (fun h => h.elim (fun h => (hCj _ h).2.1 rfl) (fun h => (hf3 _ h).2.2.1 rfl))).trans hb2
          have cb4 := b4.cell
          have fb4 := b4.frozen
          gi_wp2
          refine ⟨fun k => C2 k ∨ k = W.heap.size ∨ k = W.heap.size + 1, hA24.trans (Acts.setCell (C := C1) _ _ _ _ ((hC _).2 (.inr (.inr (.inl rfl))))) (fun _ h => .inl h), fun k h => ?_, ?_⟩
          · rcases h with h | h | h
            · exact hC2 k h
            · exact .inl ((hC k).2 (.inr (.inl h)))
            · exact .inl ((hC k).2 (.inr (.inr (.inl h))))
          · unfold ChI
            rw [hst]
            exact ⟨C2, .slice none 0 0, hJ.acts hJ4 (Acts.setCell (C := fun k => k = W.heap.size + 1) _ _ _ _ rfl) (fun k hk e => (nC2 k hk).2 e), b3.other (by omega) _, b4.set _, World.ownsRow_nil _ _ _ _, fun k => by simp [Value.ownBlock], fun k hk => ⟨(nC2 k hk).1, (nC2 k hk).2, by simp [Value.ownBlock]⟩⟩
        · gi_wp2
          refine ⟨C2, hA24, hC2, rfl, hJx.live _ _ _ hJ4, C2, ?_, fun _ h => h⟩
          rw [hst]; exact hJ4
    · rintro d C' W2 hd hdC hA hM ⟨Cj, v, hj, h3, h4, hrow, hC, hCj⟩ _ hK
      have c3 := h3.cell
      have c4 := h4.cell
      by_cases h0r : (chRun n xs).2 = []
      · obtain ⟨Av, cv, rfl⟩ : ∃ A c, v = .slice A 0 c := by
          rcases hrow.2 with ⟨rfl, _⟩ | ⟨g, cap, cur, rfl, _⟩
          · exact ⟨_, _, rfl⟩
          · exact ⟨_, _, by rw [h0r]; rfl⟩
        gi_wp2
        refine leave_mark0 rfl hK ?_
        refine ⟨⟨_, rfl⟩, Cj, (hAW W2 hA).trans (Acts.putObj _ _ _ rfl) (fun j e => .inr (by omega)), fun k hk => (hMW C' hM k ((hC k).2 (.inl hk))), .inl ⟨?_, trivial⟩⟩
        rw [show chunksOf n xs = (chRun n xs).1 from by unfold chunksOf; rw [if_neg (by omega), if_pos h0r]]
        exact hJ.acts hj (Acts.putObj (C := fun k => k = d) _ _ _ rfl) (fun k hk e => hdC (by rw [← e]; exact (hC k).2 (.inl hk)))
      · have hpos : 0 < (chRun n xs).2.length := List.length_pos_iff.2 h0r
        have hcs : chunksOf n xs = (chRun n xs).1 ++ [(chRun n xs).2] := by unfold chunksOf; rw [if_neg (by omega), if_neg h0r]
        obtain ⟨g, cv, rfl⟩ : ∃ g c, v = .slice (some ⟨g, 0, none⟩) (chRun n xs).2.length c := by
          rcases hrow.2 with ⟨rfl, h⟩ | ⟨g, cap, cur, rfl, _⟩
          · omega
          · exact ⟨_, _, rfl⟩
        have hF : ∀ k, Value.ownBlock (.slice (some ⟨g, 0, none⟩) (chRun n xs).2.length cv) = some k → ¬ Cj k := fun k e hk => (hCj k hk).2.2 e
        obtain ⟨fn, tm, asg, bd, hy, hR⟩ := hY (chRun n xs).1 (chRun n xs).2 #[.slice (some ⟨g, 0, none⟩) (chRun n xs).2.length cv] (fun k => Value.ownBlock (.slice (some ⟨g, 0, none⟩) (chRun n xs).2.length cv) = some k) Cj _ hj (by rw [hcs]; exact List.prefix_refl _) ⟨_, rfl, hrow.mono (Nat.zero_le _), fun _ => Iff.rfl⟩ hF (fun k hk => (hrow.lt k hk).1) (hAW W2 hA) (fun k hk => hMW C' hM k ((hC k).2 (.inl hk)))
        gi_wp2
        refine ⟨rfl, hR.mono ?_⟩
        have fin : ∀ (C2 : Nat → Prop) (W4 : World), Acts (fun k => Cj k ∨ Value.ownBlock (.slice (some ⟨g, 0, none⟩) (chRun n xs).2.length cv) = some k) W2 W4 → More W2 (fun k => Cj k ∨ Value.ownBlock (.slice (some ⟨g, 0, none⟩) (chRun n xs).2.length cv) = some k) C2 →
            Acts (fun k => C k ∨ False) W (W4.putObj d (.deferred none)) ∧ More W C C2 ∧ W4.heap[d]? = some (.deferred (some [])) ∧ ¬ C2 d := fun C2 W4 hA4 hM4 => by
          have hd2 : d < W2.heap.size := (Array.getElem?_eq_some_iff.1 hK).1
          have hlow : ∀ j, (Cj j ∨ Value.ownBlock (.slice (some ⟨g, 0, none⟩) (chRun n xs).2.length cv) = some j) → C j ∨ W.heap.size ≤ j := fun j hj => hMW C' hM j (hj.elim (fun h => (hC j).2 (.inl h)) (fun h => (hC j).2 (.inr (.inr (.inr h)))))
          have hnd : ¬ (Cj d ∨ Value.ownBlock (.slice (some ⟨g, 0, none⟩) (chRun n xs).2.length cv) = some d) := fun h => hdC (h.elim (fun h => (hC d).2 (.inl h)) (fun h => (hC d).2 (.inr (.inr (.inr h)))))
          have hlW := (hAW W2 hA).size
          refine ⟨((hAW W2 hA).trans hA4 (fun j hj => (hlow j hj).imp .inl id)).trans (Acts.putObj (C := fun k => k = d) _ _ _ rfl) (fun j e => .inr (by omega)), fun k hk => (hM4 k hk).elim (hlow k) (fun h => .inr (by omega)), (hA4.same d hd2 hnd).trans hK, fun h => (hM4 d h).elim hnd (by omega)⟩
        rintro e W4 (⟨rfl, C2, hA4, hM4, hJ4⟩ | ⟨rfl, C2, hA4, hM4, hJ4⟩) <;> obtain ⟨hAe, hMe, hKe, nd⟩ := fin C2 W4 hA4 hM4
        · gi_wp2
          refine leave_mark0 rfl hKe ?_
          refine ⟨⟨_, rfl⟩, C2, hAe, hMe, .inl ⟨?_, trivial⟩⟩
          rw [hcs]
          exact hJ.acts hJ4 (Acts.putObj (C := fun k => k = d) _ _ _ rfl) (fun k hk e => nd (by rw [← e]; exact hk))
        · gi_wp2
          refine leave_mark0 rfl hKe ?_
          refine ⟨⟨_, rfl⟩, C2, hAe, hMe, .inr ⟨_, ?_, hJx.acts hJ4 (Acts.putObj (C := fun k => k = d) _ _ _ rfl) (fun k hk e => nd (by rw [← e]; exact hk)), trivial⟩⟩
          rw [hcs]; exact List.prefix_refl _
    · rintro d c pre C' W2 hd hdC hA hM hpre ⟨rfl, hl, Cj, hj, hC⟩ _ hK
      refine (wpIn_wide (n := 0)).1 ?_
      gi_wp2
      refine leave_mark0 rfl hK ?_
      exact ⟨⟨_, rfl⟩, Cj, (hAW W2 hA).trans (Acts.putObj _ _ _ rfl) (fun j e => .inr (by omega)), fun k hk => hMW C' hM k (hC k hk), .inr ⟨_, (chRun_prefix hpre).trans (chRun_chunks (by omega)), hJx.acts hj (Acts.putObj (C := fun k => k = d) _ _ _ rfl) (fun k hk e => hdC (by rw [← e]; exact hC k hk)), trivial⟩⟩
end Go.Proofs.Ytncnnbfejomkoaa.Rows14
