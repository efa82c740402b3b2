/- RowsChunk: the law's walk. -/
import Derived.Test.YtncnnbfejomkoaaRc
import Derived.Test.YtncnnbfejomkoaaPRowsChunkx1
import Derived.Deep.QuietTactic
import Derived.BigQuiet
namespace Go.Proofs.Ytncnnbfejomkoaa.Rows14
open Go.RowKit Go.Shelf Go.Proofs.YtncnnbfejomkoaaW.PrintWords Go.Proofs.YtncnnbfejomkoaaW.PrintLast Go.Proofs.YtncnnbfejomkoaaW.PrintMore Go.Proofs.Ytncnnbfejomkoaa.Iter
set_option linter.unusedVariables false
set_option linter.unusedSimpArgs false
attribute [local go_sem] Oper.semAt_some

def inc (x : Int) : Int := wrap64 (x + 1)
theorem own_ne {W : World} {b b' e e' s s' n m : Nat} {v u : Value} {xs ys : List Value} (h : W.ownsRow b e s v n xs) (h' : W.ownsRow b' e' s' u m ys) (he : e ≠ e') (k : Nat) (hv : v.ownBlock = some k) (hu : u.ownBlock = some k) : False := by
  obtain ⟨c1, h1⟩ := own_typed h k hv
  obtain ⟨c2, h2⟩ := own_typed h' k hu
  rw [h1] at h2; cases h2; exact he rfl
/-- A row, of which the first k things have been turned. -/
def part {α : Type} (f : α → α) (x : List α) (k : Nat) : List α := (x.take k).map f ++ x.drop k
section
variable {α : Type}
theorem part_len (f : α → α) (x : List α) (k : Nat) : (part f x k).length = x.length := by simp [part]; omega
theorem part_at (f : α → α) {x : List α} {k : Nat} (h : k < x.length) : (part f x k)[k]? = some x[k] := by
  unfold part
  rw [List.getElem?_append_right (by simp; omega)]
  simp [show min k x.length = k from by omega]
theorem part_set (f : α → α) {x : List α} {k : Nat} (h : k < x.length) : (part f x k).set k (f x[k]) = part f x (k + 1) := by
  unfold part
  rw [List.set_append_right _ _ (by simp; omega), List.take_succ_eq_append_getElem h, List.drop_eq_getElem_cons h]
  simp only [List.map_append, List.map_cons, List.map_nil, List.append_assoc, List.cons_append, List.nil_append, List.length_map, List.length_take, show min k x.length = k from by omega, Nat.sub_self, List.set_cons_zero]
theorem part_zero (f : α → α) (x : List α) : part f x 0 = x := by simp [part]
theorem part_all (f : α → α) (x : List α) : part f x x.length = x.map f := by simp [part]
end
/-- A row's thing, read and written. -/
theorem row_cell {W : World} {base g cap n : Nat} {x : List Int} (h : W.ownsRow base 3 1 (.slice (some ⟨g, 0, none⟩) n cap) n (x.map (Value.int .i64))) {k : Nat} {y : Int} (hk : x[k]? = some y) : W.cell? ⟨g, k, none⟩ = some (.int .i64 y) ∧ W.frozen? ⟨g, k, none⟩ = false := by
  have hlt := (List.getElem?_eq_some_iff.1 hk).1
  have hn := h.1
  simp only [List.length_map, Nat.mul_one] at hn
  refine ⟨?_, h.frozenAt k⟩
  rw [h.cellAt k (by omega), List.getElem?_map, hk]; rfl
theorem row_set {W : World} {base g cap n : Nat} {x : List Int} (h : W.ownsRow base 3 1 (.slice (some ⟨g, 0, none⟩) n cap) n (x.map (Value.int .i64))) (k : Nat) (y : Int) :
    (W.setCell ⟨g, k, none⟩ (.int .i64 y)).ownsRow base 3 1 (.slice (some ⟨g, 0, none⟩) n cap) n ((x.set k y).map (Value.int .i64)) := by
  rw [List.map_set]; exact (h.stored k (.int .i64 y)).1
def dec (x : Int) : Int := wrap64 (x - 1)
theorem dec_inc {x : Int} (h : -9223372036854775808 ≤ x ∧ x ≤ 9223372036854775807) : dec (inc x) = x := by unfold dec inc wrap64; omega
theorem dec_incs {x : List Int} (h : ∀ y ∈ x, -9223372036854775808 ≤ y ∧ y ≤ 9223372036854775807) : (x.map inc).map dec = x := by
  rw [List.map_map]
  conv => rhs; rw [← List.map_id x]
  exact List.map_congr_left (fun y hy => dec_inc (h y hy))
open PRowsChunk in
theorem same_self (x : List Int) (hx : x.length ≤ 1000) : ∃ k, quillpenref14_Same.f k x x = some true := by
  have h : ∀ (k : Nat) (j : Nat), j ≤ x.length → x.length - j < k → quillpenref14_Same.l0 k x x (x.length : Int) j = some true := by
    intro k
    induction k with
    | zero => intro j _ h; omega
    | succ k ih =>
      intro j hj hk
      unfold quillpenref14_Same.l0
      by_cases hlt : j < x.length
      · rw [if_pos (by omega), if_pos (by omega), if_pos (by omega), if_pos (by omega), if_pos rfl, show wrap64 ((j : Int) + 1) = ((j + 1 : Nat) : Int) from by unfold wrap64; omega]
        exact ih (j + 1) (by omega) (by omega)
      · rw [if_neg (by omega)]
  refine ⟨x.length + 1, ?_⟩
  unfold quillpenref14_Same.f
  rw [if_pos rfl]
  exact h _ 0 (by omega) (by omega)
def el (b : Nat × Nat × List Int) : Value := .slice (some ⟨b.1, 0, none⟩) b.2.2.length b.2.1
/-- A list of lists, each in a block of its own. -/
structure Got (B base : Nat) (bs : List (Nat × Nat × List Int)) (v : Value) (W : World) : Prop where
  box : Boxed W B 24 v
  row : W.ownsRow base 22 1 v bs.length (bs.map el)
  rows : ∀ b ∈ bs, W.ownsRow base 3 1 (el b) b.2.2.length (b.2.2.map (Value.int .i64))
  nodup : (bs.map (·.1)).Nodup
def GotI (B base : Nat) (pre : List (List Int)) (C : Nat → Prop) (W : World) : Prop :=
  ∃ bs v, Got B base bs v W ∧ bs.map (·.2.2) = pre.map (List.map inc) ∧ ∀ k, C k ↔ k = B ∨ v.ownBlock = some k ∨ k ∈ bs.map (·.1)
theorem el_own (b : Nat × Nat × List Int) (k : Nat) : (el b).ownBlock = some k ↔ k = b.1 := by simp [el, Value.ownBlock, eq_comm]
theorem Got.keep {B base : Nat} {bs : List (Nat × Nat × List Int)} {v : Value} {W W' : World} (h : Got B base bs v W) (hk : ∀ k, (k = B ∨ v.ownBlock = some k ∨ k ∈ bs.map (·.1)) → W'.heap[k]? = W.heap[k]?) : Got B base bs v W' :=
  ⟨(hk B (.inl rfl)).trans h.box, owns_keep h.row (fun k e => hk k (.inr (.inl e))), fun b hb => owns_keep (h.rows b hb) (fun k e => hk k (.inr (.inr (by rw [(el_own b k).1 e]; exact List.mem_map_of_mem hb)))), h.nodup⟩
theorem Got.live {B base : Nat} {bs : List (Nat × Nat × List Int)} {v : Value} {W : World} (h : Got B base bs v W) (k : Nat) (hk : k = B ∨ v.ownBlock = some k ∨ k ∈ bs.map (·.1)) : k < W.heap.size := by
  rcases hk with rfl | e | e
  · exact h.box.lt
  · exact (h.row.lt k e).2
  · obtain ⟨b, hb, rfl⟩ := List.mem_map.1 e
    exact ((h.rows b hb).lt b.1 ((el_own b b.1).2 rfl)).2
theorem gotI_frames (B base : Nat) : Frames (GotI B base) :=
  ⟨fun s C W W' ⟨bs, v, h, e, hc⟩ hz hk => ⟨bs, v, h.keep (fun k hk' => hk k ((hc k).2 hk')), e, hc⟩, fun s C W ⟨bs, v, h, e, hc⟩ k hk => h.live k ((hc k).1 hk)⟩

theorem chunksOf_ne (n : Int) (xs : List Int) : ∀ x ∈ chunksOf n xs, x ≠ [] := by
  have h : ∀ (ys : List Int) (s : List (List Int) × List Int), (∀ x ∈ s.1, x ≠ []) → ∀ x ∈ (ys.foldl (chStep n) s).1, x ≠ [] := by
    intro ys
    induction ys with
    | nil => exact fun s h => h
    | cons y ys ih =>
      intro s h
      refine ih _ ?_
      unfold chStep; split
      · exact h
      · intro x hx
        rcases List.mem_append.1 hx with hx | hx
        · exact h x hx
        · rw [List.mem_singleton.1 hx]; simp
  intro x hx
  unfold chunksOf at hx
  split at hx
  · simp at hx
  · split at hx
    · exact h xs ([], []) (by simp) x hx
    · rcases List.mem_append.1 hx with hx | hx
      · exact h xs ([], []) (by simp) x hx
      · rw [List.mem_singleton.1 hx]; assumption
theorem chunksOf_len (n : Int) (xs : List Int) : (chunksOf n xs).length ≤ xs.length + 1 := by
  have h : ∀ (ys : List Int) (s : List (List Int) × List Int), (ys.foldl (chStep n) s).1.length ≤ s.1.length + ys.length := by
    intro ys
    induction ys with
    | nil => intro s; simp
    | cons y ys ih =>
      intro s
      have h1 := ih (chStep n s y)
      have : (chStep n s y).1.length ≤ s.1.length + 1 := by unfold chStep; split <;> simp
      simp only [List.foldl_cons, List.length_cons]; omega
  have := h xs ([], [])
  unfold chunksOf chRun
  split
  · simp
  · split
    · simpa using Nat.le_succ_of_le this
    · simp only [List.length_append, List.length_cons, List.length_nil]; simp at this; omega
theorem chunksOf_mem (n : Int) (xs : List Int) : ∀ x ∈ chunksOf n xs, ∀ y ∈ x, y ∈ xs := by
  have h : ∀ (ys : List Int) (s : List (List Int) × List Int), ∀ x, (x ∈ (ys.foldl (chStep n) s).1 ∨ x = (ys.foldl (chStep n) s).2) → ∀ y ∈ x, (∃ z ∈ s.1, y ∈ z) ∨ y ∈ s.2 ∨ y ∈ ys := by
    intro ys
    induction ys with
    | nil =>
      intro s x hx y hy
      rcases hx with hx | rfl
      · exact .inl ⟨x, hx, hy⟩
      · exact .inr (.inl hy)
    | cons c ys ih =>
      intro s x hx y hy
      have h3 := ih (chStep n s c) x hx y hy
      unfold chStep at h3
      split at h3
      · rcases h3 with h3 | h3 | h3
        · exact .inl h3
        · rcases List.mem_append.1 h3 with h | h
          · exact .inr (.inl h)
          · exact .inr (.inr (by rw [List.mem_singleton.1 h]; simp))
        · exact .inr (.inr (List.mem_cons_of_mem _ h3))
      · rcases h3 with ⟨z, hz, hyz⟩ | h3 | h3
        · rcases List.mem_append.1 hz with h | h
          · exact .inl ⟨z, h, hyz⟩
          · rw [List.mem_singleton.1 h] at hyz
            rcases List.mem_append.1 hyz with h | h
            · exact .inr (.inl h)
            · exact .inr (.inr (by rw [List.mem_singleton.1 h]; simp))
        · simp at h3
        · exact .inr (.inr (List.mem_cons_of_mem _ h3))
  intro x hx y hy
  have h2 := h xs ([], []) x
  unfold chunksOf at hx
  split at hx
  · simp at hx
  · split at hx
    · simpa using h2 (.inl hx) y hy
    · rcases List.mem_append.1 hx with hx | hx
      · simpa using h2 (.inl hx) y hy
      · simpa using h2 (.inr (List.mem_singleton.1 hx)) y hy
theorem chunksOf_row (n : Int) (xs : List Int) (hlen : xs.length ≤ 1000) : ∀ x ∈ chunksOf n xs, x.length ≤ 1000 := by
  have h : ∀ (ys : List Int) (s : List (List Int) × List Int), (∀ x ∈ s.1, x.length ≤ 1000) → s.2.length + ys.length ≤ 1000 → (∀ x ∈ (ys.foldl (chStep n) s).1, x.length ≤ 1000) ∧ (ys.foldl (chStep n) s).2.length ≤ 1000 := by
    intro ys
    induction ys with
    | nil => exact fun s h h2 => ⟨h, by simpa using h2⟩
    | cons y ys ih =>
      intro s h h2
      simp only [List.length_cons] at h2
      simp only [List.foldl_cons]
      refine ih _ ?_ ?_
      · unfold chStep; split
        · exact h
        · intro x hx
          rcases List.mem_append.1 hx with hx | hx
          · exact h x hx
          · rw [List.mem_singleton.1 hx]; simp; omega
      · unfold chStep; split <;> simp <;> omega
  intro x hx
  obtain ⟨h1, h2⟩ := h xs ([], []) (by simp) (by simpa using hlen)
  unfold chunksOf at hx
  split at hx
  · simp at hx
  · split at hx
    · exact h1 x hx
    · rcases List.mem_append.1 hx with hx | hx
      · exact h1 x hx
      · rw [List.mem_singleton.1 hx]; exact h2

theorem owns_raise {W : World} {b base e size n : Nat} {v : Value} {xs : List Value} (h : W.ownsRow b e size v n xs) (hb : ∀ k, v.ownBlock = some k → base ≤ k) : W.ownsRow base e size v n xs := by
  refine ⟨h.1, h.2.imp id ?_⟩
  rintro ⟨g, cap, cur, rfl, h1, h2⟩
  exact ⟨g, cap, cur, rfl, hb g rfl, h2⟩
theorem elem22 : (Try.prog.info? 22).map (fun i => (i.zero, i.size, i.bytes)) = some (some (.slice none 0 0), 1, 24) := by kernel_rfl
/-- A list of lists, one of which is turned back. -/
def back (b : Nat × Nat × List Int) : Nat × Nat × List Int := (b.1, b.2.1, b.2.2.map dec)
theorem back_el (b : Nat × Nat × List Int) : el (back b) = el b := by simp [el, back]
theorem part_back (bs : List (Nat × Nat × List Int)) (i : Nat) : (part back bs i).map el = bs.map el ∧ (part back bs i).map (·.1) = bs.map (·.1) := by
  have h : ∀ {β : Type} (h : Nat × Nat × List Int → β), (∀ b, h (back b) = h b) → (part back bs i).map h = bs.map h := by
    intro β h hh
    unfold part
    rw [List.map_append, List.map_map, show (List.map (h ∘ back) (bs.take i)) = (bs.take i).map h from List.map_congr_left (fun b _ => hh b), ← List.map_append, List.take_append_drop]
  exact ⟨h el back_el, h (·.1) (fun _ => rfl)⟩
theorem nodup_inj {α β : Type} (f : α → β) : ∀ (l : List α), (l.map f).Nodup → ∀ a ∈ l, ∀ b ∈ l, f a = f b → a = b := by
  intro l
  induction l with
  | nil => intro _ a ha; simp at ha
  | cons c l ih =>
    intro h a ha b hb e
    simp only [List.map_cons, List.nodup_cons] at h
    rcases List.mem_cons.1 ha with rfl | ha <;> rcases List.mem_cons.1 hb with rfl | hb
    · rfl
    · exact (h.1 (List.mem_map.2 ⟨b, ‹b ∈ l›, e.symm⟩)).elim
    · exact (h.1 (List.mem_map.2 ⟨a, ‹a ∈ l›, e⟩)).elim
    · exact ih h.2 a ha b hb e
/-- What a round of the law's is handed. -/
def Handed (base : Nat) (x : List Int) (g cap : Nat) (C : Nat → Prop) (pre : List (List Int)) (B : Nat) (W : World) : Prop :=
  W.ownsRow base 3 1 (.slice (some ⟨g, 0, none⟩) x.length cap) x.length (x.map (Value.int .i64)) ∧ ∃ C0, GotI B base pre C0 W ∧ (∀ k, C k ↔ C0 k ∨ k = g) ∧ ¬ C0 g

set_option maxRecDepth 100000 in
set_option maxHeartbeats 4000000 in
theorem chunk_walk (A0 : Option Addr) (c0 : Nat) (l : List Int) (n : Int) (hn1 : -9223372036854775808 ≤ n) (hn2 : n ≤ 9223372036854775807) (hl : ∀ x ∈ l, -9223372036854775808 ≤ x ∧ x ≤ 9223372036854775807) (w : World) (hC : (Kd.int .i64).C w A0 l.length l) (hc0 : l.length ≤ c0)
    (hf : l.length ≤ 100 → ∃ k, PRowsChunk.quillpenref14_Chunk.f k l n = some (chunksOf n l)) :
    Calls Try.prog 3 #[.slice A0 l.length c0, .int .i64 n] w fun e w' => e = .returned (.bool true) ∧ Below w.heap.size w w' := by
  refine calls_of_marks Try.func3 rfl ?_
  simp only [Try.ntmps3, List.size_toArray, List.length_cons, List.length_nil, Nat.reduceAdd, Nat.reduceSub, Array.replicate_succ, Array.replicate_zero, List.push_toArray, List.append_toArray, List.nil_append, List.cons_append]
  by_cases h100 : 100 < (l.length : Int)
  · go_wp2_with (go_at_call 7; refine (awake_calls _).mono ?_; rintro e w1 ⟨rfl, hb1⟩)
    exact ⟨_, results_tmp rfl _ _ _, rfl, hb1⟩
  · obtain ⟨kf, hkf⟩ := hf (by omega)
    have hV : Kd.V (Kd.int .i64) 3 w w.heap.size (fun k => rowOf A0 l.length k) (.slice A0 l.length c0) l := Kd.V_mk hc0 (fun W' hW' => int_moves hC (fun k hk => hW' k hk (row_live hC k hk)))
    go_wp2_with (first | (go_at_call 8; refine (PRowsChunk.quillpenref14_Chunk.calls kf _ A0 c0 l n _ w hV hkf).mono ?_; rintro e w1 ⟨v0, rfl, hN, hb1⟩) | (go_at_call 10; refine (of_calls _ _ _ _).mono ?_; rintro e w3 ⟨rfl, hw3⟩) | (go_at_call 9; refine (chunk_calls _ _ _ _).mono ?_; rintro e w4 ⟨rfl, hw4⟩; have hnil := run_nil_func 27 und27 (.func 33) #[] #[.pointer (some ⟨w3.heap.size + 1, 0, none⟩), .pointer (some ⟨w3.heap.size, 0, none⟩)] w4))
    have hs3 : w3.heap.size = w1.heap.size + 2 := by rw [← hw3]; simp
    have hs4 : w4.heap.size = w1.heap.size + 4 := by rw [← hw4]; simp [hs3]
    have hz1 := hb1.size
    have hA4 : ∀ F, Acts F w1 w4 := fun F => by rw [← hw4, ← hw3]; exact (((Acts.alloc _ _ _).trans (Acts.alloc F _ _) (fun _ h => .inl h)).trans (Acts.alloc F _ _) (fun _ h => .inl h)).trans (Acts.alloc _ _ _) (fun _ h => .inl h)
    have hb4 : Below w.heap.size w w4 := hb1.trans ((hA4 (fun _ => False)).below hz1 (fun _ _ h => h))
    have hB0 : Boxed w4 w1.heap.size 24 (.slice none 0 0) := by rw [← hw4, ← hw3]; exact (((Boxed.new w1 24 _).alloc _).alloc _).alloc _
    have hBs : w4.heap[w1.heap.size + 1]? = some (.cells #[.slice A0 l.length c0] 22 (0, 0)) := by
      rw [← hw4]
      exact (Below.heap_alloc _ _ _ (by simp [hs3])).trans ((Below.heap_alloc _ _ _ (by omega)).trans (by rw [← hw3]; have := World.alloc_heap_new (w1.alloc (.cells #[.slice none 0 0] 24)) (.cells #[.slice A0 l.length c0] 22 (0, 0)); simpa using this))
    have hBv : w4.heap[w3.heap.size]? = some (.cells #[.func (.func 45) #[] #[.pointer (some ⟨w1.heap.size + 1, 0, none⟩)]] 30 (0, 0)) := by
      rw [← hw4]; exact (Below.heap_alloc _ _ _ (by simp)).trans (by have := World.alloc_heap_new w3 (.cells #[.func (.func 45) #[] #[.pointer (some ⟨w1.heap.size + 1, 0, none⟩)]] 30 (0, 0)); simpa using this)
    have hBn : w4.heap[w3.heap.size + 1]? = some (.cells #[.int .i64 n] 3 (0, 0)) := by
      rw [← hw4]; have := World.alloc_heap_new (w3.alloc (.cells #[.func (.func 45) #[] #[.pointer (some ⟨w1.heap.size + 1, 0, none⟩)]] 30 (0, 0))) (.cells #[.int .i64 n] 3 (0, 0)); simpa using this
    have hC4 : (Kd.int .i64).C w4 A0 l.length l := int_moves hC (fun k hk => hb4.block k (row_live hC k hk))
    have hG1 := values_gives (w1.heap.size + 1) A0 c0 l w4 hBs hC4
    have hDl1 : ∀ k, (k = w1.heap.size + 1 ∨ rowOf A0 l.length k) → k < w4.heap.size ∧ (k < w.heap.size ∨ w1.heap.size < k) := by
      rintro k (rfl | h)
      · omega
      · have := row_live hC k h; omega
    have hG := chunk_gives (w3.heap.size + 1) w3.heap.size n hn1 hn2 45 _ l (by omega) _ w4 hBn hBv enters45 (fun k hk => (hDl1 k hk).1) hG1
    clear hw4 hw3
    refine wp_range_at (gf := 33) rfl enters33 hG (fun x args F W h => by obtain ⟨v, rfl, _⟩ := h; rfl) (Nat.le_refl _) (fun k hk => rfl) (fun k hk => hk.elim (fun hk => by rcases hk with h | h | h; (· omega); (· omega); exact (hDl1 k h).1) False.elim) (fun _ _ h _ => h) (fun _ _ _ h _ => h)
      (GotI w1.heap.size w4.heap.size) (fun _ _ _ _ => False) (gotI_frames _ _) (fun _ => frames_false) (fun k => k = w1.heap.size) ⟨[], _, ⟨hB0, World.ownsRow_nil _ _ _ _, by simp, by simp⟩, rfl, fun k => by simp [Value.ownBlock]⟩
      (fun k hk h => hk.elim (fun hk => by rcases hk with h' | h' | h'; (· omega); (· omega); have := (hDl1 k h').2; omega) False.elim)
      (fun fr pre x a₁ C' W' => ∃ g cap, a₁ = { tmps := (fr.setIfInBounds 26 (.slice (some ⟨g, 0, none⟩) x.length cap)).setIfInBounds 8 (.slice (some ⟨g, 0, none⟩) x.length cap), defers := [] } ∧ Handed w4.heap.size x g cap C' pre w1.heap.size W')
      (fun pre x a₁ => ?_) ?_ ?_ ?_ ?_
    · constructor
      · rintro s C' W W' ⟨g, cap, e, hr, C0, hi, hc, hn⟩ hz hk
        exact ⟨g, cap, e, owns_keep hr (fun k e => hk k ((hc k).2 (.inr (by simpa [Value.ownBlock] using e.symm)))), C0, (gotI_frames _ _).keep _ _ _ _ hi hz (fun k h => hk k ((hc k).2 (.inl h))), hc, hn⟩
      · rintro s C' W ⟨g, cap, e, hr, C0, hi, hc, hn⟩ k hk
        rcases (hc k).1 hk with h | rfl
        · exact (gotI_frames _ _).live _ _ _ hi k h
        · exact (hr.lt k rfl).2
    · intro l2 pre x args F C1 W2 hs2 hpre hI hH hFC hFn hA hM
      obtain ⟨v, rfl, hrow, hF⟩ := hH
      have hx : x ∈ chunksOf n l := hpre.subset (by simp)
      obtain ⟨g, cap, rfl⟩ : ∃ g cap, v = .slice (some ⟨g, 0, none⟩) x.length cap := by
        rcases hrow.2 with ⟨rfl, h⟩ | ⟨g, cap, cur, rfl, _⟩
        · exact absurd (List.length_eq_zero_iff.1 h) (chunksOf_ne n l x hx)
        · exact ⟨_, _, rfl⟩
      have hg1 : F g := (hF g).2 rfl
      gi_wp2
      refine ⟨fun k => C1 k ∨ k = g, Acts.refl _ _, fun k h => .inl (h.imp id (fun e => by rw [e]; exact hg1)), g, cap, by simp [hs3], owns_raise hrow (fun k e => ?_), C1, hI, fun k => Iff.rfl, fun h => hFC g hg1 h⟩
      exact hFn k ((hF k).2 e)
    · rintro l2 pre x a₁ C1 W2 hs2 hpre ⟨g, cap, ha, hrow, C0, ⟨bs, v, hgot, hbs, hC0⟩, hC1, hng⟩ hA hM
      simp only [List.setIfInBounds_toArray, List.set_cons_succ, List.set_cons_zero] at ha
      subst ha
      obtain ⟨i1, hj, hj0, hj1, hj2⟩ := info_parts elem22
      have hx : x ∈ chunksOf n l := hpre.subset (by simp)
      have hlen : bs.length ≤ 101 := by
        have h1 : bs.length = pre.length := by simpa using congrArg List.length hbs
        have h2 := hpre.length_le
        have h3 := chunksOf_len n l
        simp at h2
        omega
      have hxl := chunksOf_row n l (by omega) x hx
      have c6 := hgot.box.cell
      have f6 := hgot.box.frozen
      have hsz2 := hA.size
      gi_wp2_with (gi_at_builtin; refine wpListIn_append_own_at _ rfl _ _ 24 rfl w4.heap.size 22 i1 (.slice none 0 0) 1 24 Try.underlying24 hj hj0 hj1 hj2 rfl (by decide) v bs.length _ rfl (hgot.row.alloc _) ⟨W2.heap.size, 0, none⟩ 1 1 [.slice (some ⟨g, 0, none⟩) x.length cap] rfl rfl (cell_one_new _ _ _) (by simp [Value.oneCell']) (by simp [maxLen]; omega) (by omega) (by simp; omega) ?_; intro v' w5 hown hgrow hnil hat; obtain ⟨g6, cap6, rfl⟩ := ownsRow_succ hown; obtain ⟨hb1', hb2', hrow2, hA3, hy3⟩ := pushed hgot.box (by decide) hgot.row hown hgrow hat; have c4' := hb1'.cell; have f4' := hb1'.frozen)
      obtain ⟨W3, hW3⟩ : ∃ W3, w5.setCell ⟨w1.heap.size, 0, none⟩ (.slice (some ⟨g6, 0, none⟩) (bs.length + 1) cap6) = W3 := ⟨_, rfl⟩
      rw [hW3] at hb2' hrow2 hA3 ⊢
      clear hW3
      have hg0 : ¬ (w1.heap.size = g) := fun e => hgot.box.not_row (by decide) hrow (by rw [e]; rfl)
      have hg6 : v.ownBlock ≠ some g := fun e => own_ne hgot.row hrow (by decide) g e rfl
      have hrow3 : W3.ownsRow w4.heap.size 3 1 (.slice (some ⟨g, 0, none⟩) x.length cap) x.length (x.map (Value.int .i64)) := owns_keep hrow (fun k e => hA3.same k (hrow.lt k e).2 (fun h => by
        simp [Value.ownBlock] at e; subst e
        exact h.elim (fun h => hg0 h.symm) (fun h => hg6 h)))
      gi_loopw [33] (fun i wr => ∃ k : Nat, k ≤ x.length ∧ i = .int .i64 k ∧ Acts (fun j => j = g) W3 wr ∧ wr.ownsRow w4.heap.size 3 1 (.slice (some ⟨g, 0, none⟩) x.length cap) x.length ((part inc x k).map (Value.int .i64)))
        (fun i _ => x.length - (intOf i).toNat)
      case atStart => exact ⟨0, Nat.zero_le _, rfl, Acts.refl _ _, by rw [part_zero]; exact hrow3⟩
      case round =>
        obtain ⟨k, hk, rfl, hAk, hrk⟩ := hrel
        by_cases hlt : k < x.length
        · obtain ⟨hc, hfz⟩ := row_cell hrk (part_at inc hlt)
          have hset := row_set hrk k (inc x[k])
          rw [part_set inc hlt] at hset
          gi_wp2
          go_roundw
          case rel => exact ⟨k + 1, by omega, by simp, hAk.trans (Acts.setCell (C := fun j => j = g) _ _ _ _ rfl) (fun _ h => .inl h), hset⟩
          case measure => simp [intOf]; omega
        · obtain rfl : k = x.length := by omega
          rw [part_all] at hrk
          gi_wp2
          have hC1g : C1 g := (hC1 g).2 (.inr rfl)
          have c0 : ∀ k, C0 k → C1 k := fun k h => (hC1 k).2 (.inl h)
          have cB : C1 w1.heap.size := c0 _ ((hC0 _).2 (.inl rfl))
          have hg63 : g6 ≠ g := fun e => own_ne hrow2 hrow3 (by decide) g (by rw [e]; rfl) rfl
          have hin : ∀ b ∈ bs, C0 b.1 := fun b hb => (hC0 _).2 (.inr (.inr (List.mem_map_of_mem hb)))
          have hbg : ∀ b ∈ bs, b.1 ≠ g := fun b hb e => hng (by rw [← e]; exact hin b hb)
          have hrow' : wr.ownsRow w4.heap.size 22 1 (.slice (some ⟨g6, 0, none⟩) (bs.length + 1) cap6) (bs ++ [(g, cap, x.map inc)]).length ((bs ++ [(g, cap, x.map inc)]).map el) := by
            have := owns_keep hrow2 (fun k e => hAk.same k (hrow2.lt k e).2 (fun h => by simp [Value.ownBlock] at e; omega))
            simpa [el] using this
          refine ⟨fun k => k = w1.heap.size ∨ k = g6 ∨ k ∈ (bs ++ [(g, cap, x.map inc)]).map (·.1), (hA3.weaken (fun k _ h => h.elim (fun e => by rw [e]; exact cB) (fun e => c0 k ((hC0 k).2 (.inr (.inl e)))))).trans hAk (fun k e => .inl (by rw [e]; exact hC1g)), fun k h => ?_, bs ++ [(g, cap, x.map inc)], _, ⟨(hAk.same _ hb2'.lt (fun e => hg0 e)).trans hb2', hrow', ?_, ?_⟩, ?_, ?_⟩
          · rcases h with rfl | rfl | h
            · exact .inl cB
            · exact (hy3 _ rfl).imp (fun e => c0 _ ((hC0 _).2 (.inr (.inl e)))) id
            · simp only [List.map_append, List.mem_append, List.map_cons, List.map_nil, List.mem_singleton] at h
              rcases h with h | rfl
              · exact .inl (c0 k ((hC0 k).2 (.inr (.inr h))))
              · exact .inl hC1g
          · intro b hb
            rcases List.mem_append.1 hb with hb | hb
            · have h2 := hgot.rows b hb
              have h3 : W3.ownsRow w4.heap.size 3 1 (el b) b.2.2.length (b.2.2.map (Value.int .i64)) := owns_keep h2 (fun k e => hA3.same k (h2.lt k e).2 (fun h => h.elim (fun e' => hgot.box.not_row (by decide) h2 (by rw [e, e'])) (fun e' => own_ne hgot.row h2 (by decide) k e' e)))
              exact owns_keep h3 (fun k e => hAk.same k (h3.lt k e).2 (fun e' => hbg b hb (by rw [← (el_own b k).1 e, e'])))
            · rw [List.mem_singleton.1 hb]; simpa [el] using hrk
          · simp only [List.map_append, List.map_cons, List.map_nil]
            exact List.nodup_append.2 ⟨hgot.nodup, by simp, fun a ha b hb e => by
              obtain ⟨b', hb', rfl⟩ := List.mem_map.1 ha
              exact hbg b' hb' (by rw [e]; simpa using hb)⟩
          · simp [hbs]
          · intro k; simp [Value.ownBlock, eq_comm]
    · rintro d C' W2 hd hdC hA hM ⟨bs, v, hgot, hbs, hC'⟩ _ hK
      clear hs3
      obtain ⟨Aw, cw, rfl⟩ := Kd.N_slice hN
      have hNF := Kd.N_F hN
      have hbl : bs.length = (chunksOf n l).length := by simpa using congrArg List.length hbs
      have hcl := chunksOf_len n l
      have c6 := hgot.box.cell
      obtain ⟨A6, c6', rfl⟩ : ∃ A c, v = .slice A bs.length c := by
        rcases hgot.row.2 with ⟨rfl, h⟩ | ⟨g, cap, cur, rfl, _⟩
        · exact ⟨_, _, by rw [h]⟩
        · exact ⟨_, _, rfl⟩
      rw [hbl] at c6
      have hbk : ∀ k, k ∈ bs.map (·.1) → w4.heap.size ≤ k := fun k hk => by
        obtain ⟨b, hb, rfl⟩ := List.mem_map.1 hk
        exact ((hgot.rows b hb).lt b.1 ((el_own b b.1).2 rfl)).1
      have hb2 : Below w.heap.size w W2 := hb4.trans (hA.below hb4.size (fun k hk h => by
        rcases h with h | h
        · omega
        · exact h.elim))
      go_wp2
      go_loopw [50] (fun z wr => ∃ i : Nat, i ≤ (chunksOf n l).length ∧ z = .int .i64 i ∧ Acts (fun j => j ∈ bs.map (·.1)) W2 wr ∧ Got w1.heap.size w4.heap.size (part back bs i) (.slice A6 bs.length c6') wr)
        (fun z _ => (chunksOf n l).length - (intOf z).toNat)
      case atStart => exact ⟨0, Nat.zero_le _, rfl, Acts.refl _ _, by rw [part_zero]; exact hgot⟩
      case round =>
        obtain ⟨i, hi, rfl, hAi, hgi⟩ := hrel
        rename World => wo
        by_cases hlt : i < (chunksOf n l).length
        · have hib : i < bs.length := by omega
          obtain ⟨x, hx⟩ : ∃ x, (chunksOf n l)[i] = x := ⟨_, rfl⟩
          obtain ⟨g, cap, hbi⟩ : ∃ g cap, bs[i] = (g, cap, x.map inc) := by
            have h1 : (bs.map (·.2.2))[i]? = ((chunksOf n l).map (List.map inc))[i]? := by rw [hbs]
            rw [List.getElem?_map, List.getElem?_map, List.getElem?_eq_getElem hib, List.getElem?_eq_getElem hlt, hx] at h1
            have h2 : bs[i].2.2 = x.map inc := by simpa using h1
            exact ⟨bs[i].1, bs[i].2.1, by rw [← h2]⟩
          have hxm : x ∈ chunksOf n l := by rw [← hx]; exact List.getElem_mem hlt
          have hxl := chunksOf_row n l (by omega) x hxm
          have hxr : ∀ y ∈ x, -9223372036854775808 ≤ y ∧ y ≤ 9223372036854775807 := fun y hy => hl y (chunksOf_mem n l x hxm y hy)
          have hpi : (part back bs i)[i]? = some (g, cap, x.map inc) := by rw [part_at back hib, hbi]
          have hpm : (g, cap, x.map inc) ∈ part back bs i := List.mem_of_getElem? hpi
          have hrg : wo.ownsRow w4.heap.size 3 1 (.slice (some ⟨g, 0, none⟩) x.length cap) x.length ((x.map inc).map (Value.int .i64)) := by simpa [el] using hgi.rows _ hpm
          obtain ⟨g6, hg6⟩ : ∃ g6, A6 = some ⟨g6, 0, none⟩ := by
            rcases hgi.row.2 with ⟨h, _⟩ | ⟨g', _, _, h, _⟩
            · injection h with _ h _; omega
            · injection h with h; exact ⟨g', h⟩
          subst hg6
          have hrow6 : wo.ownsRow w4.heap.size 22 1 (.slice (some ⟨g6, 0, none⟩) bs.length c6') bs.length (bs.map el) := by
            have := hgi.row; rwa [part_len, (part_back bs i).1] at this
          have hgB : w1.heap.size ≠ g := fun e => hgi.box.not_row (by decide) hrg (by rw [e]; rfl)
          have hg6g : g6 ≠ g := fun e => own_ne hrow6 hrg (by decide) g (by rw [e]; rfl) rfl
          have hgm : g ∈ bs.map (·.1) := by rw [← (part_back bs i).2]; exact List.mem_map_of_mem hpm
          have fa : ∀ wk, Acts (fun j => j = g) wo wk → wk.cell? ⟨w1.heap.size, 0, none⟩ = some (.slice (some ⟨g6, 0, none⟩) (chunksOf n l).length c6') ∧ wk.cell? ⟨g6, i, none⟩ = some (.slice (some ⟨g, 0, none⟩) x.length cap) := fun wk hk => by
            have hb : Boxed wk w1.heap.size 24 (.slice (some ⟨g6, 0, none⟩) bs.length c6') := (hk.same _ hgi.box.lt hgB).trans hgi.box
            have hr := owns_keep hrow6 (fun k e => hk.same k (hrow6.lt k e).2 (fun h => by simp [Value.ownBlock] at e; omega))
            refine ⟨by rw [← hbl]; exact hb.cell, ?_⟩
            rw [hr.cellAt i (by omega), List.getElem?_map, List.getElem?_eq_getElem hib, hbi]
            simp [el]
          obtain ⟨fa1, fa2⟩ := fa wo (Acts.refl _ _)
          go_wp2
          go_loopw [58] (fun z wk => ∃ k : Nat, k ≤ x.length ∧ z = .int .i64 k ∧ Acts (fun j => j = g) wo wk ∧ wk.ownsRow w4.heap.size 3 1 (.slice (some ⟨g, 0, none⟩) x.length cap) x.length ((part dec (x.map inc) k).map (Value.int .i64)))
            (fun z _ => x.length - (intOf z).toNat)
          case atStart => exact ⟨0, Nat.zero_le _, rfl, Acts.refl _ _, by rw [part_zero]; exact hrg⟩
          case round =>
            rename World => wk
            obtain ⟨k, hk, rfl, hAk, hrk⟩ := hrel
            obtain ⟨fb1, fb2⟩ := fa wk hAk
            by_cases hlk : k < x.length
            · have hlk' : k < (x.map inc).length := by simpa using hlk
              obtain ⟨hc, hfz⟩ := row_cell hrk (part_at dec hlk')
              have hset := row_set hrk k (dec (x.map inc)[k])
              rw [part_set dec hlk', show dec (x.map inc)[k] = wrap64 (inc x[k] - 1) from by simp [dec]] at hset
              go_wp2
              go_roundw
              case rel => exact ⟨k + 1, by omega, by simp, hAk.trans (Acts.setCell (C := fun j => j = g) _ _ _ _ rfl) (fun _ h => .inl h), hset⟩
              case measure => simp [intOf]; omega
            · obtain rfl : k = x.length := by omega
              rw [show part dec (x.map inc) x.length = x from by have := part_all dec (x.map inc); rw [List.length_map] at this; rw [this]; exact dec_incs hxr] at hrk
              obtain ⟨_, hcg, hCg⟩ := C_of_own hrk
              have hCw : (Kd.slice 3 (Kd.int .i64)).C wk Aw (chunksOf n l).length (chunksOf n l) := hNF wk (fun k hk hlt => by
                have hk4 := (hA4 (fun _ => False)).same k hlt (fun h => h)
                have hz4 := hA.size
                have hk2 := hA.same k (by omega) (fun h => h.elim (by omega) id)
                have hko := hAi.same k (by omega) (fun h => by have := hbk k h; omega)
                have hzo := hAi.size
                exact (hAk.same k (by omega) (fun e => by have := hbk g hgm; omega)).trans (hko.trans (hk2.trans hk4)))
              obtain ⟨adw, cl, rfl, _, ⟨Ax, cx, rfl, hcx, hCx⟩, hcell⟩ := Kd.C_get hCw [] (i : Int) (by omega) (by omega)
              rw [show (chunksOf n l).getD (i : Int).toNat [] = x from by rw [Int.toNat_natCast, List.getD_eq_getElem?_getD, List.getElem?_eq_getElem hlt, hx]; rfl] at hcx hCx hcell
              have hcw := hcell 0 _ rfl
              rw [show (i : Int).toNat * (Kd.slice 3 (Kd.int .i64)).sz + 0 = i from by simp [Kd.slice]] at hcw
              obtain ⟨ks, hks⟩ := same_self x (by omega)
              have hi0 : (0 : Int) ≤ (i : Int) := by omega
              have hi1 : (i : Int) < ((chunksOf n l).length : Int) := by omega
              clear hl hkf hV hN hNF
              go_wp2
              go_quiet ((go_at_call 11; exact Calls.quiet_of ((PRowsChunk.quillpenref14_Same.calls ks (some ⟨g, 0, none⟩) cap x Ax cx x true _ (Kd.C_drewN hCg _) hcg (Kd.C_drewN hCx _) hcx hks).mono (fun e w' h => ⟨h.1, h.2.out⟩))))
              go_wp2
              go_roundw
              case measure => simp [intOf]; omega
              case rel =>
                have hbe : back bs[i] = (g, cap, x) := by rw [hbi]; simp only [back]; rw [dec_incs hxr]
                have hps : (part back bs i).set i (g, cap, x) = part back bs (i + 1) := by rw [← hbe]; exact part_set back hib
                have hnd : ((part back bs (i + 1)).map (·.1)).Nodup := by rw [(part_back bs (i + 1)).2]; exact hgot.nodup
                have hmem : (g, cap, x) ∈ part back bs (i + 1) := by rw [← hps]; exact List.mem_set (by rw [part_len]; exact hib) _
                refine ⟨i + 1, by omega, by simp, (hAi.trans (hAk.weaken (fun _ _ e => by rw [e]; exact hgm)) (fun _ h => .inl h)).trans (Acts.drewN _ _ _) (fun _ h => .inl h), ?_⟩
                have hgk : Got w1.heap.size w4.heap.size (part back bs (i + 1)) (.slice (some ⟨g6, 0, none⟩) bs.length c6') wk := by
                  refine ⟨(hAk.same _ hgi.box.lt hgB).trans hgi.box, ?_, fun b hb => ?_, hnd⟩
                  · rw [part_len, (part_back bs (i + 1)).1]
                    exact owns_keep hrow6 (fun k e => hAk.same k (hrow6.lt k e).2 (fun h => by simp [Value.ownBlock] at e; omega))
                  · by_cases hbg : b.1 = g
                    · obtain rfl : b = (g, cap, x) := nodup_inj (·.1) _ hnd b hb _ hmem hbg
                      exact hrk
                    · have hb' : b ∈ part back bs i := by
                        rw [← hps] at hb
                        exact (List.mem_or_eq_of_mem_set hb).elim id (fun e => absurd (by rw [e]) hbg)
                      have h3 := hgi.rows b hb'
                      exact owns_keep h3 (fun k e => hAk.same k (h3.lt k e).2 (fun e' => hbg (by rw [← (el_own b k).1 e, e'])))
                exact hgk.keep (fun _ _ => rfl)
        · obtain rfl : i = (chunksOf n l).length := by omega
          go_wp2_with (go_at_call 7; refine (awake_calls _).mono ?_; rintro e w9 ⟨rfl, hb9⟩)
          have hd2 := (Array.getElem?_eq_some_iff.1 hK).1
          have hzi := hAi.size
          have hz9 := hb9.size
          refine leave_mark1 rfl (((hb9.block d (by omega)).trans (hAi.same d hd2 (fun h => hdC ((hC' d).2 (.inr (.inr h)))))).trans hK) ⟨rfl, ?_⟩
          exact ((hb2.trans (hAi.below hb2.size (fun k hk h => by have := hbk k h; omega))).trans (hb9.mono (by have := hb2.size; omega))).trans (below_put (by omega) (by have := hb2.size; omega))
    · rintro d c pre C' W2 hd hdC hA hM hpre h
      exact h.elim
end Go.Proofs.Ytncnnbfejomkoaa.Rows14
