/- The document's Take and Skip; RowsTake. -/
import Derived.Test.YtncnnbfejomkoaaRf
import Derived.Test.YtncnnbfejomkoaaPureRowsChunk
import Derived.OpenShut
namespace Go.Proofs.Ytncnnbfejomkoaa.Rows14
open Go.RowKit Go.Shelf Go.Proofs.YtncnnbfejomkoaaW.PrintWords Go.Proofs.YtncnnbfejomkoaaW.PrintLast Go.Proofs.YtncnnbfejomkoaaW.PrintMore Go.Proofs.Ytncnnbfejomkoaa.Iter
set_option linter.unusedVariables false
set_option linter.unusedSimpArgs false
attribute [local go_sem] Oper.semAt_some

set_option maxHeartbeats 1000000 in
theorem refTake_calls (A : Option Addr) (c : Nat) (xs : List Int) (n : Int) (w : World) (hC : (Kd.int .i64).C w A xs.length xs) (hc : xs.length ≤ c) (hx : xs.length ≤ 1000) :
    Calls Try.prog 15 #[.slice A xs.length c, .int .i64 n] w fun e w' => ∃ v, e = .returned v ∧ w'.ownsRow w.heap.size 3 1 v (xs.take n.toNat).length ((xs.take n.toNat).map (Value.int .i64)) ∧ Below w.heap.size w w' := by
  obtain ⟨i0, hi, hz0, hz1, hz2⟩ := info_parts elem3
  have cut : ∀ j : Int, 0 ≤ j → j ≤ xs.length → ∃ ys, xs.take j.toNat = ys ∧ (∀ W : World, (Instr.slice 22 (.slice A xs.length c) none (some (.int .i64 j)) none).run Try.prog W = .ok (.slice A ys.length c) W) ∧ (Kd.int .i64).C w A ys.length ys ∧ ys.length ≤ 1000 := fun j h0 hm => by
    obtain ⟨h1, h2, h3⟩ := print_take_of (P := Try.prog) (Value.int .i64) 0 22 3 .i64 Try.underlying22 hi hz1 A c xs j h0 hm hc
    refine ⟨_, rfl, h1, Kd.C_of_reads (h1 := fun _ => rfl) (h2 _ (Kd.reads_of_C hC)), by rw [List.length_take]; omega⟩
  by_cases h1 : n < 0
  · obtain ⟨ys, hy, hcut, hCy, hl⟩ := cut (0) (by omega) (by omega)
    rw [show n.toNat = (0 : Int).toNat from by omega, hy]
    clear cut
    go_enter Try.func15, Try.ntmps15
    go_wp2_with (at_builtin; refine Kd.R_append_rows (Kd.int .i64) (w0 := w) w.heap.size rfl _ _ 22 3 (.int .i64 0) 8 rfl Try.underlying22 elem3 rfl (by decide) (by omega) (.slice none 0 0) ([] : List Int) ys _ _ _ (fun _ => True) (fun _ => False) rfl rfl (Kd.R_nil _ _ _ _ _) hCy (fun _ _ h => h) (fun _ h => h.elim) (fun _ _ => trivial) (Below.refl _ _) (Nat.le_refl _) (by simp; omega) ?_; intro v1 w1 ho hb hg hat)
    go_ret
    exact ⟨v1, rfl, by have := Kd.own_of_R ho; rwa [List.nil_append] at this, hb⟩
  by_cases h2 : (xs.length : Int) < n
  · obtain ⟨ys, hy, hcut, hCy, hl⟩ := cut ((xs.length : Int)) (by omega) (by omega)
    rw [show xs.take n.toNat = xs.take (xs.length : Int).toNat from by rw [Int.toNat_natCast, List.take_of_length_le (by omega), List.take_of_length_le (by omega)], hy]
    clear cut
    go_enter Try.func15, Try.ntmps15
    go_wp2_with (at_builtin; refine Kd.R_append_rows (Kd.int .i64) (w0 := w) w.heap.size rfl _ _ 22 3 (.int .i64 0) 8 rfl Try.underlying22 elem3 rfl (by decide) (by omega) (.slice none 0 0) ([] : List Int) ys _ _ _ (fun _ => True) (fun _ => False) rfl rfl (Kd.R_nil _ _ _ _ _) hCy (fun _ _ h => h) (fun _ h => h.elim) (fun _ _ => trivial) (Below.refl _ _) (Nat.le_refl _) (by simp; omega) ?_; intro v1 w1 ho hb hg hat)
    go_ret
    exact ⟨v1, rfl, by have := Kd.own_of_R ho; rwa [List.nil_append] at this, hb⟩
  · obtain ⟨ys, hy, hcut, hCy, hl⟩ := cut (n) (by omega) (by omega)
    rw [hy]
    clear cut
    go_enter Try.func15, Try.ntmps15
    go_wp2_with (at_builtin; refine Kd.R_append_rows (Kd.int .i64) (w0 := w) w.heap.size rfl _ _ 22 3 (.int .i64 0) 8 rfl Try.underlying22 elem3 rfl (by decide) (by omega) (.slice none 0 0) ([] : List Int) ys _ _ _ (fun _ => True) (fun _ => False) rfl rfl (Kd.R_nil _ _ _ _ _) hCy (fun _ _ h => h) (fun _ h => h.elim) (fun _ _ => trivial) (Below.refl _ _) (Nat.le_refl _) (by simp; omega) ?_; intro v1 w1 ho hb hg hat)
    go_ret
    exact ⟨v1, rfl, by have := Kd.own_of_R ho; rwa [List.nil_append] at this, hb⟩
set_option maxHeartbeats 1000000 in
theorem refSkip_calls (A : Option Addr) (c : Nat) (xs : List Int) (n : Int) (w : World) (hC : (Kd.int .i64).C w A xs.length xs) (hc : xs.length ≤ c) (hx : xs.length ≤ 1000) :
    Calls Try.prog 18 #[.slice A xs.length c, .int .i64 n] w fun e w' => ∃ v, e = .returned v ∧ w'.ownsRow w.heap.size 3 1 v (xs.drop n.toNat).length ((xs.drop n.toNat).map (Value.int .i64)) ∧ Below w.heap.size w w' := by
  obtain ⟨i0, hi, hz0, hz1, hz2⟩ := info_parts elem3
  have cut : ∀ j : Int, 0 ≤ j → j ≤ xs.length → ∃ ys, xs.drop j.toNat = ys ∧ ∃ A' c', (∀ W : World, (Instr.slice 22 (.slice A xs.length c) (some (.int .i64 j)) none none).run Try.prog W = .ok (.slice A' ys.length c') W) ∧ (Kd.int .i64).C w A' ys.length ys ∧ ys.length ≤ 1000 := fun j h0 hm => by
    obtain ⟨A', h1, h2, h3⟩ := print_drop_of (P := Try.prog) (Value.int .i64) 0 22 3 .i64 Try.underlying22 hi hz1 A c xs j h0 hm hc
    refine ⟨_, rfl, A', _, h1, Kd.C_of_reads (h1 := fun _ => rfl) (h2 _ (Kd.reads_of_C hC)), by rw [List.length_drop]; omega⟩
  by_cases h1 : n < 0
  · obtain ⟨ys, hy, A', c', hcut, hCy, hl⟩ := cut (0) (by omega) (by omega)
    rw [show n.toNat = (0 : Int).toNat from by omega, hy]
    clear cut
    go_enter Try.func18, Try.ntmps18
    go_wp2_with (at_builtin; refine Kd.R_append_rows (Kd.int .i64) (w0 := w) w.heap.size rfl _ _ 22 3 (.int .i64 0) 8 rfl Try.underlying22 elem3 rfl (by decide) (by omega) (.slice none 0 0) ([] : List Int) ys _ _ _ (fun _ => True) (fun _ => False) rfl rfl (Kd.R_nil _ _ _ _ _) hCy (fun _ _ h => h) (fun _ h => h.elim) (fun _ _ => trivial) (Below.refl _ _) (Nat.le_refl _) (by simp; omega) ?_; intro v1 w1 ho hb hg hat)
    go_ret
    exact ⟨v1, rfl, by have := Kd.own_of_R ho; rwa [List.nil_append] at this, hb⟩
  by_cases h2 : (xs.length : Int) < n
  · obtain ⟨ys, hy, A', c', hcut, hCy, hl⟩ := cut ((xs.length : Int)) (by omega) (by omega)
    rw [show xs.drop n.toNat = xs.drop (xs.length : Int).toNat from by rw [Int.toNat_natCast, List.drop_of_length_le (by omega), List.drop_of_length_le (by omega)], hy]
    clear cut
    go_enter Try.func18, Try.ntmps18
    go_wp2_with (at_builtin; refine Kd.R_append_rows (Kd.int .i64) (w0 := w) w.heap.size rfl _ _ 22 3 (.int .i64 0) 8 rfl Try.underlying22 elem3 rfl (by decide) (by omega) (.slice none 0 0) ([] : List Int) ys _ _ _ (fun _ => True) (fun _ => False) rfl rfl (Kd.R_nil _ _ _ _ _) hCy (fun _ _ h => h) (fun _ h => h.elim) (fun _ _ => trivial) (Below.refl _ _) (Nat.le_refl _) (by simp; omega) ?_; intro v1 w1 ho hb hg hat)
    go_ret
    exact ⟨v1, rfl, by have := Kd.own_of_R ho; rwa [List.nil_append] at this, hb⟩
  · obtain ⟨ys, hy, A', c', hcut, hCy, hl⟩ := cut (n) (by omega) (by omega)
    rw [hy]
    clear cut
    go_enter Try.func18, Try.ntmps18
    go_wp2_with (at_builtin; refine Kd.R_append_rows (Kd.int .i64) (w0 := w) w.heap.size rfl _ _ 22 3 (.int .i64 0) 8 rfl Try.underlying22 elem3 rfl (by decide) (by omega) (.slice none 0 0) ([] : List Int) ys _ _ _ (fun _ => True) (fun _ => False) rfl rfl (Kd.R_nil _ _ _ _ _) hCy (fun _ _ h => h) (fun _ h => h.elim) (fun _ _ => trivial) (Below.refl _ _) (Nat.le_refl _) (by simp; omega) ?_; intro v1 w1 ho hb hg hat)
    go_ret
    exact ⟨v1, rfl, by have := Kd.own_of_R ho; rwa [List.nil_append] at this, hb⟩

open PRowsChunk in
theorem same_calls (A0 : Option Addr) (c0 : Nat) (A1 : Option Addr) (c1 : Nat) (xs : List Int) (hx : xs.length ≤ 1000) (w : World) (h0 : (Kd.int .i64).C w A0 xs.length xs) (hc0 : xs.length ≤ c0) (h1 : (Kd.int .i64).C w A1 xs.length xs) (hc1 : xs.length ≤ c1) :
    Calls Try.prog 11 #[.slice A0 xs.length c0, .slice A1 xs.length c1] w fun e w' => e = .returned (.bool true) ∧ Drawn0 w w' := by
  obtain ⟨k, hk⟩ := same_self xs hx
  exact quillpenref14_Same.calls k A0 c0 xs A1 c1 xs true w h0 hc0 h1 hc1 hk
/-- Two lists of one's own that hold the same. -/
theorem same_own {b0 b1 : Nat} {v0 v1 : Value} {xs : List Int} (hx : xs.length ≤ 1000) {w : World} (h0 : w.ownsRow b0 3 1 v0 xs.length (xs.map (Value.int .i64))) (h1 : w.ownsRow b1 3 1 v1 xs.length (xs.map (Value.int .i64))) :
    Calls Try.prog 11 #[v0, v1] w fun e w' => e = .returned (.bool true) ∧ Drawn0 w w' := by
  obtain ⟨A0, c0, rfl, r0, C0⟩ := Kd.R_reads (Kd.R_of_own (enc := Value.int .i64) (h1 := fun _ => rfl) (ok := fun _ => True) h0 (fun _ _ => trivial))
  obtain ⟨A1, c1, rfl, r1, C1⟩ := Kd.R_reads (Kd.R_of_own (enc := Value.int .i64) (h1 := fun _ => rfl) (ok := fun _ => True) h1 (fun _ _ => trivial))
  exact same_calls A0 c0 A1 c1 xs hx w C0 r0 C1 r1

/-- What is asked of the world may be asked later. -/
theorem switch_ {md : Region.Mode} {ops : Array Oper} {Q : Exit → Act → World → Prop} {S' : World → Prop} {ds : List Nat} : ∀ (fuel : Nat) (l : Array Bool) (a : Act) (w : World), wpAnyLast Try.prog md ops Q S' ds fuel l a w → wpAnyLast Try.prog md ops Q (fun _ => True) ds fuel l a w
  | 0, _, _, _, h => h
  | fuel + 1, l, a, w, h => ⟨h.1, fun i hi => wpOp_mono (fun a' w' h' => ⟨fun _ _ => trivial, switch_ fuel _ _ _ h'.2⟩) (h.2 i hi)⟩

/-- The boxes of rows.Take(told(l, &asked), n). -/
structure TB (B : Nat) (A0 : Option Addr) (c0 : Nat) (l : List Int) (n : Int) (W : World) : Prop where
  l1 : W.heap[B + 1]? = some (.cells #[.slice A0 l.length c0] 22 (0, 0))
  l2 : W.heap[B + 2]? = some (.cells #[.pointer (some ⟨B, 0, none⟩)] 36 (0, 0))
  l3 : W.heap[B + 3]? = some (.cells #[.func (.func 36) #[] #[.pointer (some ⟨B + 1, 0, none⟩), .pointer (some ⟨B + 2, 0, none⟩)]] 30 (0, 0))
  l4 : W.heap[B + 4]? = some (.cells #[.int .i64 n] 3 (0, 0))
  row : (Kd.int .i64).C W A0 l.length l
  low : ∀ k, rowOf A0 l.length k → k < B
theorem TB.keep {B : Nat} {A0 : Option Addr} {c0 : Nat} {l : List Int} {n : Int} {W W' : World} (h : TB B A0 c0 l n W) (hk : ∀ k, k ≤ B + 4 → k ≠ B → W'.heap[k]? = W.heap[k]?) : TB B A0 c0 l n W' :=
  ⟨(hk _ (by omega) (by omega)).trans h.l1, (hk _ (by omega) (by omega)).trans h.l2, (hk _ (by omega) (by omega)).trans h.l3, (hk _ (by omega) (by omega)).trans h.l4, int_moves h.row (fun k hr => hk k (by have := h.low k hr; omega) (by have := h.low k hr; omega)), h.low⟩
def TD (B : Nat) (A0 : Option Addr) (l : List Int) (k : Nat) : Prop := k = B + 4 ∨ k = B + 3 ∨ k = B + 1 ∨ k = B + 2 ∨ rowOf A0 l.length k
theorem TB.gives {B : Nat} {A0 : Option Addr} {c0 : Nat} {l : List Int} {n : Int} {W : World} (h : TB B A0 c0 l n W) (hn1 : -9223372036854775808 ≤ n) (hn2 : n ≤ 9223372036854775807) (a0 : Int) (hb : 0 ≤ a0 ∧ a0 ≤ 1000) (ha : Boxed W B 3 (.int .i64 a0)) (hl : l.length ≤ 1000) :
    Gives Try.prog 35 #[.pointer (some ⟨B + 4, 0, none⟩), .pointer (some ⟨B + 3, 0, none⟩)] ints (l.take n.toNat) (TD B A0 l) (fun k => k = B) (fun W => Boxed W B 3 (.int .i64 (a0 + (l.take n.toNat).length))) (fun pre W => Boxed W B 3 (.int .i64 (a0 + pre.length))) W :=
  take_gives (B + 4) (B + 3) n hn1 hn2 36 _ l _ (fun k => k = B) (fun m W => Boxed W B 3 (.int .i64 (a0 + (m : Int)))) W h.l4 h.l3 ⟨by omega, by omega⟩ enters36
    (fun k hk => by
      rcases hk with (h' | h' | h') | h'
      · have := (Array.getElem?_eq_some_iff.1 h.l1).1; omega
      · have := (Array.getElem?_eq_some_iff.1 h.l2).1; omega
      · exact row_live h.row k h'
      · have := ha.lt; omega)
    (fun m W W' hk he => (he B rfl).trans hk) (by simpa using ha)
    (told_gives (B + 1) (B + 2) B a0 A0 c0 l W h.l1 h.l2 ha h.row ⟨by omega, by omega, fun hr => by have := h.low B hr; omega⟩ hb hl)
theorem TB.lt {B : Nat} {A0 : Option Addr} {c0 : Nat} {l : List Int} {n : Int} {W : World} (h : TB B A0 c0 l n W) (k : Nat) (hk : TD B A0 l k ∨ k = B) : k < W.heap.size := by
  have := (Array.getElem?_eq_some_iff.1 h.l4).1
  rcases hk with (h' | h' | h' | h' | h') | h'
  · omega
  · omega
  · omega
  · omega
  · have := h.low k h'; omega
  · omega
/-- The law's first, over that, with no bound. -/
theorem TB.first {B : Nat} {A0 : Option Addr} {c0 : Nat} {l : List Int} {n : Int} {W : World} (h : TB B A0 c0 l n W) (hn1 : -9223372036854775808 ≤ n) (hn2 : n ≤ 9223372036854775807) (a0 : Int) (hb : 0 ≤ a0 ∧ a0 ≤ 1000) (ha : Boxed W B 3 (.int .i64 a0)) (hl : l.length ≤ 1000) :
    Calls Try.prog 14 #[.func (.func 35) #[] #[.pointer (some ⟨B + 4, 0, none⟩), .pointer (some ⟨B + 3, 0, none⟩)], .int .i64 0] W fun e w' => ∃ v, e = .returned v ∧ w'.ownsRow W.heap.size 3 1 v (l.take n.toNat).length ((l.take n.toNat).map (Value.int .i64)) ∧ Acts (fun k => k = B) W w' ∧ Boxed w' B 3 (.int .i64 (a0 + (l.take n.toNat).length)) ∧ TB B A0 c0 l n w' := by
  refine (first_calls 35 _ (l.take n.toNat) (by rw [List.length_take]; omega) (TD B A0 l) (fun k => k = B) (fun W => Boxed W B 3 (.int .i64 (a0 + (l.take n.toNat).length))) (fun pre W => Boxed W B 3 (.int .i64 (a0 + pre.length))) 0 W enters35 h.lt (fun W W' hk he => (he B rfl).trans hk) (fun pre W W' hk he => (he B rfl).trans hk) (h.gives hn1 hn2 a0 hb ha hl)).mono ?_
  rintro e w' ⟨v, rfl, h1, h2, h3⟩
  have hf : firstOf 0 (l.take n.toNat) = l.take n.toNat := by unfold firstOf; rw [if_neg (by omega)]
  rw [hf] at h1
  exact ⟨v, rfl, h1, h2, h3.2 (by omega), h.keep (fun k hk hne => h2.same k (by have := h.lt (B + 4) (.inl (.inl rfl)); omega) hne)⟩

/-- rows.Collect(rows.Skip(rows.Of(l), n)). -/
theorem skip_of (A0 : Option Addr) (c0 : Nat) (l : List Int) (n : Int) (hn1 : -9223372036854775808 ≤ n) (hn2 : n ≤ 9223372036854775807) (hl : l.length ≤ 1000) (W w12 w13 : World) (hC : (Kd.int .i64).C W A0 l.length l)
    (hw12 : W.alloc (.cells #[.slice A0 l.length c0] 22) = w12) (hw13 : (w12.alloc (.cells #[.func (.func 45) #[] #[.pointer (some ⟨W.heap.size, 0, none⟩)]] 30)).alloc (.cells #[.int .i64 n] 3) = w13) :
    Calls Try.prog 16 #[.func (.func 38) #[] #[.pointer (some ⟨w12.heap.size + 1, 0, none⟩), .pointer (some ⟨w12.heap.size, 0, none⟩)]] w13 fun e w' => ∃ v, e = .returned v ∧ w'.ownsRow w13.heap.size 3 1 v (l.drop n.toNat).length ((l.drop n.toNat).map (Value.int .i64)) ∧ Below w13.heap.size w13 w' ∧ Below W.heap.size W w' ∧ (Kd.int .i64).C w' A0 l.length l := by
  have hs12 : w12.heap.size = W.heap.size + 1 := by rw [← hw12]; simp
  have hs13 : w13.heap.size = W.heap.size + 3 := by rw [← hw13]; simp [hs12]
  have hA13 : Acts (fun _ => False) W w13 := by rw [← hw13, ← hw12]; exact ((Acts.alloc _ _ _).trans (Acts.alloc _ _ _) (fun _ h => .inl h)).trans (Acts.alloc _ _ _) (fun _ h => .inl h)
  have hBs : w13.heap[W.heap.size]? = some (.cells #[.slice A0 l.length c0] 22 (0, 0)) := by
    rw [← hw13]; exact (Below.heap_alloc _ _ _ (by simp [hs12]; omega)).trans ((Below.heap_alloc _ _ _ (by omega)).trans (by rw [← hw12]; exact World.alloc_heap_new W _))
  have hBv : w13.heap[w12.heap.size]? = some (.cells #[.func (.func 45) #[] #[.pointer (some ⟨W.heap.size, 0, none⟩)]] 30 (0, 0)) := by
    rw [← hw13]; exact (Below.heap_alloc _ _ _ (by simp)).trans (World.alloc_heap_new w12 _)
  have hBn : w13.heap[w12.heap.size + 1]? = some (.cells #[.int .i64 n] 3 (0, 0)) := by
    rw [← hw13]; have := World.alloc_heap_new (w12.alloc (.cells #[.func (.func 45) #[] #[.pointer (some ⟨W.heap.size, 0, none⟩)]] 30)) (.cells #[.int .i64 n] 3 (0, 0)); rwa [World.size_alloc] at this
  have hC13 : (Kd.int .i64).C w13 A0 l.length l := int_moves hC (fun k hk => hA13.same k (row_live hC k hk) id)
  have hG := skip_gives (w12.heap.size + 1) w12.heap.size n hn1 hn2 45 _ l _ (fun _ => False) (fun _ _ => True) w13 hBn hBv ⟨id, id⟩ enters45
    (fun k hk => by
      rcases hk with (h | h) | h
      · omega
      · exact row_live hC13 k h
      · exact h.elim) (fun _ _ _ _ _ => trivial) (values_gives W.heap.size A0 c0 l w13 hBs hC13)
  refine (collect_calls 38 _ (l.drop n.toNat) (by rw [List.length_drop]; omega) _ (fun _ => False) _ _ w13 enters38
    (fun k hk => by
      rcases hk with (h | h | h | h) | h
      · omega
      · omega
      · omega
      · exact row_live hC13 k h
      · exact h.elim) (fun _ _ _ _ => trivial) (fun pre W W' h _ => h) hG).mono ?_
  rintro e w' ⟨v, rfl, h1, h2, _⟩
  have hb : Below w13.heap.size w13 w' := h2.below (Nat.le_refl _) (fun _ _ h => h)
  exact ⟨v, rfl, h1, hb, (hA13.below (Nat.le_refl _) (fun _ _ h => h)).trans (hb.mono (by omega)), int_moves hC13 (fun k hk => hb.block k (row_live hC13 k hk))⟩

/-- A region that draws its order, and what stands behind it, parted. -/
def midPost (Φ : Act → Act → World → Prop) (a : Act) : Exit → Act → World → Prop
  | .normal, a', w' => Φ a a' w'
  | _, _, _ => False
theorem region_mid {id : Nat} {ops : Array Oper} {Q : Exit → Act → World → Prop} {a : Act} {w : World} (Φ : Act → Act → World → Prop) (h : (Code.region id ops true).wp Try.prog (midPost Φ a) a w) (hk : ∀ a' w', Φ a a' w' → Q .normal a' w') : (Code.region id ops true).wp Try.prog Q a w :=
  Code.wp_mono (fun e a' w' hp => by cases e <;> first | exact hk a' w' hp | exact False.elim hp) h

set_option maxRecDepth 100000 in
set_option maxHeartbeats 4000000 in
theorem take_walk (A0 : Option Addr) (c0 : Nat) (l : List Int) (n : Int) (hn1 : -9223372036854775808 ≤ n) (hn2 : n ≤ 9223372036854775807) (w : World) (hC : (Kd.int .i64).C w A0 l.length l) (hc0 : l.length ≤ c0) :
    Calls Try.prog 4 #[.slice A0 l.length c0, .int .i64 n] w fun e w' => e = .returned (.bool true) ∧ Below w.heap.size w w' := by
  go_enter Try.func4, Try.ntmps4
  by_cases h100 : 100 < (l.length : Int)
  · go_wp2_with (go_at_call 7; refine (awake_calls _).mono ?_; rintro e w1 ⟨rfl, hb1⟩)
    go_ret
    exact ⟨rfl, hb1⟩
  · have hB0 : Boxed (w.alloc (.cells #[.int .i64 0] 3)) w.heap.size 3 (.int .i64 0) := Boxed.new w 3 _
    go_wp2_with (first | (go_at_call 13; refine (told_calls _ _ _ _ _).mono ?_; rintro e w3 ⟨rfl, hw3⟩) | (go_at_call 12; refine (take_calls _ _ _ _).mono ?_; rintro e w4 ⟨rfl, hw4⟩))
    have hl : l.length ≤ 1000 := by omega
    have hs3 : w3.heap.size = w.heap.size + 3 := by rw [← hw3]; simp
    have hs4 : w4.heap.size = w.heap.size + 5 := by rw [← hw4]; simp [hs3]
    have hA4 : Acts (fun _ => False) w w4 := by rw [← hw4, ← hw3]; exact ((((Acts.alloc _ _ _).trans (Acts.alloc _ _ _) (fun _ h => .inl h)).trans (Acts.alloc _ _ _) (fun _ h => .inl h)).trans (Acts.alloc _ _ _) (fun _ h => .inl h)).trans (Acts.alloc _ _ _) (fun _ h => .inl h)
    have hB4 : Boxed w4 w.heap.size 3 (.int .i64 0) := by rw [← hw4, ← hw3]; exact (((hB0.alloc _).alloc _).alloc _).alloc _
    have hTB : TB w.heap.size A0 c0 l n w4 := by
      refine ⟨?_, ?_, ?_, ?_, int_moves hC (fun k hk => hA4.same k (row_live hC k hk) id), fun k hk => row_live hC k hk⟩
      · rw [← hw4]; exact (Below.heap_alloc _ _ _ (by simp [hs3])).trans ((Below.heap_alloc _ _ _ (by omega)).trans (by rw [← hw3]; exact (Below.heap_alloc _ _ _ (by simp)).trans (by have := World.alloc_heap_new (w.alloc (.cells #[.int .i64 0] 3)) (.cells #[.slice A0 l.length c0] 22 (0, 0)); simpa using this)))
      · rw [← hw4]; exact (Below.heap_alloc _ _ _ (by simp [hs3])).trans ((Below.heap_alloc _ _ _ (by omega)).trans (by rw [← hw3]; have := World.alloc_heap_new ((w.alloc (.cells #[.int .i64 0] 3)).alloc (.cells #[.slice A0 l.length c0] 22 (0, 0))) (.cells #[.pointer (some ⟨w.heap.size, 0, none⟩)] 36 (0, 0)); simpa using this))
      · rw [← hw4]; exact (Below.heap_alloc _ _ _ (by simp [hs3])).trans (by have := World.alloc_heap_new w3 (.cells #[.func (.func 36) #[] #[.pointer (some ⟨w.heap.size + 1, 0, none⟩), .pointer (some ⟨w.heap.size + 2, 0, none⟩)]] 30 (0, 0)); rw [hs3] at this; simpa using this)
      · rw [← hw4]; have := World.alloc_heap_new (w3.alloc (.cells #[.func (.func 36) #[] #[.pointer (some ⟨w.heap.size + 1, 0, none⟩), .pointer (some ⟨w.heap.size + 2, 0, none⟩)]] 30 (0, 0))) (.cells #[.int .i64 n] 3 (0, 0)); rw [World.size_alloc, hs3] at this; simpa using this
    clear hw3 hw4
    rw [hs3]
    clear hs3
    have hTd : TB w.heap.size A0 c0 l n w4.drew := hTB.keep (fun _ _ _ => rfl)
    have hBd : Boxed w4.drew w.heap.size 3 (.int .i64 0) := hB4
    refine region_mid (fun a a' w' => ∃ u1 u2 u3 u4 u5 u6 u7 u8 u9 u10 u11 u12 u13 u14 u15 u16 u17 u18, a' = putAll a [(16, u1), (17, u2), (18, u3), (19, u4), (20, u5), (21, u6), (22, u7), (23, u8), (24, u9), (25, u10), (26, u11), (27, u12), (28, u13), (29, u14), (30, u15), (31, u16), (32, u17), (33, u18), (34, .bool false)] ∧ TB w.heap.size A0 c0 l n w' ∧ Below w.heap.size w w' ∧ Boxed w' w.heap.size 3 (.int .i64 (0 + ((l.take n.toNat).length : Int)))) ?_ ?_
    · have c4 := hB4.cell
      refine start_ (n := 19) (S := fun w' => True) (ds := []) #[false, false, false, false, false, false, false, false, false, false, false, false, false, false, false, false, false, false, false] (by kernel_rfl) rfl rfl trivial (fun hHeld => ?_)
      refine one_ (i := 0) (N := some 16) #[true, false, false, false, false, false, false, false, false, false, false, false, false, false, false, false, false, false, false] rfl rfl (by kernel_rfl) (by decide) (fun K hK => ?_)
      refine value_ (w1 := ?_) (v := ?_) (by rfl) rfl ?_ ?_
      rotate_left 2
      · go_simp
        constructor
        · rfl
        · rfl
      refine hK.out _ _ trivial (fun hHeld => ?_)
      clear hK K
      refine norm_ (a' := ?_) ?_ ?_
      rotate_left
      · show Act.put _ (some 16) _ = _
        simp only [Act.put, List.setIfInBounds_toArray, List.set_cons_zero, List.set_cons_succ]
        rfl
      refine pure_ (i := 1) (N := some 17) (v := ?_) (a' := ?_) #[true, true, false, false, false, false, false, false, false, false, false, false, false, false, false, false, false, false, false] rfl rfl (by kernel_rfl) (fun _ _ _ h => h) (Or.inl ⟨by rfl, ?_⟩) ?_ ?_
      rotate_left
      · intro w'
        go_simp
        with_reducible rfl
      rotate_left
      · simp only [Act.put, List.setIfInBounds_toArray, List.set_cons_zero, List.set_cons_succ]
        rfl
      refine pure_ (i := 2) (N := some 18) (v := ?_) (a' := ?_) #[true, true, true, false, false, false, false, false, false, false, false, false, false, false, false, false, false, false, false] rfl rfl (by kernel_rfl) (fun _ _ _ h => h) (Or.inl ⟨by rfl, ?_⟩) ?_ ?_
      rotate_left
      · intro w'
        go_simp
        with_reducible rfl
      rotate_left
      · simp only [Act.put, List.setIfInBounds_toArray, List.set_cons_zero, List.set_cons_succ]
        rfl
      refine pure_ (i := 3) (N := some 19) (v := ?_) (a' := ?_) #[true, true, true, true, false, false, false, false, false, false, false, false, false, false, false, false, false, false, false] rfl rfl (by kernel_rfl) (fun _ _ _ h => h) (Or.inl ⟨by rfl, ?_⟩) ?_ ?_
      rotate_left
      · intro w'
        go_simp
        with_reducible rfl
      rotate_left
      · simp only [Act.put, List.setIfInBounds_toArray, List.set_cons_zero, List.set_cons_succ]
        rfl
      refine pure_ (i := 5) (N := some 21) (v := ?_) (a' := ?_) #[true, true, true, true, false, true, false, false, false, false, false, false, false, false, false, false, false, false, false] rfl rfl (by kernel_rfl) (fun _ _ _ h => h) (Or.inl ⟨by rfl, ?_⟩) ?_ ?_
      rotate_left
      · intro w'
        go_simp
        with_reducible rfl
      rotate_left
      · simp only [Act.put, List.setIfInBounds_toArray, List.set_cons_zero, List.set_cons_succ]
        rfl
      refine pure_ (i := 6) (N := some 22) (v := ?_) (a' := ?_) #[true, true, true, true, false, true, true, false, false, false, false, false, false, false, false, false, false, false, false] rfl rfl (by kernel_rfl) (fun _ _ _ h => h) (Or.inl ⟨by rfl, ?_⟩) ?_ ?_
      rotate_left
      · intro w'
        go_simp
        with_reducible rfl
      rotate_left
      · simp only [Act.put, List.setIfInBounds_toArray, List.set_cons_zero, List.set_cons_succ]
        rfl
      refine one_ (i := 4) (N := some 20) #[true, true, true, true, true, true, true, false, false, false, false, false, false, false, false, false, false, false, false] rfl rfl (by kernel_rfl) (by decide) (fun K hK => ?_)
      refine goes_ Try.func14 (by kernel_rfl) rfl #[.func (.func 35) #[] #[.pointer (some ⟨w.heap.size + 4, 0, none⟩), .pointer (some ⟨w.heap.size + 3, 0, none⟩)], .int .i64 0] (by rfl) rfl rfl (by simp only [List.map_toArray, List.map_cons, List.map_nil]; rfl) ?_
      with_reducible refine (hTd.first hn1 hn2 0 ⟨by omega, by omega⟩ hBd hl).mono ?_
      rintro e w5 ⟨v1, rfl, ho5, hA5, hk5, hT5⟩
      refine ⟨_, rfl, ?_⟩
      refine hK.out _ _ trivial (fun hHeld => ?_)
      clear hK K
      refine norm_ (a' := ?_) ?_ ?_
      rotate_left
      · show Act.put _ (some 20) _ = _
        simp only [Act.put, List.setIfInBounds_toArray, List.set_cons_zero, List.set_cons_succ]
        rfl
      refine one_ (i := 7) (N := some 23) #[true, true, true, true, true, true, true, true, false, false, false, false, false, false, false, false, false, false, false] rfl rfl (by kernel_rfl) (by decide) (fun K hK => ?_)
      have hC5 := hT5.row
      refine goes_ Try.func15 (by kernel_rfl) rfl #[.slice A0 l.length c0, .int .i64 n] (by rfl) rfl rfl (by simp only [List.map_toArray, List.map_cons, List.map_nil]; rfl) ?_
      with_reducible refine (refTake_calls A0 c0 l n w5 hC5 hc0 hl).mono ?_
      rintro e w6 ⟨v2, rfl, ho6, hb6⟩
      refine ⟨_, rfl, ?_⟩
      refine hK.out _ _ trivial (fun hHeld => ?_)
      clear hK K
      refine norm_ (a' := ?_) ?_ ?_
      rotate_left
      · show Act.put _ (some 23) _ = _
        simp only [Act.put, List.setIfInBounds_toArray, List.set_cons_zero, List.set_cons_succ]
        rfl
      refine one_ (i := 8) (N := some 24) #[true, true, true, true, true, true, true, true, true, false, false, false, false, false, false, false, false, false, false] rfl rfl (by kernel_rfl) (by decide) (fun K hK => ?_)
      have ho56 := owns_keep ho5 (fun k e => hb6.block k (ho5.lt k e).2)
      refine goes_ Try.func11 (by kernel_rfl) rfl #[v1, v2] (by rfl) rfl rfl (by simp only [List.map_toArray, List.map_cons, List.map_nil]; rfl) ?_
      refine (same_own (by rw [List.length_take]; omega) ho56 ho6).mono ?_
      rintro e w7 ⟨rfl, ⟨nd, hd7⟩⟩
      refine ⟨_, rfl, ?_⟩
      subst hd7
      refine hK.out _ _ trivial (fun hHeld => ?_)
      clear hK K
      refine norm_ (a' := ?_) ?_ ?_
      rotate_left
      · show Act.put _ (some 24) _ = _
        simp only [Act.put, List.setIfInBounds_toArray, List.set_cons_zero, List.set_cons_succ]
        rfl
      refine pure_ (i := 9) (N := some 25) (v := ?_) (a' := ?_) #[true, true, true, true, true, true, true, true, true, true, false, false, false, false, false, false, false, false, false] rfl rfl (by kernel_rfl) (fun _ _ _ h => h) (Or.inl ⟨by rfl, ?_⟩) ?_ ?_
      rotate_left
      · intro w'
        go_simp
        with_reducible rfl
      rotate_left
      · simp only [Act.put, List.setIfInBounds_toArray, List.set_cons_zero, List.set_cons_succ]
        rfl
      refine pure_ (i := 10) (N := some 26) (v := ?_) (a' := ?_) #[true, true, true, true, true, true, true, true, true, true, true, false, false, false, false, false, false, false, false] rfl rfl (by kernel_rfl) (fun _ _ _ h => h) (Or.inl ⟨by rfl, ?_⟩) ?_ ?_
      rotate_left
      · intro w'
        go_simp
        with_reducible rfl
      rotate_left
      · simp only [Act.put, List.setIfInBounds_toArray, List.set_cons_zero, List.set_cons_succ]
        rfl
      refine pure_ (i := 11) (N := some 27) (v := ?_) (a' := ?_) #[true, true, true, true, true, true, true, true, true, true, true, true, false, false, false, false, false, false, false] rfl rfl (by kernel_rfl) (fun _ _ _ h => h) (Or.inl ⟨by rfl, ?_⟩) ?_ ?_
      rotate_left
      · intro w'
        go_simp
        with_reducible rfl
      rotate_left
      · simp only [Act.put, List.setIfInBounds_toArray, List.set_cons_zero, List.set_cons_succ]
        rfl
      refine pure_ (i := 13) (N := some 29) (v := ?_) (a' := ?_) #[true, true, true, true, true, true, true, true, true, true, true, true, false, true, false, false, false, false, false] rfl rfl (by kernel_rfl) (fun _ _ _ h => h) (Or.inl ⟨by rfl, ?_⟩) ?_ ?_
      rotate_left
      · intro w'
        go_simp
        with_reducible rfl
      rotate_left
      · simp only [Act.put, List.setIfInBounds_toArray, List.set_cons_zero, List.set_cons_succ]
        rfl
      refine pure_ (i := 14) (N := some 30) (v := ?_) (a' := ?_) #[true, true, true, true, true, true, true, true, true, true, true, true, false, true, true, false, false, false, false] rfl rfl (by kernel_rfl) (fun _ _ _ h => h) (Or.inl ⟨by rfl, ?_⟩) ?_ ?_
      rotate_left
      · intro w'
        go_simp
        with_reducible rfl
      rotate_left
      · simp only [Act.put, List.setIfInBounds_toArray, List.set_cons_zero, List.set_cons_succ]
        rfl
      refine switch_ (S' := fun w' : World => w'.cell? ⟨w.heap.size, 0, none⟩ = some (.int .i64 (0 + ((l.take n.toNat).length : Int)))) _ _ _ _ ?_
      have hHeld := Boxed.cell (t := 3) ((hb6.block w.heap.size hk5.lt).trans hk5)
      refine take_ (i := 12) (N := some 28) (v := ?_) (a' := ?_) #[true, true, true, true, true, true, true, true, true, true, true, true, true, true, true, false, false, false, false] rfl rfl (by kernel_rfl) (fun _ _ _ h => h) (Or.inl ⟨by rfl, ?_⟩) hHeld ?_ ?_
      rotate_left
      · intro w' s0
        go_simp
        with_reducible rfl
      rotate_left
      · simp only [Act.put, List.setIfInBounds_toArray, List.set_cons_zero, List.set_cons_succ]
        rfl
      refine one_ (i := 15) (N := some 31) #[true, true, true, true, true, true, true, true, true, true, true, true, true, true, true, true, false, false, false] rfl rfl (by kernel_rfl) (by decide) (fun K hK => ?_)
      have hT6 : TB w.heap.size A0 c0 l n (w6.drewN nd) := hT5.keep (fun k hk _ => hb6.block k (by have := hT5.lt (w.heap.size + 4) (.inl (.inl rfl)); omega))
      refine goes_ Try.func15 (by kernel_rfl) rfl #[.slice A0 l.length c0, .int .i64 n] (by rfl) rfl rfl (by simp only [List.map_toArray, List.map_cons, List.map_nil]; rfl) ?_
      with_reducible refine (refTake_calls A0 c0 l n _ hT6.row hc0 hl).mono ?_
      rintro e w8 ⟨v3, rfl, ho8, hb8⟩
      refine ⟨_, rfl, ?_⟩
      obtain ⟨A8, c8, rfl, _, _⟩ := Kd.R_reads (Kd.R_of_own (enc := Value.int .i64) (h1 := fun _ => rfl) (ok := fun _ => True) ho8 (fun _ _ => trivial))
      refine hK.out _ _ (Boxed.cell (t := 3) ((hb8.block w.heap.size (by have := hb6.size; have := hk5.lt; show _ < w6.heap.size; omega)).trans ((hb6.block w.heap.size hk5.lt).trans hk5))) (fun hHeld => ?_)
      clear hK K
      refine norm_ (a' := ?_) ?_ ?_
      rotate_left
      · show Act.put _ (some 31) _ = _
        simp only [Act.put, List.setIfInBounds_toArray, List.set_cons_zero, List.set_cons_succ]
        rfl
      refine pure_ (i := 16) (N := some 32) (v := ?_) (a' := ?_) #[true, true, true, true, true, true, true, true, true, true, true, true, true, true, true, true, true, false, false] rfl rfl (by kernel_rfl) (fun _ _ _ h => h) (Or.inl ⟨by rfl, ?_⟩) ?_ ?_
      rotate_left
      · intro w'
        go_simp
        with_reducible rfl
      rotate_left
      · simp only [Act.put, List.setIfInBounds_toArray, List.set_cons_zero, List.set_cons_succ]
        rfl
      refine pure_ (i := 17) (N := some 33) (v := ?_) (a' := ?_) #[true, true, true, true, true, true, true, true, true, true, true, true, true, true, true, true, true, true, false] rfl rfl (by kernel_rfl) (fun _ _ _ h => h) (Or.inl ⟨by rfl, ?_⟩) ?_ ?_
      rotate_left
      · intro w'
        go_simp
        with_reducible rfl
      rotate_left
      · simp only [Act.put, List.setIfInBounds_toArray, List.set_cons_zero, List.set_cons_succ]
        rfl
      refine pure_ (i := 18) (N := some 34) (v := ?_) (a' := ?_) #[true, true, true, true, true, true, true, true, true, true, true, true, true, true, true, true, true, true, true] rfl rfl (by kernel_rfl) (fun _ _ _ h => h) (Or.inl ⟨by rfl, ?_⟩) ?_ ?_
      rotate_left
      · intro w'
        go_simp
        with_reducible rfl
      rotate_left
      · simp only [Act.put, List.setIfInBounds_toArray, List.set_cons_zero, List.set_cons_succ]
        rfl
      refine done_ (by kernel_rfl) ?_
      refine ⟨_, _, _, _, _, _, _, _, _, _, _, _, _, _, _, _, _, _, by simp only [putAll, Act.put, List.setIfInBounds_toArray, List.set_cons_zero, List.set_cons_succ]; rfl, ?_, ?_, ?_⟩
      · exact hT6.keep (fun k hk _ => hb8.block k (by have := hT6.lt (w.heap.size + 4) (.inl (.inl rfl)); omega))
      · have z5 := hA5.size
        have z6 := hb6.size
        have hz4 : w4.drew.heap.size = w4.heap.size := rfl
        have k4 : Below w.heap.size w w4 := hA4.below (Nat.le_refl _) (fun _ _ h => h)
        have k5 : Below w.heap.size w4.drew w5 := hA5.below (by omega) (fun k hk e => by omega)
        have k6 : Below w.heap.size w5 w6 := hb6.mono (by omega)
        have k7 : Below w.heap.size w6 (w6.drewN nd) := pw_below_drewN (Below.refl _ _) _
        have k8 : Below w.heap.size (w6.drewN nd) w8 := hb8.mono (by show _ ≤ w6.heap.size; omega)
        exact (((k4.trans (below_drew (Below.refl _ _))).trans k5).trans (k6.trans k7)).trans k8
      · exact (hb8.block w.heap.size (by have := hb6.size; have := hk5.lt; show _ < w6.heap.size; omega)).trans ((hb6.block w.heap.size hk5.lt).trans hk5)
    · rintro a' w8 ⟨u1, u2, u3, u4, u5, u6, u7, u8, u9, u10, u11, u12, u13, u14, u15, u16, u17, u18, rfl, hT8, hb8, hk8⟩
      simp only [putAll, Act.put, List.setIfInBounds_toArray, List.set_cons_zero, List.set_cons_succ]
      have hb0 : (0 : Int) ≤ 0 + ((l.take n.toNat).length : Int) ∧ 0 + ((l.take n.toNat).length : Int) ≤ 1000 := by rw [List.length_take]; omega
      have hlt : (l.take n.toNat).length ≤ 1000 := by rw [List.length_take]; omega
      have hld : (l.drop n.toNat).length ≤ 1000 := by rw [List.length_drop]; omega
      clear hC hB0 hTB hTd hBd
      go_wp2_with (first
        | (go_at_call 14; refine (hT8.first hn1 hn2 _ hb0 hk8 hl).mono ?_; rintro e w9 ⟨v4, rfl, ho9, hA9, hk9, hT9⟩)
        | (go_at_call 15; refine (refTake_calls A0 c0 l n w9 hT9.row hc0 hl).mono ?_; rintro e w10 ⟨v5, rfl, ho10, hb10⟩; have ho9' := owns_keep ho9 (fun k e => hb10.block k (ho9.lt k e).2))
        | (go_at_call 11; refine (same_own hld ho14' ho15).mono ?_; rintro e w16 ⟨rfl, ⟨nd', hd16⟩⟩)
        | (go_at_call 11; refine (same_own hlt ho9' ho10).mono ?_; rintro e w11 ⟨rfl, ⟨nd, hd11⟩⟩; subst hd11; have hC11 : (Kd.int .i64).C (w10.drewN nd) A0 l.length l := int_moves hT9.row (fun k hk => hb10.block k (row_live hT9.row k hk)))
        | (go_at_call 10; refine (of_calls _ _ _ _).mono ?_; rintro e w12 ⟨rfl, hw12⟩)
        | (go_at_call 17; refine (skip_calls _ _ _ _).mono ?_; rintro e w13 ⟨rfl, hw13⟩)
        | (go_at_call 16; refine (skip_of A0 c0 l n hn1 hn2 hl (w10.drewN nd) w12 w13 hC11 hw12 hw13).mono ?_; rintro e w14 ⟨v6, rfl, ho14, hb14, hb14', hC14⟩)
        | (go_at_call 18; refine (refSkip_calls A0 c0 l n w14 hC14 hc0 hl).mono ?_; rintro e w15 ⟨v7, rfl, ho15, hb15⟩; have ho14' := owns_keep ho14 (fun k e => hb15.block k (ho14.lt k e).2))
        | (go_at_call 7; refine (awake_calls _).mono ?_; rintro e w17 ⟨rfl, hb17⟩))
      go_ret
      refine ⟨rfl, ?_⟩
      have z0 := hb8.size
      have z9 := hA9.size
      have z10 := hb10.size
      have z14 := hb14'.size
      have z15 := hb15.size
      have e10 : (w10.drewN nd).heap.size = w10.heap.size := rfl
      have e16 : w16.heap.size = w15.heap.size := by rw [hd16]; rfl
      have k9 : Below w.heap.size w8 w9 := hA9.below (by omega) (fun k hk e => by omega)
      have k10 : Below w.heap.size w9 (w10.drewN nd) := pw_below_drewN (hb10.mono (by omega)) _
      have k14 : Below w.heap.size (w10.drewN nd) w14 := hb14'.mono (by omega)
      have k15 : Below w.heap.size w14 w15 := hb15.mono (by omega)
      have k16 : Below w.heap.size w14 (w15.drewN nd') := pw_below_drewN k15 _
      have e16' : (w15.drewN nd').heap.size = w15.heap.size := rfl
      have k17 : Below w.heap.size (w15.drewN nd') w17 := hb17.mono (by omega)
      exact ((((hb8.trans k9).trans k10).trans k14).trans k16).trans k17

/-- THE LAW's WALK, as its row asks it. -/
theorem rowsTake_walk (a0 : Option Addr) (len0 cap0 : Nat) (z0 : List Int) (a1 : Int) (w : World)
    (w0 : (a0 = none ∧ len0 = 0 ∧ cap0 = 0 ∧ z0 = []) ∨ ∃ x, a0 = some x ∧ len0 ≤ cap0 ∧ cap0 ≤ maxLen ∧ z0.length = cap0 ∧ (∀ i, i < z0.length → w.cell? (x.add i) = some (.int .i64 (z0.getD i 0))) ∧ ∀ n ∈ z0, (Lit.int .i64 n).wf = true)
    (y0 : len0 * 8 ≤ 140737488351232) (w1 : (Lit.int .i64 a1).wf = true) :
    Calls Try.prog 4 #[.slice a0 len0 cap0, .int .i64 a1] w fun e w' => e = .returned (.bool true) ∧ Below w.heap.size w w' := by
  obtain ⟨l0, rfl, hr0, hm0, hw0, hc0⟩ := ReadsInt.ofRowC w0
  have b1 := bounds_i64 w1
  exact take_walk a0 cap0 l0 a1 b1.1 b1.2 w (Kd.C_of_reads (d := (0 : Int)) (h1 := fun _ => rfl) hr0) hc0
end Go.Proofs.Ytncnnbfejomkoaa.Rows14
