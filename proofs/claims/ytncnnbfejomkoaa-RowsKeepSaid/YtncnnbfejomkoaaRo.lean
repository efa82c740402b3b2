/- RowsKeep: its rows, gathered. -/
import Derived.Test.YtncnnbfejomkoaaRm
import Derived.Test.YtncnnbfejomkoaaRl
namespace Go.Proofs.Ytncnnbfejomkoaa.Rows14
open Go.RowKit Go.Shelf Go.Proofs.YtncnnbfejomkoaaW.PrintWords Go.Proofs.YtncnnbfejomkoaaW.PrintLast Go.Proofs.YtncnnbfejomkoaaW.PrintMore Go.Proofs.Ytncnnbfejomkoaa.Iter
set_option linter.unusedVariables false
set_option linter.unusedSimpArgs false
attribute [local go_sem] Oper.semAt_some

theorem Asks.at {g : Nat} {lb : Array Value} {f : Int → Value} {D : Nat → Prop} {w W : World} (h : Asks g lb f D w) (hk : ∀ k, D k → W.heap[k]? = w.heap[k]?) : Asks g lb f D W :=
  fun W' x hx => h W' x (fun k hd => (hx k hd).trans (hk k hd))
section
variable {B : Nat} {A0 : Option Addr} {c0 : Nat} {l : List Int} {w3 W : World} {p : Int → Bool} {lp : Array Value}
/-- first(rows.While(told(l, &asked), is), 0). -/
theorem keep_while (h : TT B A0 c0 l w3) (hl : l.length ≤ 100) (hP : Asks 19 lp (fun x => .bool (p x)) (fun k => k < B) W) (hW : (w3.alloc (.cells #[.func (.func 36) #[] #[.pointer (some ⟨B + 1, 0, none⟩), .pointer (some ⟨B + 2, 0, none⟩)]] 30)).alloc (.cells #[.func (.func 19) #[] lp] 41) = W) :
    Calls Try.prog 14 #[.func (.func 39) #[] #[.pointer (some ⟨w3.heap.size, 0, none⟩), .pointer (some ⟨w3.heap.size + 1, 0, none⟩)], .int .i64 0] W fun e w' => ∃ v, e = .returned v ∧ w'.ownsRow W.heap.size 3 1 v (l.takeWhile p).length ((l.takeWhile p).map (Value.int .i64)) ∧ Acts (fun k => k = B) W w' ∧ Boxed w' B 3 (.int .i64 (0 + ((min ((l.takeWhile p).length + 1) l.length : Nat) : Int))) := by
  have hT := h.two hW
  obtain ⟨b1, b2, hA, hsz⟩ := al2 hW
  have hB := (h.lt B (.inr rfl)).1
  have hG := while_gives w3.heap.size (w3.heap.size + 1) 36 _ 19 lp p l _ (fun k => k = B) (fun k => k < B) (TK B) W b1 b2 ⟨by omega, fun k hk e => by omega⟩ (fun k hk => by omega) enters36 enters19 (fun k hk => (hT.lt k hk).1) TK_keep (hT.gives (by omega)) hP
  have htl : (l.takeWhile p).length ≤ l.length := (List.takeWhile_prefix p).length_le
  refine (first_calls 39 _ (l.takeWhile p) (by omega) _ (fun k => k = B) _ _ 0 W enters39 (fun k hk => ?_) (TK_keep _) (fun pre => TK_keep _) hG).mono ?_
  · rcases hk with (h' | h' | h' | h') | h'
    · omega
    · omega
    · exact (hT.lt k (.inl h')).1
    · omega
    · omega
  · rintro e w' ⟨v, rfl, h1, h2, h3⟩
    have hf : firstOf 0 (l.takeWhile p) = l.takeWhile p := by unfold firstOf; rw [if_neg (by omega)]
    rw [hf] at h1
    exact ⟨v, rfl, h1, h2, h3.2 (by omega)⟩
end
section
variable {A0 : Option Addr} {c0 : Nat} {l : List Int} {W w12 w13 : World} {p : Int → Bool} {g : Nat} {lp : Array Value} {N : Nat}
theorem over_of (hw12 : W.alloc (.cells #[.slice A0 l.length c0] 22) = w12) (hC : (Kd.int .i64).C W A0 l.length l) (hw13 : (w12.alloc (.cells #[.func (.func 45) #[] #[.pointer (some ⟨W.heap.size, 0, none⟩)]] 30)).alloc (.cells #[.func (.func g) #[] lp] 41) = w13) :
    w12.heap.size = W.heap.size + 1 ∧ w13.heap.size = W.heap.size + 3 ∧ Acts (fun _ => False) W w13 ∧ w13.heap[W.heap.size]? = some (.cells #[.slice A0 l.length c0] 22 (0, 0)) ∧ w13.heap[w12.heap.size]? = some (.cells #[.func (.func 45) #[] #[.pointer (some ⟨W.heap.size, 0, none⟩)]] 30 (0, 0)) ∧ w13.heap[w12.heap.size + 1]? = some (.cells #[.func (.func g) #[] lp] 41 (0, 0)) ∧ (Kd.int .i64).C w13 A0 l.length l := by
  obtain ⟨b1, b2, hA, hs⟩ := al2 hw13
  have hs12 : w12.heap.size = W.heap.size + 1 := by rw [← hw12]; simp
  have hA13 : Acts (fun _ => False) W w13 := (by rw [← hw12]; exact Acts.alloc _ _ _ : Acts (fun _ => False) W w12).trans hA (fun _ h => .inl h)
  refine ⟨hs12, by omega, hA13, (hA.same _ (by omega) id).trans (by rw [← hw12]; exact World.alloc_heap_new W _), b1, b2, int_moves hC (fun k hk => hA13.same k (row_live hC k hk) id)⟩
/-- rows.Collect(rows.Keep(rows.Of(l), is)). -/
theorem keep_of (hl : l.length ≤ 100) (hC : (Kd.int .i64).C W A0 l.length l) (hN : N ≤ W.heap.size) (hP : Asks 19 lp (fun x => .bool (p x)) (fun k => k < N) W)
    (hw12 : W.alloc (.cells #[.slice A0 l.length c0] 22) = w12) (hw13 : (w12.alloc (.cells #[.func (.func 45) #[] #[.pointer (some ⟨W.heap.size, 0, none⟩)]] 30)).alloc (.cells #[.func (.func 19) #[] lp] 41) = w13) :
    Calls Try.prog 16 #[.func (.func 42) #[] #[.pointer (some ⟨w12.heap.size, 0, none⟩), .pointer (some ⟨w12.heap.size + 1, 0, none⟩)]] w13 fun e w' => ∃ v, e = .returned v ∧ w'.ownsRow w13.heap.size 3 1 v (l.filter p).length ((l.filter p).map (Value.int .i64)) ∧ Below W.heap.size W w' := by
  obtain ⟨hs12, hs13, hA13, hBs, hBv, hBf, hC13⟩ := over_of hw12 hC hw13
  have hP13 : Asks 19 lp (fun x => .bool (p x)) (fun k => k < N) w13 := hP.at (fun k hk => hA13.same k (by omega) id)
  have hG := keep_gives w12.heap.size (w12.heap.size + 1) 45 _ 19 lp p l _ (fun _ => False) (fun k => k < N) (fun _ _ => True) w13 hBv hBf ⟨id, fun _ _ => id⟩ (fun k hk => by omega) enters45 enters19
    (fun k hk => by
      rcases hk with (h | h) | h
      · omega
      · exact row_live hC13 k h
      · exact h.elim) (fun _ _ _ _ _ => trivial) (values_gives W.heap.size A0 c0 l w13 hBs hC13) hP13
  refine (collect_calls 42 _ (l.filter p) (by have := List.length_filter_le p l; omega) _ (fun _ => False) _ _ w13 enters42
    (fun k hk => by
      rcases hk with (h | h | (h | h) | h) | h
      · omega
      · omega
      · omega
      · exact row_live hC13 k h
      · omega
      · exact h.elim) (fun _ _ _ _ => trivial) (fun pre W W' h _ => h) hG).mono ?_
  rintro e w' ⟨v, rfl, h1, h2, _⟩
  have hb : Below w13.heap.size w13 w' := h2.below (Nat.le_refl _) (fun _ _ h => h)
  exact ⟨v, rfl, h1, (hA13.below (Nat.le_refl _) (fun _ _ h => h)).trans (hb.mono (by omega))⟩
/-- rows.Collect(rows.Map(rows.Of(l), is)). -/
theorem map_of (Dp : Nat → Prop) (hl : l.length ≤ 100) (hC : (Kd.int .i64).C W A0 l.length l) (hDp : ∀ k, Dp k → k < W.heap.size) (hP : Asks 25 lp (fun x => .bool (p x)) Dp W)
    (hw12 : W.alloc (.cells #[.slice A0 l.length c0] 22) = w12) (hw13 : (w12.alloc (.cells #[.func (.func 45) #[] #[.pointer (some ⟨W.heap.size, 0, none⟩)]] 30)).alloc (.cells #[.func (.func 25) #[] lp] 41) = w13) :
    Calls Try.prog 23 #[.func (.func 41) #[] #[.pointer (some ⟨w12.heap.size, 0, none⟩), .pointer (some ⟨w12.heap.size + 1, 0, none⟩)]] w13 fun e w' => ∃ v, e = .returned v ∧ w'.ownsRow w13.heap.size 4 1 v (l.map p).length ((l.map p).map Value.bool) ∧ Below W.heap.size W w' := by
  obtain ⟨hs12, hs13, hA13, hBs, hBv, hBf, hC13⟩ := over_of hw12 hC hw13
  have hP13 : Asks 25 lp (fun x => .bool (p x)) Dp w13 := hP.at (fun k hk => hA13.same k (hDp k hk) id)
  have hG := mapb_gives w12.heap.size (w12.heap.size + 1) 45 _ 25 lp p l _ (fun _ => False) Dp (fun _ _ => True) w13 hBv hBf ⟨id, fun _ _ => id⟩ (fun k hk => by have := hDp k hk; omega) enters45 enters25
    (fun k hk => by
      rcases hk with (h | h) | h
      · omega
      · exact row_live hC13 k h
      · exact h.elim) (fun _ _ _ _ _ => trivial) (values_gives W.heap.size A0 c0 l w13 hBs hC13) hP13
  refine (collectb_calls 41 _ (l.map p) (by rw [List.length_map]; omega) _ (fun _ => False) _ _ w13 enters41
    (fun k hk => by
      rcases hk with (h | h | (h | h) | h) | h
      · omega
      · omega
      · omega
      · exact row_live hC13 k h
      · have := hDp k h; omega
      · exact h.elim) (fun _ _ _ _ => trivial) (fun pre W W' h _ => h) hG).mono ?_
  rintro e w' ⟨v, rfl, h1, h2, _⟩
  have hb : Below w13.heap.size w13 w' := h2.below (Nat.le_refl _) (fun _ _ h => h)
  exact ⟨v, rfl, h1, (hA13.below (Nat.le_refl _) (fun _ _ h => h)).trans (hb.mono (by omega))⟩
end
end Go.Proofs.Ytncnnbfejomkoaa.Rows14
