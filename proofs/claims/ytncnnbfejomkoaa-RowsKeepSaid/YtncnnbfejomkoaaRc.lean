/- rows.Count, rows.Chunk, awake. -/
import Derived.Test.YtncnnbfejomkoaaRb
namespace Go.Proofs.Ytncnnbfejomkoaa.Rows14
open Go.RowKit Go.Shelf Go.Proofs.YtncnnbfejomkoaaW.PrintWords Go.Proofs.YtncnnbfejomkoaaW.PrintLast Go.Proofs.YtncnnbfejomkoaaW.PrintMore Go.Proofs.Ytncnnbfejomkoaa.Iter
set_option linter.unusedVariables false
set_option linter.unusedSimpArgs false
attribute [local go_sem] Oper.semAt_some

/-- One box holds what a function of what came says. -/
def BoxI {α : Type} (B : Nat) (t : TypeId) (f : List α → Value) (pre : List α) (C : Nat → Prop) (W : World) : Prop := Boxed W B t (f pre) ∧ ∀ k, C k ↔ k = B
theorem boxI_frames {α : Type} (B : Nat) (t : TypeId) (f : List α → Value) : Frames (BoxI B t f) :=
  ⟨fun s C W W' ⟨h, hc⟩ hz hk => ⟨(hk B ((hc B).2 rfl)).trans h, hc⟩, fun s C W ⟨h, hc⟩ k hk => by rw [(hc k).1 hk]; exact h.lt⟩
theorem below_put {n d : Nat} {W : World} {o : Obj} (hd : n ≤ d) (hn : n ≤ W.heap.size) : Below n W (W.putObj d o) := ⟨rfl, rfl, rfl, by simp, fun k hk => World.putObj_heap_other (by omega)⟩

set_option maxRecDepth 100000 in
set_option maxHeartbeats 2000000 in
theorem count_calls (gf : Nat) (lb : Array Value) (xs : List Int) (hlen : xs.length ≤ 1000) (D : Nat → Prop) (w : World)
    (eg : ∀ args w, (callFunc gf args).run Try.prog w = .ok (.enter gf args) w) (hDl : ∀ k, D k → k < w.heap.size)
    (hG : Gives Try.prog gf lb (Plain fun x : Int => #[.int .i64 x]) xs D (fun _ => False) (fun _ => True) (fun _ _ => True) w) :
    Calls Try.prog 32 #[.func (.func gf) #[] lb] w fun e w' => e = .returned (.int .i64 xs.length) ∧ Below w.heap.size w w' := by
  refine (callsIn_wide (n := 0)).1 (callsIn_of_wp_marks Try.func32 rfl trivial ?_)
  simp only [Try.ntmps32, List.size_toArray, List.length_cons, List.length_nil, Nat.reduceAdd, Nat.reduceSub, Array.replicate_succ, Array.replicate_zero, List.push_toArray, List.append_toArray, List.nil_append, List.cons_append]
  gi_wp2
  obtain ⟨W1, hW1⟩ : ∃ W1, w.alloc (.cells #[.int .i64 0] 3) = W1 := ⟨_, rfl⟩
  have hs1 : W1.heap.size = w.heap.size + 1 := by rw [← hW1]; simp
  have hA1 : ∀ F, Acts F w W1 := fun F => by rw [← hW1]; exact Acts.alloc F w _
  have hB : Boxed W1 w.heap.size 3 (.int .i64 0) := by rw [← hW1]; exact Boxed.new w 3 _
  rw [hW1]
  clear hW1
  refine (wpIn_wide (n := 0)).2 (wp_range (gf := gf) (lb := lb) rfl eg hG (fun x args F W h => by rw [h.1]; rfl) (by omega) (fun k hk => hk.elim (fun hk => (hA1 (fun _ => False)).same k (hDl k hk) (fun h => h)) False.elim) (fun k hk => hk.elim (hDl k) False.elim) (fun _ _ h _ => h) (fun _ _ _ h _ => h)
    (BoxI w.heap.size 3 (fun pre : List Int => .int .i64 pre.length)) (fun _ _ _ _ => False) (boxI_frames _ _ _) (fun _ => frames_false) (fun k => k = w.heap.size) ⟨hB, fun _ => Iff.rfl⟩
    (fun k hk h => hk.elim (fun hk => by have := hDl k hk; omega) False.elim)
    (fun pre x a₁ C' W' => a₁ = { tmps := #[.func (.func gf) #[] lb, undef, .int .i64 0, .pointer (some ⟨w.heap.size, 0, none⟩), .func (.func gf) #[] lb, .int .i64 x, undef, undef, undef], defers := [] } ∧ BoxI w.heap.size 3 (fun pre : List Int => .int .i64 pre.length) pre C' W')
    (fun pre x a₁ => ⟨fun s C' A B h hz hk => ⟨h.1, (boxI_frames _ _ _).keep _ _ _ _ h.2 hz hk⟩, fun s C' A h => (boxI_frames _ _ _).live _ _ _ h.2⟩) ?_ ?_ ?_ ?_)
  · intro l2 pre x args F C1 W2 hs2 hpre hI hH hFC hFn hA hM
    obtain ⟨rfl, hF⟩ := hH
    gi_wp2
    exact ⟨C1, Acts.refl _ _, fun k h => .inl (.inl h), by simp, hI⟩
  · rintro l2 pre x a₁ C1 W2 hs2 hpre ⟨rfl, hb, hC⟩ hA hM
    have c3 := hb.cell
    have f3 := hb.frozen
    have hx1 : pre.length + 1 ≤ xs.length := by have := hpre.length_le; simpa using this
    gi_wp2
    exact ⟨C1, Acts.setCell _ _ _ _ ((hC _).2 rfl), fun k h => .inl h, by show Boxed _ _ _ (Value.int .i64 ((pre ++ [x]).length : Int)); rw [show ((pre ++ [x]).length : Int) = (pre.length : Int) + 1 from by simp]; exact hb.set _, hC⟩
  · rintro d C' W2 hd hdC hA hM ⟨hb, hC⟩ _ hK
    have c3 := hb.cell
    gi_wp2
    refine leave_mark1 rfl hK ⟨rfl, ?_⟩
    have hz := hA.size
    exact ((((hA1 (fun _ => False)).trans hA (fun j hj => .inr (by rcases hj with h | h; (· omega); exact h.elim))).below (Nat.le_refl _) (fun k _ h => h)).trans (below_put (by omega) (by omega)))
  · rintro d c pre C' W2 hd hdC hA hM hpre h
    exact h.elim

theorem chunk_calls (g : Nat) (lb : Array Value) (n : Int) (w : World) :
    Calls Try.prog 9 #[.func (.func g) #[] lb, .int .i64 n] w fun e w' => e = .returned (.func (.func 33) #[] #[.pointer (some ⟨w.heap.size + 1, 0, none⟩), .pointer (some ⟨w.heap.size, 0, none⟩)]) ∧ (w.alloc (.cells #[.func (.func g) #[] lb] 30)).alloc (.cells #[.int .i64 n] 3) = w' := by
  go_enter Try.func9, Try.ntmps9
  go_wp2
  go_ret
  exact ⟨by simp, rfl⟩

theorem C_of_own {w : World} {base n c : Nat} {A : Option Addr} {xs : List Int} (h : w.ownsRow base 3 1 (.slice A n c) xs.length (xs.map (Value.int .i64))) : n = xs.length ∧ n ≤ c ∧ (Kd.int .i64).C w A xs.length xs :=
  Kd.R_reads' (Kd.R_of_own (enc := Value.int .i64) (h1 := fun _ => rfl) (ok := fun _ => True) h (fun _ _ => trivial))
theorem enters33 : ∀ args w, (callFunc 33 args).run Try.prog w = .ok (.enter 33 args) w := enters_of Try.func33 (by kernel_rfl) rfl
theorem enters45 : ∀ args w, (callFunc 45 args).run Try.prog w = .ok (.enter 45 args) w := enters_of Try.func45 (by kernel_rfl) rfl
theorem und27 : Try.prog.underlying 27 = some (.func #[54] #[] false) := by kernel_rfl
theorem run_equal_func (d : Nat) (t : TypeId) {ps rs : Array TypeId} {v : Bool} (ht : Try.prog.underlying t = some (.func ps rs v)) (f : Fn) (ts lb : Array Value) (w : World) : (Op.equalIn (d + 1) t (.func f ts lb) .nilFunc).run Try.prog w = .ok false w := by
  have h := run_underlying ht w
  unfold Op.equalIn
  simp only [Sem.run_bind, h, Result.andThen_ok, Sem.run_pure]
theorem run_nil_func (t : TypeId) {ps rs : Array TypeId} {v : Bool} (ht : Try.prog.underlying t = some (.func ps rs v)) (f : Fn) (ts lb : Array Value) (w : World) : (binOp BinOp.eql t (.func f ts lb) .nilFunc).run Try.prog w = .ok (.bool false) w := by
  have h := run_equal_func 9999 t ht f ts lb w
  unfold binOp
  simp only [Sem.run_bind, Sem.run_pure]
  rw [show Op.equal t (.func f ts lb) .nilFunc = Op.equalIn (9999 + 1) t (.func f ts lb) .nilFunc from rfl, h]
  rfl

def awakeF (pre : List (List Int)) : Int := pre.foldl (fun n l => wrap64 (wrap64 (n * 10) + l.length)) 0
theorem awakeF_snoc (pre : List (List Int)) (x : List Int) : awakeF (pre ++ [x]) = wrap64 (wrap64 (awakeF pre * 10) + x.length) := by simp [awakeF]
theorem awakeF_all : awakeF (chunksOf 2 [1, 2, 3]) = 21 := by simp [awakeF, chunksOf, chRun, chStep, wrap64, IntKind.wrap]
set_option maxRecDepth 100000 in
set_option maxHeartbeats 2000000 in
theorem awake_calls (w : World) : Calls Try.prog 7 #[] w fun e w' => e = .returned (.bool true) ∧ Below w.heap.size w w' := by
  refine (callsIn_wide (n := 0)).1 (callsIn_of_wp_marks Try.func7 rfl trivial ?_)
  simp only [Try.ntmps7, List.size_toArray, List.length_cons, List.length_nil, Nat.reduceAdd, Nat.reduceSub, Array.replicate_succ, Array.replicate_zero, List.push_toArray, List.append_toArray, List.nil_append, List.cons_append]
  gi_wp2
  refine ⟨trivial, rfl, (callsIn_wide.2 (of_calls _ _ _ _)).mono ?_⟩
  rintro e w2 ⟨rfl, hw2⟩
  gi_wp2
  refine ⟨trivial, rfl, (callsIn_wide.2 (chunk_calls _ _ _ _)).mono ?_⟩
  rintro e W1 ⟨rfl, hW1⟩
  have hs2 : w2.heap.size = w.heap.size + 3 := by rw [← hw2]; simp
  have hs1 : W1.heap.size = w.heap.size + 5 := by rw [← hW1]; simp [hs2]
  have hB : Boxed W1 w.heap.size 3 (.int .i64 0) := by
    rw [← hW1, ← hw2]; exact ((((Boxed.new w 3 _).alloc _).alloc _).alloc _).alloc _
  have hA1 : Acts (fun _ => False) w W1 := by rw [← hW1, ← hw2]; exact ((((Acts.alloc _ _ _).trans (Acts.alloc _ _ _) (fun _ h => .inl h)).trans (Acts.alloc _ _ _) (fun _ h => .inl h)).trans (Acts.alloc _ _ _) (fun _ h => .inl h)).trans (Acts.alloc _ _ _) (fun _ h => .inl h)
  have hR1 : W1.heap[w.heap.size + 1]? = some (.cells #[.int .i64 1, .int .i64 2, .int .i64 3] 3 (0, 0)) := by
    rw [← hW1, ← hw2]
    exact (Below.heap_alloc _ _ _ (by simp)).trans ((Below.heap_alloc _ _ _ (by simp)).trans ((Below.heap_alloc _ _ _ (by simp)).trans (by have := World.alloc_heap_new (w.alloc (.cells #[.int .i64 0] 3)) (.cells #[.int .i64 1, .int .i64 2, .int .i64 3] 3 (0, 0)); rwa [World.size_alloc] at this)))
  have hnil := run_nil_func 27 und27 (.func 33) #[] #[.pointer (some ⟨w.heap.size + 3 + 1, 0, none⟩), .pointer (some ⟨w.heap.size + 3, 0, none⟩)] W1
  have hBv : W1.heap[w.heap.size + 3]? = some (.cells #[.func (.func 45) #[] #[.pointer (some ⟨w.heap.size + 1 + 1, 0, none⟩)]] 30 (0, 0)) := by
    rw [← hW1]; exact (Below.heap_alloc _ _ _ (by simp [hs2])).trans (by have := World.alloc_heap_new w2 (.cells #[.func (.func 45) #[] #[.pointer (some ⟨w.heap.size + 1 + 1, 0, none⟩)]] 30 (0, 0)); rw [hs2] at this; simpa using this)
  have hBn : W1.heap[w.heap.size + 3 + 1]? = some (.cells #[.int .i64 2] 3 (0, 0)) := by
    rw [← hW1]; have := World.alloc_heap_new (w2.alloc (.cells #[.func (.func 45) #[] #[.pointer (some ⟨w.heap.size + 1 + 1, 0, none⟩)]] 30 (0, 0))) (.cells #[.int .i64 2] 3 (0, 0)); rw [World.size_alloc, hs2] at this; simpa using this
  have hBs : W1.heap[w.heap.size + 1 + 1]? = some (.cells #[.slice (some ⟨w.heap.size + 1, 0, none⟩) 3 3] 22 (0, 0)) := by
    rw [← hW1]; exact (Below.heap_alloc _ _ _ (by simp [hs2])).trans ((Below.heap_alloc _ _ _ (by simp [hs2])).trans (by rw [← hw2]; have := World.alloc_heap_new ((w.alloc (.cells #[.int .i64 0] 3)).alloc (.cells #[.int .i64 1, .int .i64 2, .int .i64 3] 3)) (.cells #[.slice (some ⟨w.heap.size + 1, 0, none⟩) 3 3] 22 (0, 0)); simpa using this))
  have hrow : W1.ownsRow 0 3 1 (.slice (some ⟨w.heap.size + 1, 0, none⟩) 3 3) 3 [.int .i64 1, .int .i64 2, .int .i64 3] := ⟨rfl, .inr ⟨_, 3, _, rfl, Nat.zero_le _, hR1, by decide, by decide, rfl, rfl⟩⟩
  have hC : (Kd.int .i64).C W1 (some ⟨w.heap.size + 1, 0, none⟩) 3 [1, 2, 3] := (C_of_own (xs := [1, 2, 3]) hrow).2.2
  have hG1 := values_gives (w.heap.size + 1 + 1) (some ⟨w.heap.size + 1, 0, none⟩) 3 [1, 2, 3] W1 hBs hC
  have hDl1 : ∀ k, (k = w.heap.size + 1 + 1 ∨ rowOf (some ⟨w.heap.size + 1, 0, none⟩) [1, 2, 3].length k) → w.heap.size < k ∧ k < W1.heap.size := by
    rintro k (rfl | ⟨_, ad, e, rfl⟩)
    · omega
    · cases e; simp only []; omega
  have hG := chunk_gives (w.heap.size + 3 + 1) (w.heap.size + 3) 2 (by omega) (by omega) 45 _ [1, 2, 3] (by simp) _ W1 hBn hBv enters45 (fun k hk => (hDl1 k hk).2) hG1
  clear hBv hBn hBs hrow hC hR1 hW1 hw2 hG1
  gi_wp2
  refine (wpIn_wide (n := 0)).2 (wp_range (gf := 33) rfl enters33 hG (fun x args F W h => by obtain ⟨v, rfl, _⟩ := h; rfl) (Nat.le_refl _) (fun k hk => rfl) (fun k hk => hk.elim (fun hk => by rcases hk with h | h | h; (· omega); (· omega); exact (hDl1 k h).2) False.elim) (fun _ _ h _ => h) (fun _ _ _ h _ => h)
    (BoxI w.heap.size 3 (fun pre : List (List Int) => .int .i64 (awakeF pre))) (fun _ _ _ _ => False) (boxI_frames _ _ _) (fun _ => frames_false) (fun k => k = w.heap.size) ⟨hB, fun _ => Iff.rfl⟩
    (fun k hk h => hk.elim (fun hk => by rcases hk with h' | h' | h'; (· omega); (· omega); have := (hDl1 k h').1; omega) False.elim)
    (fun pre x a₁ C' W' => (∃ v : Value, (∃ A c, v = .slice A x.length c) ∧ a₁ = { tmps := #[.bool false, .pointer (some ⟨w.heap.size, 0, none⟩), .func (.func 33) #[] #[.pointer (some ⟨w.heap.size + 3 + 1, 0, none⟩), .pointer (some ⟨w.heap.size + 3, 0, none⟩)], v, .slice (some ⟨w.heap.size + 1, 0, none⟩) 3 3, .func (.func 45) #[] #[.pointer (some ⟨w.heap.size + 1 + 1, 0, none⟩)], .func (.func 33) #[] #[.pointer (some ⟨w.heap.size + 3 + 1, 0, none⟩), .pointer (some ⟨w.heap.size + 3, 0, none⟩)], .func (.func 33) #[] #[.pointer (some ⟨w.heap.size + 3 + 1, 0, none⟩), .pointer (some ⟨w.heap.size + 3, 0, none⟩)], .bool false, .func (.func 33) #[] #[.pointer (some ⟨w.heap.size + 3 + 1, 0, none⟩), .pointer (some ⟨w.heap.size + 3, 0, none⟩)], v, undef, undef, undef, undef, undef, undef, undef, undef, undef, undef, undef, undef, undef], defers := [] }) ∧ BoxI w.heap.size 3 (fun pre : List (List Int) => .int .i64 (awakeF pre)) pre C' W')
    (fun pre x a₁ => ⟨fun s C' A B h hz hk => ⟨h.1, (boxI_frames _ _ _).keep _ _ _ _ h.2 hz hk⟩, fun s C' A h => (boxI_frames _ _ _).live _ _ _ h.2⟩) ?_ ?_ ?_ ?_)
  · intro l2 pre x args F C1 W2 hs2 hpre hI hH hFC hFn hA hM
    obtain ⟨v, rfl, hrow, hF⟩ := hH
    have hsl : ∃ A c, v = .slice A x.length c := by
      rcases hrow.2 with ⟨rfl, h⟩ | ⟨g, cap, cur, rfl, _⟩
      · exact ⟨_, _, by rw [h]⟩
      · exact ⟨_, _, rfl⟩
    gi_wp2
    exact ⟨C1, Acts.refl _ _, fun k h => .inl (.inl h), ⟨v, hsl, by simp⟩, hI⟩
  · rintro l2 pre x a₁ C1 W2 hs2 hpre ⟨⟨_, ⟨A, c, rfl⟩, rfl⟩, hb, hC⟩ hA hM
    have c3 := hb.cell
    have f3 := hb.frozen
    gi_wp2
    exact ⟨C1, Acts.setCell _ _ _ _ ((hC _).2 rfl), fun k h => .inl h, by show Boxed _ _ _ (Value.int .i64 (awakeF (pre ++ [x]))); rw [awakeF_snoc]; exact hb.set _, hC⟩
  · rintro d C' W2 hd hdC hA hM ⟨hb, hC⟩ _ hK
    replace hb : Boxed W2 w.heap.size 3 (.int .i64 (awakeF (chunksOf 2 [1, 2, 3]))) := hb
    rw [awakeF_all] at hb
    have c3 := hb.cell
    have hz2 := hA.size
    have hdl := (Array.getElem?_eq_some_iff.1 hK).1
    have hb2 : Below w.heap.size w W2 := (hA1.trans hA (fun j hj => .inr (by rcases hj with h | h; (· omega); exact h.elim))).below (Nat.le_refl _) (fun k _ h => h)
    gi_wp2
    refine ⟨trivial, rfl, (callsIn_wide.2 (of_calls _ _ _ _)).mono ?_⟩
    rintro e w5 ⟨rfl, hw5⟩
    have hs5 : w5.heap.size = W2.heap.size + 2 := by rw [← hw5]; simp
    have hBs5 : w5.heap[W2.heap.size + 1]? = some (.cells #[.slice (some ⟨W2.heap.size, 0, none⟩) 2 2] 22 (0, 0)) := by
      rw [← hw5]; have := World.alloc_heap_new (W2.alloc (.cells #[.int .i64 4, .int .i64 5] 3)) (.cells #[.slice (some ⟨W2.heap.size, 0, none⟩) 2 2] 22 (0, 0)); simpa using this
    have hR5 : w5.heap[W2.heap.size]? = some (.cells #[.int .i64 4, .int .i64 5] 3 (0, 0)) := by
      rw [← hw5]; exact (Below.heap_alloc _ _ _ (by simp)).trans (World.alloc_heap_new W2 _)
    have hrow5 : w5.ownsRow 0 3 1 (.slice (some ⟨W2.heap.size, 0, none⟩) 2 2) 2 [.int .i64 4, .int .i64 5] := ⟨rfl, .inr ⟨_, 2, _, rfl, Nat.zero_le _, hR5, by decide, by decide, rfl, rfl⟩⟩
    have hK5 : w5.heap[d]? = some (.deferred (some [])) := by rw [← hw5]; exact (Below.heap_alloc _ _ _ (by simp; omega)).trans ((Below.heap_alloc _ _ _ hdl).trans hK)
    have hb5 : Below w.heap.size w w5 := by rw [← hw5]; exact (hb2.alloc (by omega) _).alloc (by simp; omega) _
    have hG5 := values_gives (W2.heap.size + 1) (some ⟨W2.heap.size, 0, none⟩) 2 [4, 5] w5 hBs5 (C_of_own (xs := [4, 5]) hrow5).2.2
    have hDl5 : ∀ k, (k = W2.heap.size + 1 ∨ rowOf (some ⟨W2.heap.size, 0, none⟩) [4, 5].length k) → k < w5.heap.size := by
      rintro k (rfl | ⟨_, ad, e, rfl⟩)
      · omega
      · cases e; simp only []; omega
    have hcnt := count_calls 45 _ [4, 5] (by simp) _ w5 enters45 hDl5 hG5
    clear hw5
    gi_wp2
    refine ⟨trivial, rfl, (callsIn_wide.2 hcnt).mono ?_⟩
    rintro e w6 ⟨rfl, hb6⟩
    gi_wp2
    have hz6 := hb6.size
    refine leave_mark1 rfl ((hb6.block d (by omega)).trans hK5) ⟨rfl, ?_⟩
    exact (hb5.trans (hb6.mono hb5.size)).trans (below_put (by omega) (by omega))
  · rintro d c pre C' W2 hd hdC hA hM hpre h
    exact h.elim
end Go.Proofs.Ytncnnbfejomkoaa.Rows14
