/- CutsWays: the law's walk. -/
import Derived.Test.YtjbieekfjlmfmaaTe
import Derived.Deep.QuietTactic
import Derived.BigQuiet
import Derived.Test.YtjbieekfjlmfmaaTq
namespace Go.Proofs.Ytjbieekfjlmfmaa.Cuts07
open Go.RowKit Go.Shelf Go.Proofs.YtjbieekfjlmfmaaW.PrintWords Go.Proofs.YtjbieekfjlmfmaaW.PrintLast Go.Proofs.YtjbieekfjlmfmaaW.PrintMore Go.Proofs.Ytjbieekfjlmfmaa.Iter Go.Proofs.Ytjbieekfjlmfmaa.XCutsEach
set_option linter.unusedVariables false
set_option linter.unusedSimpArgs false
attribute [local go_sem] Oper.semAt_some

theorem counts (n : Int) : ∃ b, cuts_Count.f n = some ((manyOf n : Int), b) ∧ (∃ k, quillpenref07_Count.f k n = some ((manyOf n : Int), b)) ∧ 0 ≤ b ∧ b ≤ 100 := by
  by_cases h1 : n < 0
  · exact ⟨22, by unfold cuts_Count.f manyOf; rw [if_pos h1, if_pos (.inl h1)]; rfl, ⟨0, by unfold quillpenref07_Count.f manyOf; rw [if_pos h1, if_pos (.inl h1)]; rfl⟩, by omega, by omega⟩
  · by_cases h2 : n > 16
    · exact ⟨26, by unfold cuts_Count.f manyOf; rw [if_neg h1, if_pos h2, if_pos (.inr h2)]; rfl, ⟨0, by unfold quillpenref07_Count.f manyOf; rw [if_neg h1, if_pos h2, if_pos (.inr h2)]; rfl⟩, by omega, by omega⟩
    · refine ⟨0, ?_, ⟨20, ?_⟩, by omega, by omega⟩
      · unfold cuts_Count.f manyOf
        rw [if_neg h1, if_neg h2, if_neg (by omega)]
        have hn : n = 0 ∨ n = 1 ∨ n = 2 ∨ n = 3 ∨ n = 4 ∨ n = 5 ∨ n = 6 ∨ n = 7 ∨ n = 8 ∨ n = 9 ∨ n = 10 ∨ n = 11 ∨ n = 12 ∨ n = 13 ∨ n = 14 ∨ n = 15 ∨ n = 16 := by omega
        rcases hn with h | h | h | h | h | h | h | h | h | h | h | h | h | h | h | h | h <;> subst h <;> decide +kernel
      · unfold manyOf
        rw [if_neg (by omega)]
        have hn : n = 0 ∨ n = 1 ∨ n = 2 ∨ n = 3 ∨ n = 4 ∨ n = 5 ∨ n = 6 ∨ n = 7 ∨ n = 8 ∨ n = 9 ∨ n = 10 ∨ n = 11 ∨ n = 12 ∨ n = 13 ∨ n = 14 ∨ n = 15 ∨ n = 16 := by omega
        rcases hn with h | h | h | h | h | h | h | h | h | h | h | h | h | h | h | h | h <;> subst h <;> decide +kernel
theorem many_range {n : Int} {i : Nat} (h : i < manyOf n) : 0 ≤ n ∧ n ≤ 16 ∧ i < 32768 := by
  have h0 := many_le n
  have h2 := h
  unfold manyOf at h; split at h <;> omega
theorem refWay_is (n : Int) (i : Nat) (h : i < manyOf n) : ∃ k, quillpenref07_Way.f k n (i : Int) = some (wayOf n i) := by
  obtain ⟨h0, h1, h2⟩ := many_range h
  have hl : ∀ (d j : Nat), j + d = n.toNat → 1 ≤ j → quillpenref07_Way.l0 (d + 1) n ((i / 2 ^ (j - 1) : Nat) : Int) (wayUp i j) (j : Int) = some (wayOf n i) := by
    intro d
    induction d with
    | zero =>
      intro j hj hj1
      rw [quillpenref07_Way.l0, if_neg (by omega)]
      unfold wayOf
      rw [show n.toNat = j from by omega]
    | succ d ih =>
      intro j hj hj1
      have hwl := wayUp_len i j
      have hq : i / 2 ^ (j - 1) ≤ i := Nat.div_le_self _ _
      have hnext : i / 2 ^ (j - 1) / 2 = i / 2 ^ (j + 1 - 1) := by
        rw [Nat.div_div_eq_div_mul, ← Nat.pow_succ, show (j - 1).succ = j + 1 - 1 from by omega]
      have hih := ih (j + 1) (by omega) (by omega)
      rw [← hnext] at hih
      rw [quillpenref07_Way.l0, if_pos (by omega), show wrap64 ((j : Int) + 1) = ((j + 1 : Nat) : Int) from by unfold wrap64; omega]
      have hb : bit i j = decide (i / 2 ^ (j - 1) % 2 = 1) := by unfold bit; rw [Bool.eq_iff_iff]; simp
      generalize i / 2 ^ (j - 1) = q at hih hb hq ⊢
      have e1 : Int.tmod (q : Int) 2 = ((q % 2 : Nat) : Int) := by rw [Int.tmod_eq_emod_of_nonneg (by omega)]; omega
      have e2 : wrap64 (Int.tdiv (q : Int) 2) = ((q / 2 : Nat) : Int) := by rw [Int.tdiv_eq_ediv_of_nonneg (by omega)]; unfold wrap64; omega
      rw [e1, e2]
      by_cases hb2 : q % 2 = 1
      · rw [if_pos (by omega), if_pos (by omega)]
        rw [show wayUp i (j + 1) = wayUp i j ++ [(j : Int)] from by rw [wayUp, if_pos ⟨hj1, by rw [hb]; exact decide_eq_true hb2⟩]] at hih
        exact hih
      · rw [if_neg (by omega)]
        rw [show wayUp i (j + 1) = wayUp i j from by rw [wayUp, if_neg (fun h => hb2 (of_decide_eq_true (by rw [← hb]; exact h.2)))]] at hih
        exact hih
  by_cases hn : 1 ≤ n.toNat
  · refine ⟨n.toNat - 1 + 1, ?_⟩
    unfold quillpenref07_Way.f
    have := hl (n.toNat - 1) 1 (by omega) (Nat.le_refl _)
    simpa [wayUp] using this
  · refine ⟨1, ?_⟩
    unfold quillpenref07_Way.f quillpenref07_Way.l0
    rw [if_neg (by omega)]
    unfold wayOf
    rw [show n.toNat = 0 from by omega]
    rfl
theorem ways_calls (n : Int) (w : World) :
    Calls Try.prog 15 #[.int .i64 n] w fun e w' => e = .returned (.func (.func 24) #[] #[.pointer (some ⟨w.heap.size, 0, none⟩)]) ∧ w.alloc (.cells #[.int .i64 n] 3) = w' := by
  go_enter Try.func15, Try.ntmps15
  go_wp2
  go_ret
  exact ⟨rfl, rfl⟩
theorem enters24 : ∀ args w, (callFunc 24 args).run Try.prog w = .ok (.enter 24 args) w := enters_of Try.func24 (by kernel_rfl) rfl
theorem und36 : Try.prog.underlying 36 = some (.func #[48] #[] false) := by kernel_rfl
theorem run_equal_func (d : Nat) (t : TypeId) {ps rs : Array TypeId} {v : Bool} (ht : Try.prog.underlying t = some (.func ps rs v)) (f : Fn) (ts lb : Array Value) (w : World) : (Op.equalIn (d + 1) t (.func f ts lb) .nilFunc).run Try.prog w = .ok false w := by
  have h := run_underlying ht w
  unfold Op.equalIn
  simp only [Sem.run_bind, h, Result.andThen_ok, Sem.run_pure]
theorem run_nil_func (t : TypeId) {ps rs : Array TypeId} {v : Bool} (ht : Try.prog.underlying t = some (.func ps rs v)) (f : Fn) (ts lb : Array Value) (w : World) : (binOp BinOp.eql t (.func f ts lb) .nilFunc).run Try.prog w = .ok (.bool false) w := by
  have h := run_equal_func 9999 t ht f ts lb w
  unfold binOp
  simp only [Sem.run_bind, Sem.run_pure]
  rw [show Op.equal t (.func f ts lb) .nilFunc = Op.equalIn (9999 + 1) t (.func f ts lb) .nilFunc from rfl, h]
  rfl
theorem own_ne {W : World} {b b' e e' s s' n m : Nat} {v u : Value} {xs ys : List Value} (h : W.ownsRow b e s v n xs) (h' : W.ownsRow b' e' s' u m ys) (he : e ≠ e') (k : Nat) (hv : v.ownBlock = some k) (hu : u.ownBlock = some k) : False := by
  obtain ⟨c1, h1⟩ := own_typed h k hv
  obtain ⟨c2, h2⟩ := own_typed h' k hu
  rw [h1] at h2; cases h2; exact he rfl
/-- A row, of which the first k things have been turned. -/
def part {α : Type} (f : α → α) (x : List α) (k : Nat) : List α := (x.take k).map f ++ x.drop k
section
variable {α : Type}
theorem part_len (f : α → α) (x : List α) (k : Nat) : (part f x k).length = x.length := by simp [part]; omega
theorem part_at (f : α → α) {x : List α} {k : Nat} (h : k < x.length) : (part f x k)[k]? = some x[k] := by
  unfold part
  rw [List.getElem?_append_right (by simp; omega)]
  simp [show min k x.length = k from by omega]
theorem part_set (f : α → α) {x : List α} {k : Nat} (h : k < x.length) : (part f x k).set k (f x[k]) = part f x (k + 1) := by
  unfold part
  rw [List.set_append_right _ _ (by simp; omega), List.take_succ_eq_append_getElem h, List.drop_eq_getElem_cons h]
  simp only [List.map_append, List.map_cons, List.map_nil, List.append_assoc, List.cons_append, List.nil_append, List.length_map, List.length_take, show min k x.length = k from by omega, Nat.sub_self, List.set_cons_zero]
theorem part_zero (f : α → α) (x : List α) : part f x 0 = x := by simp [part]
theorem part_all (f : α → α) (x : List α) : part f x x.length = x.map f := by simp [part]
end
/-- A row's thing, read and written. -/
theorem row_cell {W : World} {base g cap n : Nat} {x : List Int} (h : W.ownsRow base 3 1 (.slice (some ⟨g, 0, none⟩) n cap) n (x.map (Value.int .i64))) {k : Nat} {y : Int} (hk : x[k]? = some y) : W.cell? ⟨g, k, none⟩ = some (.int .i64 y) ∧ W.frozen? ⟨g, k, none⟩ = false := by
  have hlt := (List.getElem?_eq_some_iff.1 hk).1
  have hn := h.1
  simp only [List.length_map, Nat.mul_one] at hn
  refine ⟨?_, h.frozenAt k⟩
  rw [h.cellAt k (by omega), List.getElem?_map, hk]; rfl
theorem row_set {W : World} {base g cap n : Nat} {x : List Int} (h : W.ownsRow base 3 1 (.slice (some ⟨g, 0, none⟩) n cap) n (x.map (Value.int .i64))) (k : Nat) (y : Int) :
    (W.setCell ⟨g, k, none⟩ (.int .i64 y)).ownsRow base 3 1 (.slice (some ⟨g, 0, none⟩) n cap) n ((x.set k y).map (Value.int .i64)) := by
  rw [List.map_set]; exact (h.stored k (.int .i64 y)).1
theorem owns_raise {W : World} {b base e size n : Nat} {v : Value} {xs : List Value} (h : W.ownsRow b e size v n xs) (hb : ∀ k, v.ownBlock = some k → base ≤ k) : W.ownsRow base e size v n xs := by
  refine ⟨h.1, h.2.imp id ?_⟩
  rintro ⟨g, cap, cur, rfl, h1, h2⟩
  exact ⟨g, cap, cur, rfl, hb g rfl, h2⟩
theorem results_cellb {fn : Func} {t : Tmp} (h : fn.results = #[.cell t 4]) (tmps : Array Value) (w : World) (B : Nat) (v : Value) (hp : tmps.getD t undef = .pointer (some ⟨B, 0, none⟩)) (hb : w.cell? ⟨B, 0, none⟩ = some v) : (results fn tmps).run Try.prog w = .ok v w := by
  have hp' : tmps[t]?.getD undef = .pointer (some ⟨B, 0, none⟩) := by simpa using hp
  simp [results, h, hp', asAddr]
  go_simp
/-- A function's leaving over the mark of one range over a function; its result lies in a box. -/
theorem leave_markc {fn : Func} {tmps : Array Value} {R : Ending → World → Prop} {d B : Nat} {W : World} {t : Tmp} {v : Value} (h : fn.results = #[.cell t 4]) (hp : tmps.getD t undef = .pointer (some ⟨B, 0, none⟩)) (hb : Boxed W B 4 v) (hne : B ≠ d) (hK : W.heap[d]? = some (.deferred (some []))) (hR : R (.returned v) (W.putObj d (.deferred none))) :
    LeavesInM Fence.wide 0 Try.prog fn tmps R [{ target := .collected d, args := #[] }] .returning W :=
  ⟨by simp, .inl ⟨_, _, rfl, run_takeDeferred hK, ⟨_, results_cellb h _ _ B v hp (Boxed.cell (t := 4) ((World.putObj_heap_other hne).trans hb)), hR⟩⟩⟩
theorem below_put {n d : Nat} {W : World} {o : Obj} (hd : n ≤ d) (hn : n ≤ W.heap.size) : Below n W (W.putObj d o) := ⟨rfl, rfl, rfl, by simp, fun k hk => World.putObj_heap_other (by omega)⟩
/-- The law's end: the result lies in its box. -/
theorem ways_end {B d : Nat} {w W2 w9 : World} {tmps : Array Value} {t : Tmp} {fn : Func} (hfn : fn.results = #[.cell t 4]) (hp : tmps.getD t undef = .pointer (some ⟨B, 0, none⟩)) (hB : w.heap.size ≤ B) (hBd : B < d) (hW : Below w.heap.size w W2) (h9 : Below W2.heap.size W2 w9) {v : Value} (hr : Boxed W2 B 4 v) (hK : W2.heap[d]? = some (.deferred (some []))) :
    LeavesInM Fence.wide 0 Try.prog fn tmps (fun e w' => e = .returned (.bool true) ∧ Below w.heap.size w w') [{ target := .collected d, args := #[] }] .returning (w9.setCell ⟨B, 0, none⟩ (.bool true)) := by
  have hd := (Array.getElem?_eq_some_iff.1 hK).1
  have hr9 : Boxed w9 B 4 v := (h9.block _ (by omega)).trans hr
  have hK9 : (w9.setCell ⟨B, 0, none⟩ (.bool true)).heap[d]? = some (.deferred (some [])) := (Below.heap_setCell w9 ⟨B, 0, none⟩ _ d (by show d ≠ B; omega)).trans ((h9.block d hd).trans hK)
  have hz := hW.size
  have hz9 := h9.size
  have hb : Below w.heap.size w9 (w9.setCell ⟨B, 0, none⟩ (.bool true)) := (Acts.setCell (C := fun k => k = B) w9 B 0 _ rfl).below (by omega) (fun k hk e => by omega)
  refine leave_markc hfn hp (hr9.set _) (by omega) hK9 ⟨rfl, ?_⟩
  exact ((hW.trans (h9.mono hz)).trans hb).trans (below_put (by omega) (by have := hb.size; omega))
/-- The law's boxes. -/
structure WB (B : Nat) (n stop : Int) (W : World) : Prop where
  b0 : Boxed W B 3 (.int .i64 n)
  b1 : Boxed W (B + 1) 3 (.int .i64 stop)
  b2 : Boxed W (B + 2) 4 (.bool false)
  b3 : Boxed W (B + 3) 3 (.int .i64 (manyOf n))
theorem WB.keep {B : Nat} {n stop : Int} {W W' : World} (h : WB B n stop W) (hk : ∀ k, B ≤ k → k < B + 4 → W'.heap[k]? = W.heap[k]?) : WB B n stop W' :=
  ⟨(hk _ (by omega) (by omega)).trans h.b0, (hk _ (by omega) (by omega)).trans h.b1, (hk _ (by omega) (by omega)).trans h.b2, (hk _ (by omega) (by omega)).trans h.b3⟩
theorem ways_boxes {w w2 : World} {n stop : Int} {m1 : Nat} (h : Below (((((w.alloc (.cells #[.int .i64 n] 3)).alloc (.cells #[.int .i64 stop] 3)).alloc (.cells #[.bool false] 4)).drewN m1).alloc (.cells #[.int .i64 (manyOf n)] 3)).heap.size (((((w.alloc (.cells #[.int .i64 n] 3)).alloc (.cells #[.int .i64 stop] 3)).alloc (.cells #[.bool false] 4)).drewN m1).alloc (.cells #[.int .i64 (manyOf n)] 3)) w2) :
    WB w.heap.size n stop w2 ∧ Below w.heap.size w w2 ∧ w.heap.size + 4 ≤ w2.heap.size := by
  obtain ⟨a1, a2, hA, hs⟩ : (((w.alloc (.cells #[.int .i64 n] 3)).alloc (.cells #[.int .i64 stop] 3)).alloc (.cells #[.bool false] 4)).heap.size = w.heap.size + 3 ∧ True ∧ Acts (fun _ => False) w (((w.alloc (.cells #[.int .i64 n] 3)).alloc (.cells #[.int .i64 stop] 3)).alloc (.cells #[.bool false] 4)) ∧ WB w.heap.size n stop ((((w.alloc (.cells #[.int .i64 n] 3)).alloc (.cells #[.int .i64 stop] 3)).alloc (.cells #[.bool false] 4)).alloc (.cells #[.int .i64 (manyOf n)] 3)) := by
    refine ⟨by simp, trivial, ((Acts.alloc _ _ _).trans (Acts.alloc _ _ _) (fun _ h => .inl h)).trans (Acts.alloc _ _ _) (fun _ h => .inl h), ⟨?_, ?_, ?_, ?_⟩⟩
    · exact (((Boxed.new w 3 _).alloc _).alloc _).alloc _
    · have := Boxed.new (w.alloc (.cells #[.int .i64 n] 3)) 3 (.int .i64 stop)
      rw [World.size_alloc] at this
      exact (this.alloc _).alloc _
    · have := Boxed.new ((w.alloc (.cells #[.int .i64 n] 3)).alloc (.cells #[.int .i64 stop] 3)) 4 (.bool false)
      rw [World.size_alloc, World.size_alloc] at this
      exact this.alloc _
    · have := Boxed.new (((w.alloc (.cells #[.int .i64 n] 3)).alloc (.cells #[.int .i64 stop] 3)).alloc (.cells #[.bool false] 4)) 3 (.int .i64 (manyOf n))
      rw [World.size_alloc, World.size_alloc, World.size_alloc] at this
      exact this
  generalize hW : ((w.alloc (.cells #[.int .i64 n] 3)).alloc (.cells #[.int .i64 stop] 3)).alloc (.cells #[.bool false] 4) = WA at h hA hs a1
  have hz : ((WA.drewN m1).alloc (.cells #[.int .i64 (manyOf n)] 3)).heap.size = w.heap.size + 4 := by rw [World.size_alloc]; show WA.heap.size + 1 = _; omega
  rw [hz] at h
  refine ⟨hs.keep (fun k h1 h2 => (h.block k (by omega)).trans rfl), ((hA.below (Nat.le_refl _) (fun _ _ h => h)).trans ((pw_below_drewN (Below.refl _ _) m1).alloc (by show _ ≤ WA.heap.size; omega) _)).trans (h.mono (by omega)), by have := h.size; omega⟩
set_option maxRecDepth 100000 in
set_option maxHeartbeats 4000000 in
theorem ways_walk (n stop : Int) (hn1 : -9223372036854775808 ≤ n) (hn2 : n ≤ 9223372036854775807) (hs1 : -9223372036854775808 ≤ stop) (hs2 : stop ≤ 9223372036854775807) (w : World) (hawake : ∃ k, quillpenlaw07_awake.f k = some true) :
    Calls Try.prog 4 #[.int .i64 n, .int .i64 stop] w fun e w' => e = .returned (.bool true) ∧ Below w.heap.size w w' := by
  obtain ⟨ka, hka⟩ := hawake
  obtain ⟨b, hc1, ⟨kc, hc2⟩, hb0, hb1⟩ := counts n
  refine calls_of_marks Try.func4 rfl ?_
  simp only [Try.ntmps4, List.size_toArray, List.length_cons, List.length_nil, Nat.reduceAdd, Nat.reduceSub, Array.replicate_succ, Array.replicate_zero, List.push_toArray, List.append_toArray, List.nil_append, List.cons_append]
  have hml := many_le n
  have hms : manyOf n < 9223372036854775807 := by omega
  go_wp2_with (first | (go_at_call 13; refine (quillpenref07_Count.calls kc n _ _ _ hc2).mono ?_; rintro e w1 ⟨rfl, ⟨m1, rfl⟩⟩) | (go_at_call 14; refine (cuts_Count.calls n _ _ _ hc1).mono ?_; rintro e w2 ⟨rfl, hb2⟩; obtain ⟨hWB, hbw2, hz2⟩ := ways_boxes hb2; have c0 := hWB.b0.cell; have c1 := hWB.b1.cell; have c2 := hWB.b2.cell; have c3 := hWB.b3.cell) | (go_at_call 15; refine (ways_calls n _).mono ?_; rintro e w3 ⟨rfl, hw3⟩; have hnil := run_nil_func 36 und36 (.func 24) #[] #[.pointer (some ⟨w2.heap.size, 0, none⟩)] w3; have hWB3 : WB w.heap.size n stop w3 := hWB.keep (fun k _ h2 => by rw [← hw3]; exact Below.heap_alloc _ _ _ (by omega)); have d0 := hWB3.b0.cell; have d1 := hWB3.b1.cell; have d2 := hWB3.b2.cell; have d3 := hWB3.b3.cell))
  have hlen : (waysOf n).length = manyOf n := by simp [waysOf]
  obtain ⟨W4, hW4⟩ : ∃ W4, w3.alloc (.cells #[.int .i64 0] 3) = W4 := ⟨_, rfl⟩
  have hs3 : w3.heap.size = w2.heap.size + 1 := by rw [← hw3]; simp
  have hs4 : W4.heap.size = w2.heap.size + 2 := by rw [← hW4]; simp [hs3]
  have hWB4 : WB w.heap.size n stop W4 := hWB3.keep (fun k _ h2 => by rw [← hW4]; exact Below.heap_alloc _ _ _ (by omega))
  have hBi : Boxed W4 w3.heap.size 3 (.int .i64 0) := by rw [← hW4]; exact Boxed.new w3 3 _
  have hBn4 : W4.heap[w2.heap.size]? = some (.cells #[.int .i64 n] 3 (0, 0)) := by
    rw [← hW4]; exact (Below.heap_alloc _ _ _ (by omega)).trans (by rw [← hw3]; exact World.alloc_heap_new w2 _)
  have hbw4 : Below w.heap.size w W4 := by
    rw [← hW4]
    exact (hbw2.trans (by rw [← hw3]; exact ((Below.refl _ _).alloc (by omega) _))).trans ((Below.refl _ _).alloc (by omega) _)
  rw [hW4]
  have hG := ways_gives w2.heap.size n hn1 hn2 W4 hBn4
  clear hW4 hw3 c0 c1 c2 c3 d0 d1 d2 d3 hWB hWB3 hnil hb2 hbw2
  have z34 := Aside0.mk hs3
  have z44 := Aside0.mk hs4
  clear hs3 hs4
  refine wp_range_at (gf := 24) rfl enters24 hG (fun x args F W h => by obtain ⟨v, rfl, _⟩ := h; rfl) (Nat.le_refl _) (fun k hk => rfl) (fun k hk => by have := z44.out; rcases hk with h | h; (· omega); exact h.elim) (fun _ _ h _ => h) (fun _ _ _ h _ => h)
    (fun pre C' W' => pre.length < 1000 ∧ Boxed W' w3.heap.size 3 (.int .i64 pre.length) ∧ ∀ k, C' k ↔ k = w3.heap.size)
    (fun c pre C' W' => c = .exit 0 ∧ ((pre.length : Int) = stop ∨ pre.length = 1000) ∧ Boxed W' w3.heap.size 3 (.int .i64 pre.length) ∧ ∀ k, C' k ↔ k = w3.heap.size)
    ⟨fun s C W W' h hz hk => ⟨h.1, (hk _ ((h.2.2 _).2 rfl)).trans h.2.1, h.2.2⟩, fun s C W h k hk => by rw [(h.2.2 k).1 hk]; exact h.2.1.lt⟩
    (fun c => ⟨fun s C W W' h hz hk => ⟨h.1, h.2.1, (hk _ ((h.2.2.2 _).2 rfl)).trans h.2.2.1, h.2.2.2⟩, fun s C W h k hk => by rw [(h.2.2.2 k).1 hk]; exact h.2.2.1.lt⟩)
    (fun k => k = w3.heap.size) ⟨by simp, hBi, fun _ => Iff.rfl⟩
    (fun k hk h => by have := z34.out; rcases hk with h' | h'; (· omega); exact h'.elim)
    (fun fr pre x a₁ C' W' => ∃ A cap, a₁ = { tmps := (fr.setIfInBounds 39 (.slice A x.length cap)).setIfInBounds 11 (.slice A x.length cap), defers := [] } ∧ pre.length < 1000 ∧ Boxed W' w3.heap.size 3 (.int .i64 pre.length) ∧ W'.ownsRow W4.heap.size 3 1 (.slice A x.length cap) x.length (x.map (Value.int .i64)) ∧ ∀ k, C' k ↔ k = w3.heap.size ∨ Value.ownBlock (.slice A x.length cap) = some k)
    (fun pre x a₁ => ?_) ?_ ?_ ?_ ?_
  · constructor
    · rintro s C' W W' ⟨A, cap, e, h1, h2, h3, h4⟩ hz hk
      exact ⟨A, cap, e, h1, (hk _ ((h4 _).2 (.inl rfl))).trans h2, owns_keep h3 (fun k e => hk k ((h4 k).2 (.inr e))), h4⟩
    · rintro s C' W ⟨A, cap, e, h1, h2, h3, h4⟩ k hk
      rcases (h4 k).1 hk with rfl | h
      · exact h2.lt
      · exact (h3.lt k h).2
  · rintro l2 pre x args F C1 W2 hsz2 hpre ⟨hp1, hp2, hp3⟩ ⟨v, rfl, hrow, hF⟩ hFC hFn hA hM
    obtain ⟨A, cap, rfl, r1, C1'⟩ := Kd.R_reads (Kd.R_of_own (enc := Value.int .i64) (h1 := fun _ => rfl) (ok := fun _ => True) hrow (fun _ _ => trivial))
    gi_wp2
    exact ⟨fun k => k = w3.heap.size ∨ Value.ownBlock (.slice A x.length cap) = some k, Acts.refl _ _, fun k h => .inl (h.imp (fun e => (hp3 k).2 e) (fun e => (hF k).2 e)), A, cap, by simp, hp1, hp2, owns_raise hrow (fun k e => hFn k ((hF k).2 e)), fun _ => Iff.rfl⟩
  · rintro l2 pre x a₁ C1 W2 hsz2 hpre ⟨A, cap, ha, hp1, hp2, hrow, hC1⟩ hA hM
    simp only [List.setIfInBounds_toArray, List.set_cons_succ, List.set_cons_zero] at ha
    subst ha
    have hx1 : pre.length + 1 ≤ manyOf n := by have := hpre.length_le; rw [hlen] at this; simpa using this
    have hxe : x = wayOf n pre.length := by
      obtain ⟨t, ht⟩ := hpre
      have e1 : (waysOf n)[pre.length]? = some x := by rw [← ht]; simp
      have e2 : (waysOf n)[pre.length]? = some (wayOf n pre.length) := by simp [waysOf, show pre.length < manyOf n by omega]
      rw [e1] at e2; exact Option.some.inj e2
    have hWB2 : WB w.heap.size n stop W2 := hWB4.keep (fun k h1 h2 => hA.same k (by have := z44.out; omega) (fun h => by have := z34.out; rcases h with h | h; (· omega); exact h.elim))
    have d0 := hWB2.b0.cell
    have d1 := hWB2.b1.cell
    have d3 := hWB2.b3.cell
    have ci := hp2.cell
    obtain ⟨kw, hkw⟩ := refWay_is n pre.length (by omega)
    rw [← hxe] at hkw
    have hxl : x.length ≤ 100 := by rw [hxe]; have h1 := wayUp_len pre.length n.toNat; have := many_range (show pre.length < manyOf n by omega); unfold wayOf; omega
    have hmx : Try.prog.follows .mixedOrders = true := by kernel_rfl
    clear hxe
    gi_wp2
    refine ⟨trivial, rfl, (show CallsIn (Fence.wide.inRound l2) 0 _ _ _ _ _ from callsIn_wide.2 (quillpenref07_Way.calls kw n _ x W2 hkw)).mono ?_⟩
    rintro e W3 ⟨v0, rfl, ho0, hb3⟩
    have ho1 := Kd.own_of_R ho0
    obtain ⟨A2, c2, rfl, r2, C2⟩ := Kd.R_reads ho0
    have hrow3 := owns_keep hrow (fun k e => hb3.block k (hrow.lt k e).2)
    have hi3 : Boxed W3 w3.heap.size 3 (.int .i64 pre.length) := (hb3.block _ hp2.lt).trans hp2
    have hWB3 : WB w.heap.size n stop W3 := hWB2.keep (fun k h1 h2 => hb3.block k (by have := z44.out; omega))
    have hgi : ∀ k, Value.ownBlock (.slice A x.length cap) = some k → w3.heap.size ≠ k ∧ w.heap.size + 4 ≤ k ∧ k < W2.heap.size := fun k e => by have := hrow.lt k e; have := z44.out; have := z34.out; omega
    gi_wp2
    gi_loopw [53] (fun i wr => ∃ k : Nat, k ≤ x.length ∧ i = .int .i64 k ∧ Acts (fun j => Value.ownBlock (.slice A x.length cap) = some j) W3 wr ∧ wr.ownsRow W4.heap.size 3 1 (.slice A x.length cap) x.length ((part (fun _ => (99 : Int)) x k).map (Value.int .i64)))
      (fun i _ => x.length - (intOf i).toNat)
    case atStart => exact ⟨0, Nat.zero_le _, rfl, Acts.refl _ _, by rw [part_zero]; exact hrow3⟩
    case round =>
      obtain ⟨k, hk, rfl, hAk, hrk⟩ := hrel
      have hir : Boxed wr w3.heap.size 3 (.int .i64 pre.length) := (hAk.same _ hi3.lt (fun h => (hgi _ h).1 rfl)).trans hi3
      have hWBr : WB w.heap.size n stop wr := hWB3.keep (fun k h1 h2 => hAk.same k (by have := hi3.lt; have := z34.out; omega) (fun h => by have := (hgi _ h).2.1; omega))
      have e0 := hir.cell
      have e0f := hir.frozen
      have e1 := hWBr.b1.cell
      by_cases hlt : k < x.length
      · obtain ⟨g, rfl⟩ : ∃ g, A = some ⟨g, 0, none⟩ := by
          rcases hrk.2 with ⟨_, h⟩ | ⟨g, _, _, h, _⟩
          · omega
          · cases h; exact ⟨_, rfl⟩
        obtain ⟨g2, rfl⟩ : ∃ g2, A2 = some ⟨g2, 0, none⟩ := by
          rcases ho1.2 with ⟨_, h⟩ | ⟨g, _, _, h, _⟩
          · omega
          · cases h; exact ⟨_, rfl⟩
        have hg2 := ho1.lt g2 rfl
        have hg1 := hgi g rfl
        have ho2 := owns_keep ho1 (fun q e => hAk.same q (ho1.lt q e).2 (fun h => by simp [Value.ownBlock] at e h; omega))
        obtain ⟨hc, hfz⟩ := row_cell hrk (part_at (fun _ => (99 : Int)) hlt)
        obtain ⟨hc2, hfz2⟩ := row_cell ho2 (List.getElem?_eq_getElem hlt)
        have hi0 : (0 : Int) ≤ (k : Int) := by omega
        have hi1 : (k : Int) < (x.length : Int) := by omega
        gi_wp2
        refine region_quiet_round (by kernel_rfl) (by kernel_rfl) (by kernel_rfl) ?_
        repeat (gi_big_quiet_step (fail))
        refine wpQuietIn_nil ?_
        intro _ hw'
        obtain ⟨nq, rfl⟩ := hw'
        have hset := row_set (show (wr.drewN nq).ownsRow _ _ _ _ _ _ from hrk) k 99
        rw [part_set (fun _ => (99 : Int)) hlt] at hset
        gi_wp2
        go_roundw
        case rel => exact ⟨k + 1, by omega, by simp, (hAk.trans (Acts.drewN _ wr nq) (fun _ h => .inl h)).trans (Acts.setCell (C := fun j => Value.ownBlock (.slice (some ⟨g, 0, none⟩) x.length cap) = some j) _ _ _ _ rfl) (fun _ h => .inl h), hset⟩
        case measure => simp [intOf]; omega
      · obtain rfl : k = x.length := by omega
        have hset1 := hir.set (.int .i64 ((pre.length : Int) + 1))
        have hst := (hWBr.b1.other (show w.heap.size + 1 ≠ w3.heap.size by have := z34.out; omega) (.int .i64 ((pre.length : Int) + 1)))
        have f1 := hst.cell
        have hAll : Acts C1 W2 (wr.setCell ⟨w3.heap.size, 0, none⟩ (.int .i64 ((pre.length : Int) + 1))) :=
          (((Acts.of_below (C := fun _ => False) hb3).weaken (fun _ _ h => h.elim)).trans hAk (fun q h => .inl ((hC1 q).2 (.inr h)))).trans (Acts.setCell (C := C1) _ _ _ _ ((hC1 _).2 (.inl rfl))) (fun _ h => .inl h)
        have hfin : More W2 C1 (fun k => k = w3.heap.size) := fun q h => .inl ((hC1 q).2 (.inl h))
        have hbox : Boxed (wr.setCell ⟨w3.heap.size, 0, none⟩ (.int .i64 ((pre.length : Int) + 1))) w3.heap.size 3 (.int .i64 ((pre ++ [x]).length : Int)) := by simpa using hset1
        by_cases q1 : (pre.length : Int) + 1 = stop
        · have p1 : (((pre.length : Int) + 1) == stop) = true := beq_iff_eq.mpr q1
          have q1' := Aside0.mk q1
          clear q1
          gi_wp2
          exact ⟨_, hAll, hfin, rfl, .inl (by have := q1'.out; simpa using this), hbox, fun _ => Iff.rfl⟩
        · have p1 : (((pre.length : Int) + 1) == stop) = false := beq_eq_false_iff_ne.mpr q1
          by_cases q2 : (pre.length : Int) + 1 = 1000
          · have p2 : (((pre.length : Int) + 1) == 1000) = true := beq_iff_eq.mpr q2
            have q2' := Aside0.mk q2
            clear q2
            gi_wp2
            exact ⟨_, hAll, hfin, rfl, .inr (by have := q2'.out; simp; omega), hbox, fun _ => Iff.rfl⟩
          · have p2 : (((pre.length : Int) + 1) == 1000) = false := beq_eq_false_iff_ne.mpr q2
            gi_wp2
            exact ⟨_, hAll, hfin, by simp; omega, hbox, fun _ => Iff.rfl⟩
  · rintro d C' W2 hd hdC hA hM ⟨hp1, hp2, hp3⟩ _ hK
    have hWB2 : WB w.heap.size n stop W2 := hWB4.keep (fun k h1 h2 => hA.same k (by have := z44.out; omega) (fun h => by have := z34.out; rcases h with h | h; (· omega); exact h.elim))
    have d1 := hWB2.b1.cell
    have d3 := hWB2.b3.cell
    rw [hlen] at hp2
    have ci := hp2.cell
    have hbA : Below w.heap.size w W2 := hbw4.trans (hA.below hbw4.size (fun k hk h => by have := z34.out; rcases h with h | h; (· omega); exact h.elim))
    have z4 := z44.out
    have hz2 := hA.size
    clear hWB4 hBn4 hBi
    go_wp2_with (go_at_call 8; refine (quillpenlaw07_awake.calls ka true _ hka).mono ?_; rintro e w9 ⟨rfl, hb9⟩; have hr9 : Boxed w9 (w.heap.size + 2) 4 (.bool false) := (hb9.block _ (by omega)).trans hWB2.b2; have g2 := hr9.cell; have g2f := hr9.frozen)
    exact ways_end rfl rfl (by omega) (by omega) hbA hb9 hWB2.b2 hK
  · rintro d c pre C' W2 hd hdC hA hM hpre ⟨rfl, hst, hp2, hp3⟩ _ hK
    have hWB2 : WB w.heap.size n stop W2 := hWB4.keep (fun k h1 h2 => hA.same k (by have := z44.out; omega) (fun h => by have := z34.out; rcases h with h | h; (· omega); exact h.elim))
    have d1 := hWB2.b1.cell
    have d3 := hWB2.b3.cell
    have ci := hp2.cell
    have hbA : Below w.heap.size w W2 := hbw4.trans (hA.below hbw4.size (fun k hk h => by have := z34.out; rcases h with h | h; (· omega); exact h.elim))
    have z4 := z44.out
    have hz2 := hA.size
    clear hWB4 hBn4 hBi
    by_cases q0 : (pre.length : Int) = (manyOf n : Int)
    · go_wp2_with (go_at_call 8; refine (quillpenlaw07_awake.calls ka true _ hka).mono ?_; rintro e w9 ⟨rfl, hb9⟩; have hr9 : Boxed w9 (w.heap.size + 2) 4 (.bool false) := (hb9.block _ (by omega)).trans hWB2.b2; have g2 := hr9.cell; have g2f := hr9.frozen)
      exact ways_end rfl rfl (by omega) (by omega) hbA hb9 hWB2.b2 hK
    · by_cases q1 : (pre.length : Int) = stop
      · go_wp2_with (go_at_call 8; refine (quillpenlaw07_awake.calls ka true _ hka).mono ?_; rintro e w9 ⟨rfl, hb9⟩; have hr9 : Boxed w9 (w.heap.size + 2) 4 (.bool false) := (hb9.block _ (by omega)).trans hWB2.b2; have g2 := hr9.cell; have g2f := hr9.frozen)
        exact ways_end rfl rfl (by omega) (by omega) hbA hb9 hWB2.b2 hK
      · have q2 : (pre.length : Int) = 1000 := by rcases hst with h | h; (· exact absurd h q1); omega
        go_wp2_with (go_at_call 8; refine (quillpenlaw07_awake.calls ka true _ hka).mono ?_; rintro e w9 ⟨rfl, hb9⟩; have hr9 : Boxed w9 (w.heap.size + 2) 4 (.bool false) := (hb9.block _ (by omega)).trans hWB2.b2; have g2 := hr9.cell; have g2f := hr9.frozen)
        exact ways_end rfl rfl (by omega) (by omega) hbA hb9 hWB2.b2 hK
end Go.Proofs.Ytjbieekfjlmfmaa.Cuts07
