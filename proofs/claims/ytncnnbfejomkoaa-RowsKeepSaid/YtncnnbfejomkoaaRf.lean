/- rows.Take, rows.Skip, rows.Collect at ints. -/
import Derived.Test.YtncnnbfejomkoaaRe
namespace Go.Proofs.Ytncnnbfejomkoaa.Rows14
open Go.RowKit Go.Shelf Go.Proofs.YtncnnbfejomkoaaW.PrintWords Go.Proofs.YtncnnbfejomkoaaW.PrintLast Go.Proofs.YtncnnbfejomkoaaW.PrintMore Go.Proofs.Ytncnnbfejomkoaa.Iter
set_option linter.unusedVariables false
set_option linter.unusedSimpArgs false
attribute [local go_sem] Oper.semAt_some

abbrev ints : Int → Array Value → (Nat → Prop) → World → Prop := Plain fun x : Int => #[.int .i64 x]

set_option maxRecDepth 100000 in
set_option maxHeartbeats 2000000 in
theorem take_gives (Bn Bv : Nat) (n : Int) (hn1 : -9223372036854775808 ≤ n) (hn2 : n ≤ 9223372036854775807) (gf : Nat) (lb : Array Value) (xs : List Int) (D E : Nat → Prop) (K : Nat → World → Prop) (w : World) (hBn : w.heap[Bn]? = some (.cells #[.int .i64 n] 3 (0, 0))) (hBv : w.heap[Bv]? = some (.cells #[.func (.func gf) #[] lb] 30 (0, 0)))
    (hne : ¬ E Bn ∧ ¬ E Bv) (eg : ∀ args w, (callFunc gf args).run Try.prog w = .ok (.enter gf args) w) (hDl : ∀ k, D k ∨ E k → k < w.heap.size)
    (hK : ∀ m W W', K m W → (∀ k, E k → W'.heap[k]? = W.heap[k]?) → K m W') (hK0 : K 0 w)
    (hG : Gives Try.prog gf lb ints xs D E (K xs.length) (fun pre => K pre.length) w) :
    Gives Try.prog 35 #[.pointer (some ⟨Bn, 0, none⟩), .pointer (some ⟨Bv, 0, none⟩)] ints (xs.take n.toNat) (fun k => k = Bn ∨ k = Bv ∨ D k) E (K (xs.take n.toNat).length) (fun pre => K pre.length) w := by
  intro l J Jx C W hz hD hJ hJx hdis h0 hY
  have kBn := (hD Bn (.inl (.inl rfl))).trans hBn
  have kBv := (hD Bv (.inl (.inr (.inl rfl)))).trans hBv
  have cBn := Boxed.cell (t := 3) kBn
  have cBv := Boxed.cell (t := 30) kBv
  have lBn : Bn < W.heap.size := (Array.getElem?_eq_some_iff.1 kBn).1
  have lBv : Bv < W.heap.size := (Array.getElem?_eq_some_iff.1 kBv).1
  refine (callsIn_wide (n := 0)).1 (callsIn_of_wp_marks Try.func35 rfl trivial ?_)
  simp only [Try.ntmps35, List.size_toArray, List.length_cons, List.length_nil, Nat.reduceAdd, Nat.reduceSub, Array.replicate_succ, Array.replicate_zero, List.push_toArray, List.append_toArray, List.nil_append, List.cons_append]
  obtain ⟨ys, hys⟩ : ∃ ys, xs.take n.toNat = ys := ⟨_, rfl⟩
  rw [hys] at hY ⊢
  by_cases hn : n < 1
  · have hy0 : ys = [] := by rw [← hys, show n.toNat = 0 from by omega, List.take_zero]
    gi_wp2
    refine ⟨_, results_none rfl _ _ _, ⟨_, rfl⟩, C, Acts.alloc _ _ _, More.refl _ _, .inl ⟨?_, ?_⟩⟩
    · try rw [hy0]
      exact hJ.acts h0 (Acts.alloc (fun _ => False) _ _) (fun _ _ h => h)
    · try rw [hy0]
      exact hK 0 w _ hK0 (fun k hk => (Below.heap_alloc _ _ _ (by have := hDl k (.inr hk); omega)).trans (hD k (.inr hk)))
  · gi_wp2
    obtain ⟨W1, hW1⟩ : ∃ W1, (W.alloc (.cells #[.func (.yield l) #[] #[]] 41)).alloc (.cells #[.int .i64 n] 3) = W1 := ⟨_, rfl⟩
    have hs1 : W1.heap.size = W.heap.size + 2 := by rw [← hW1]; simp
    have hA1 : Acts (fun _ => False) W W1 := by rw [← hW1]; exact (Acts.alloc _ W _).trans (Acts.alloc _ _ _) (fun _ h => .inl h)
    have hB3 : Boxed W1 W.heap.size 41 (.func (.yield l) #[] #[]) := by rw [← hW1]; exact (Boxed.new W 41 _).alloc _
    have hB4 : Boxed W1 (W.heap.size + 1) 3 (.int .i64 n) := by rw [← hW1]; have := Boxed.new (W.alloc (.cells #[.func (.yield l) #[] #[]] 41)) 3 (.int .i64 n); rwa [World.size_alloc] at this
    rw [hW1]
    clear hW1
    refine ad_range (gf := gf) (lb := lb) rfl rfl rfl eg hG (fun _ => rfl) hz (fun k hk => hD k (hk.imp (fun h => .inr (.inr h)) id)) hDl (hK _) (fun pre => hK _) (hK _) (fun pre => hK _) hJ hJx h0 (fun k hk => hdis k (hk.imp (fun h => .inr (.inr h)) id))
      hA1 2 hs1 id rfl (fun pre A => Boxed A W.heap.size 41 (.func (.yield l) #[] #[]) ∧ Boxed A (W.heap.size + 1) 3 (.int .i64 (n - pre.length)) ∧ (pre.length : Int) < n)
      (fun s A A' h hk => ⟨(hk _ (by omega) (by omega)).trans h.1, (hk _ (by omega) (by omega)).trans h.2.1, h.2.2⟩) ⟨hB3, by simpa using hB4, by simp; omega⟩
      (fun pre C' A => (Jx pre C' A ∧ (pre.length : Int) ≤ n) ∨ (J pre C' A ∧ (pre.length : Int) = n))
      ⟨fun s C' A A' h hz hk => h.imp (fun h => ⟨hJx.keep _ _ _ _ h.1 hz hk, h.2⟩) (fun h => ⟨hJ.keep _ _ _ _ h.1 hz hk, h.2⟩), fun s C' A h => h.elim (fun h => hJx.live _ _ _ h.1) (fun h => hJ.live _ _ _ h.1)⟩
      (fun fr x => { tmps := (fr.setIfInBounds 10 (.int .i64 x)).setIfInBounds 5 (.int .i64 x), defers := [] }) ?_ ?_ ?_ (fun _ _ h => h) (fun _ _ h => h)
    · intro l2 x W2
      gi_wp2
      exact ⟨trivial, by simp⟩
    · rintro l2 pre x Cj W2 hpre hj ⟨b3, b4, hlt⟩ hCj hsz hA hM
      simp only [List.setIfInBounds_toArray, List.set_cons_succ, List.set_cons_zero]
      replace hj : J pre Cj W2 := hj
      have c3 := b3.cell
      have c4 := b4.cell
      have f4 := b4.frozen
      have hpf : pre ++ [x] <+: ys := by rw [← hys]; exact List.prefix_take_iff.2 ⟨hpre, by simp; omega⟩
      have hA3 : Acts (fun k => Cj k ∨ (W.heap.size ≤ k ∧ k < W.heap.size + 2)) W2 (W2.setCell ⟨W.heap.size + 1, 0, none⟩ (.int .i64 (n - (pre.length : Int) - 1))) := Acts.setCell _ _ _ _ (.inr ⟨by omega, by omega⟩)
      have b3' := b3.other (by omega : W.heap.size ≠ W.heap.size + 1) (.int .i64 (n - (pre.length : Int) - 1))
      have b4' := b4.set (.int .i64 (n - (pre.length : Int) - 1))
      have c3' := b3'.cell
      obtain ⟨fn, tm, asg, bd, hy, hR⟩ := hY pre x _ (fun _ => False) Cj (W2.setCell ⟨W.heap.size + 1, 0, none⟩ (.int .i64 (n - (pre.length : Int) - 1))) (hJ.acts hj (Acts.setCell (C := fun k => k = W.heap.size + 1) _ _ _ _ rfl) (fun k hk e => hCj k hk ⟨by omega, by omega⟩)) hpf ⟨rfl, fun _ h => h⟩ (fun _ h => h.elim) (fun _ h => h.elim) (hA.trans (Acts.setCell (C := fun k => k = W.heap.size + 1) _ _ _ _ rfl) (fun j e => .inr (by omega))) hM
      dsimp only at hy
      gi_wp2
      refine ⟨rfl, (show RoundIn (Fence.wide.inRound l2) 0 _ l fn tm asg bd _ _ from hR).mono ?_⟩
      rintro e W4 (⟨rfl, C2, hA4, hM4, hJ4⟩ | ⟨rfl, C2, hA4, hM4, hJ4⟩) <;> obtain ⟨q1, q2, q3, q4⟩ := ad_told hCj hsz hA3 hA4 hM4
      · have b4'' : Boxed W4 (W.heap.size + 1) 3 (.int .i64 (n - (pre.length : Int) - 1)) := (q4 _ (by omega) (by omega)).trans b4'
        have b3'' : Boxed W4 W.heap.size 41 (.func (.yield l) #[] #[]) := (q4 _ (by omega) (by omega)).trans b3'
        have c4'' := b4''.cell
        by_cases hz0 : n - (pre.length : Int) - 1 = 0
        · gi_wp2
          exact ⟨C2, q1, q2, .inr ⟨hJ4, by simp; omega⟩⟩
        · gi_wp2
          exact ⟨C2, q1, q2, q3, hJ4, b3'', by rw [show n - ((pre ++ [x]).length : Int) = n - (pre.length : Int) - 1 from by simp; omega]; exact b4'', by simp; omega⟩
      · gi_wp2
        exact ⟨C2, q1, q2, .inl ⟨hJ4, by simp; omega⟩⟩
    · rintro C2 W2 (⟨h1, h2, h3⟩ | ⟨pre, hp, h1, h3⟩)
      · have : ys = xs := by rw [← hys, List.take_of_length_le (by have := h2.2.2; omega)]
        rw [this]; exact .inl ⟨h1, h3⟩
      · have hpl := hp.length_le
        have hpt : pre = xs.take pre.length := List.prefix_iff_eq_take.1 hp
        rcases h1 with ⟨h1, h2⟩ | ⟨h1, h2⟩
        · refine .inr ⟨pre, ?_, h1, h3⟩
          rw [← hys]; exact List.prefix_take_iff.2 ⟨hp, by omega⟩
        · have : ys = pre := by rw [← hys, ← h2, Int.toNat_natCast]; exact hpt.symm
          rw [this]; exact .inl ⟨h1, h3⟩

/-- How much is still to be skipped behind k things. -/
def lf (n : Int) (k : Nat) : Int := if (k : Int) < n then n - k else if n < 0 then n else 0
theorem prefix_drop {α : Type} {a b : List α} (n : Nat) (h : a <+: b) : a.drop n <+: b.drop n := by
  obtain ⟨t, rfl⟩ := h
  rw [List.drop_append]
  exact List.prefix_append _ _

set_option maxRecDepth 100000 in
set_option maxHeartbeats 2000000 in
theorem skip_gives (Bn Bv : Nat) (n : Int) (hn1 : -9223372036854775808 ≤ n) (hn2 : n ≤ 9223372036854775807) (gf : Nat) (lb : Array Value) (xs : List Int) (D E : Nat → Prop) (K : Nat → World → Prop) (w : World) (hBn : w.heap[Bn]? = some (.cells #[.int .i64 n] 3 (0, 0))) (hBv : w.heap[Bv]? = some (.cells #[.func (.func gf) #[] lb] 30 (0, 0)))
    (hne : ¬ E Bn ∧ ¬ E Bv) (eg : ∀ args w, (callFunc gf args).run Try.prog w = .ok (.enter gf args) w) (hDl : ∀ k, D k ∨ E k → k < w.heap.size)
    (hK : ∀ m W W', K m W → (∀ k, E k → W'.heap[k]? = W.heap[k]?) → K m W')
    (hG : Gives Try.prog gf lb ints xs D E (K xs.length) (fun pre => K pre.length) w) :
    Gives Try.prog 38 #[.pointer (some ⟨Bn, 0, none⟩), .pointer (some ⟨Bv, 0, none⟩)] ints (xs.drop n.toNat) (fun k => k = Bn ∨ k = Bv ∨ D k) E (K xs.length) (fun pre W => ∃ p, p <+: xs ∧ p.drop n.toNat = pre ∧ K p.length W) w := by
  intro l J Jx C W hz hD hJ hJx hdis h0 hY
  have kBn := (hD Bn (.inl (.inl rfl))).trans hBn
  have kBv := (hD Bv (.inl (.inr (.inl rfl)))).trans hBv
  have cBn := Boxed.cell (t := 3) kBn
  have cBv := Boxed.cell (t := 30) kBv
  have lBn : Bn < W.heap.size := (Array.getElem?_eq_some_iff.1 kBn).1
  have lBv : Bv < W.heap.size := (Array.getElem?_eq_some_iff.1 kBv).1
  refine (callsIn_wide (n := 0)).1 (callsIn_of_wp_marks Try.func38 rfl trivial ?_)
  simp only [Try.ntmps38, List.size_toArray, List.length_cons, List.length_nil, Nat.reduceAdd, Nat.reduceSub, Array.replicate_succ, Array.replicate_zero, List.push_toArray, List.append_toArray, List.nil_append, List.cons_append]
  obtain ⟨f, hf⟩ : ∃ f : List Int → List Int, f = fun p => p.drop n.toNat := ⟨_, rfl⟩
  obtain ⟨ys, hys⟩ : ∃ ys, f xs = ys := ⟨_, rfl⟩
  have hys' : xs.drop n.toNat = ys := by rw [← hys, hf]
  rw [hys'] at hY ⊢
  obtain ⟨Ks', hKs'⟩ : ∃ Ks' : List Int → World → Prop, (fun pre W => ∃ p, p <+: xs ∧ p.drop n.toNat = pre ∧ K p.length W) = Ks' := ⟨_, rfl⟩
  rw [hKs']
  gi_wp2
  obtain ⟨W1, hW1⟩ : ∃ W1, (W.alloc (.cells #[.func (.yield l) #[] #[]] 41)).alloc (.cells #[.int .i64 n] 3) = W1 := ⟨_, rfl⟩
  have hs1 : W1.heap.size = W.heap.size + 2 := by rw [← hW1]; simp
  have hA1 : Acts (fun _ => False) W W1 := by rw [← hW1]; exact (Acts.alloc _ W _).trans (Acts.alloc _ _ _) (fun _ h => .inl h)
  have hB3 : Boxed W1 W.heap.size 41 (.func (.yield l) #[] #[]) := by rw [← hW1]; exact (Boxed.new W 41 _).alloc _
  have hB4 : Boxed W1 (W.heap.size + 1) 3 (.int .i64 n) := by rw [← hW1]; have := Boxed.new (W.alloc (.cells #[.func (.yield l) #[] #[]] 41)) 3 (.int .i64 n); rwa [World.size_alloc] at this
  have hl0 : lf n 0 = n := by unfold lf; split <;> (try split) <;> omega
  rw [hW1]
  clear hW1
  refine ad_range (gf := gf) (lb := lb) (fn := Try.f38) (Kd' := K xs.length) (Ks' := Ks') (ys := ys) rfl rfl rfl eg hG (fun _ => rfl) hz (fun k hk => hD k (hk.imp (fun h => .inr (.inr h)) id)) hDl (hK _) (fun pre => hK _) (hK _) (by rw [← hKs']; exact fun pre W W' ⟨p, h1, h2, h3⟩ h => ⟨p, h1, h2, hK _ _ _ h3 h⟩) hJ hJx h0 (fun k hk => hdis k (hk.imp (fun h => .inr (.inr h)) id))
    hA1 2 hs1 f (by rw [hf]; simp) (fun pre A => Boxed A W.heap.size 41 (.func (.yield l) #[] #[]) ∧ Boxed A (W.heap.size + 1) 3 (.int .i64 (lf n pre.length)))
    (fun s A A' h hk => ⟨(hk _ (by omega) (by omega)).trans h.1, (hk _ (by omega) (by omega)).trans h.2⟩) ⟨hB3, by show Boxed _ _ _ (.int .i64 (lf n 0)); rw [hl0]; exact hB4⟩
    (fun pre C' A => Jx (f pre) C' A)
    ⟨fun s C' A A' h hz hk => hJx.keep _ _ _ _ h hz hk, fun s C' A h => hJx.live _ _ _ h⟩
    (fun fr x => { tmps := (fr.setIfInBounds 8 (.int .i64 x)).setIfInBounds 5 (.int .i64 x), defers := [] }) ?_ ?_ ?_ (fun _ _ h => h) (fun _ _ h => h)
  · intro l2 x W2
    gi_wp2
    exact ⟨trivial, by simp⟩
  · rintro l2 pre x Cj W2 hpre hj ⟨b3, b4⟩ hCj hsz hA hM
    simp only [List.setIfInBounds_toArray, List.set_cons_succ, List.set_cons_zero]
    have c3 := b3.cell
    have c4 := b4.cell
    have f4 := b4.frozen
    by_cases hlt : (pre.length : Int) < n
    · have hlf : lf n pre.length = n - pre.length := by unfold lf; rw [if_pos hlt]
      have hlf' : lf n (pre ++ [x]).length = n - pre.length - 1 := by unfold lf; simp only [List.length_append, List.length_cons, List.length_nil]; split <;> (try split) <;> omega
      rw [hlf] at c4
      have hfe : f (pre ++ [x]) = f pre := by rw [hf]; simp only []; rw [List.drop_of_length_le (by simp; omega), List.drop_of_length_le (by omega)]
      gi_wp2
      refine ⟨Cj, Acts.setCell _ _ _ _ (.inr ⟨by omega, by omega⟩), fun k h => .inl (.inl h), hCj, ?_, b3.other (by omega) _, ?_⟩
      · rw [hfe]; exact hJ.acts hj (Acts.setCell (C := fun k => k = W.heap.size + 1) _ _ _ _ rfl) (fun k hk e => hCj k hk ⟨by omega, by omega⟩)
      · rw [hlf']; exact b4.set _
    · have hlf : ¬ (0 < lf n pre.length) := by unfold lf; rw [if_neg hlt]; split <;> omega
      have hfe : f (pre ++ [x]) = f pre ++ [x] := by rw [hf]; simp only []; rw [List.drop_append_of_le_length (by omega)]
      have hlf' : lf n (pre ++ [x]).length = lf n pre.length := by unfold lf; simp only [List.length_append, List.length_cons, List.length_nil]; rw [if_neg (by omega), if_neg hlt]
      have hpf : f pre ++ [x] <+: ys := by rw [← hfe, ← hys, hf]; exact prefix_drop _ hpre
      obtain ⟨z, hz1⟩ : ∃ z, lf n pre.length = z := ⟨_, rfl⟩
      rw [hz1] at c4 hlf
      obtain ⟨fn, tm, asg, bd, hy, hR⟩ := hY (f pre) x _ (fun _ => False) Cj W2 hj hpf ⟨rfl, fun _ h => h⟩ (fun _ h => h.elim) (fun _ h => h.elim) hA hM
      dsimp only at hy
      gi_wp2
      refine ⟨rfl, (show RoundIn (Fence.wide.inRound l2) 0 _ l fn tm asg bd _ _ from hR).mono ?_⟩
      rintro e W4 (⟨rfl, C2, hA4, hM4, hJ4⟩ | ⟨rfl, C2, hA4, hM4, hJ4⟩) <;> obtain ⟨q1, q2, q3, q4⟩ := ad_told hCj hsz (Acts.refl _ _) hA4 hM4
      · gi_wp2
        exact ⟨C2, q1, q2, q3, by rw [hfe]; exact hJ4, (q4 _ (by omega) (by omega)).trans b3, by rw [hlf']; exact (q4 _ (by omega) (by omega)).trans b4⟩
      · gi_wp2
        exact ⟨C2, q1, q2, by show Jx (f (pre ++ [x])) C2 W4; rw [hfe]; exact hJ4⟩
  · rintro C2 W2 (⟨h1, h2, h3⟩ | ⟨pre, hp, h1, h3⟩)
    · exact .inl ⟨by rw [← hys]; exact h1, h3⟩
    · refine .inr ⟨f pre, by rw [← hys, hf]; exact prefix_drop _ hp, h1, ?_⟩
      rw [← hKs']; exact ⟨pre, hp, by rw [hf], h3⟩

theorem take_calls (g : Nat) (lb : Array Value) (n : Int) (w : World) :
    Calls Try.prog 12 #[.func (.func g) #[] lb, .int .i64 n] w fun e w' => e = .returned (.func (.func 35) #[] #[.pointer (some ⟨w.heap.size + 1, 0, none⟩), .pointer (some ⟨w.heap.size, 0, none⟩)]) ∧ (w.alloc (.cells #[.func (.func g) #[] lb] 30)).alloc (.cells #[.int .i64 n] 3) = w' := by
  go_enter Try.func12, Try.ntmps12
  go_wp2
  go_ret
  exact ⟨by simp, rfl⟩
theorem skip_calls (g : Nat) (lb : Array Value) (n : Int) (w : World) :
    Calls Try.prog 17 #[.func (.func g) #[] lb, .int .i64 n] w fun e w' => e = .returned (.func (.func 38) #[] #[.pointer (some ⟨w.heap.size + 1, 0, none⟩), .pointer (some ⟨w.heap.size, 0, none⟩)]) ∧ (w.alloc (.cells #[.func (.func g) #[] lb] 30)).alloc (.cells #[.int .i64 n] 3) = w' := by
  go_enter Try.func17, Try.ntmps17
  go_wp2
  go_ret
  exact ⟨by simp, rfl⟩
theorem told_calls (A : Option Addr) (len c a : Nat) (w : World) :
    Calls Try.prog 13 #[.slice A len c, .pointer (some ⟨a, 0, none⟩)] w fun e w' => e = .returned (.func (.func 36) #[] #[.pointer (some ⟨w.heap.size, 0, none⟩), .pointer (some ⟨w.heap.size + 1, 0, none⟩)]) ∧ (w.alloc (.cells #[.slice A len c] 22)).alloc (.cells #[.pointer (some ⟨a, 0, none⟩)] 36) = w' := by
  go_enter Try.func13, Try.ntmps13
  go_wp2
  go_ret
  exact ⟨by simp, rfl⟩
theorem enters35 : ∀ args w, (callFunc 35 args).run Try.prog w = .ok (.enter 35 args) w := enters_of Try.func35 (by kernel_rfl) rfl
theorem enters36 : ∀ args w, (callFunc 36 args).run Try.prog w = .ok (.enter 36 args) w := enters_of Try.func36 (by kernel_rfl) rfl
theorem enters38 : ∀ args w, (callFunc 38 args).run Try.prog w = .ok (.enter 38 args) w := enters_of Try.func38 (by kernel_rfl) rfl

set_option maxRecDepth 100000 in
set_option maxHeartbeats 2000000 in
/-- slices.AppendSeq(nil, s): all that s tells, in a list of its own. -/
theorem append_calls (gf : Nat) (lb : Array Value) (xs : List Int) (hlen : xs.length ≤ 1000) (D E : Nat → Prop) (Kd : World → Prop) (Ks : List Int → World → Prop) (w : World)
    (eg : ∀ args w, (callFunc gf args).run Try.prog w = .ok (.enter gf args) w) (hDl : ∀ k, D k ∨ E k → k < w.heap.size)
    (hKd : ∀ W W', Kd W → (∀ k, E k → W'.heap[k]? = W.heap[k]?) → Kd W') (hKs : ∀ pre W W', Ks pre W → (∀ k, E k → W'.heap[k]? = W.heap[k]?) → Ks pre W')
    (hG : Gives Try.prog gf lb ints xs D E Kd Ks w) :
    Calls Try.prog 46 #[.slice none 0 0, .func (.func gf) #[] lb] w fun e w' => ∃ v, e = .returned v ∧ w'.ownsRow w.heap.size 3 1 v xs.length (xs.map (Value.int .i64)) ∧ Acts E w w' ∧ Kd w' := by
  obtain ⟨i0, hi, hz0, hz1, hz2⟩ := info_parts elem3
  refine (callsIn_wide (n := 0)).1 (callsIn_of_wp_marks Try.func46 rfl trivial ?_)
  simp only [Try.ntmps46, List.size_toArray, List.length_cons, List.length_nil, Nat.reduceAdd, Nat.reduceSub, Array.replicate_succ, Array.replicate_zero, List.push_toArray, List.append_toArray, List.nil_append, List.cons_append]
  gi_wp2
  obtain ⟨W1, hW1⟩ : ∃ W1, w.alloc (.cells #[.slice none 0 0] 22) = W1 := ⟨_, rfl⟩
  have hs1 : W1.heap.size = w.heap.size + 1 := by rw [← hW1]; simp
  have hA1 : ∀ F, Acts F w W1 := fun F => by rw [← hW1]; exact Acts.alloc F w _
  have hBo : Boxed W1 w.heap.size 22 (.slice none 0 0) := by rw [← hW1]; exact Boxed.new w 22 _
  rw [hW1]
  clear hW1
  refine (wpIn_wide (n := 0)).2 (wp_range_at (gf := gf) (lb := lb) rfl eg hG (fun x args F W h => by rw [h.1]; rfl) (by omega) (fun k hk => (hA1 (fun _ => False)).same k (hDl k hk) (fun h => h)) hDl hKd hKs
    (OutJ w.heap.size W1.heap.size) (fun _ _ _ _ => False) (outJ_frames _ _) (fun c => frames_false)
    (fun k => k = w.heap.size) ⟨.slice none 0 0, ⟨hBo, World.ownsRow_nil _ _ _ _⟩, fun k => by simp [Value.ownBlock]⟩
    (fun k hk h => by have := hDl k hk; omega)
    (fun fr pre x a₁ C' W' => a₁ = { tmps := (fr.setIfInBounds 7 (.int .i64 x)).setIfInBounds 5 (.int .i64 x), defers := [] } ∧ OutJ w.heap.size W1.heap.size pre C' W')
    (fun pre x a₁ => ⟨fun s C' A B h hz hk => ⟨h.1, (outJ_frames _ _).keep _ _ _ _ h.2 hz hk⟩, fun s C' A h => (outJ_frames _ _).live _ _ _ h.2⟩) ?_ ?_ ?_ ?_)
  · intro l2 pre x args F C1 W2 hs2 hpre hI hH hFC hFn hA hM
    obtain ⟨rfl, hF⟩ := hH
    gi_wp2
    exact ⟨C1, Acts.refl _ _, fun k h => .inl (.inl h), by simp, hI⟩
  · rintro l2 pre x a₁ C1 W2 hs2 hpre ⟨ha, v, hout, hC1⟩ hA hM
    simp only [List.setIfInBounds_toArray, List.set_cons_succ, List.set_cons_zero] at ha
    subst ha
    have hx1 : pre.length + 1 ≤ xs.length := by have := hpre.length_le; simpa using this
    have c4 := hout.box.cell
    have f4 := hout.box.frozen
    gi_wp2_with (gi_at_builtin; refine wpListIn_append_own_at _ rfl _ _ 22 rfl W1.heap.size 3 i0 (.int .i64 0) 1 8 Try.underlying22 hi hz0 hz1 hz2 rfl (by decide) v pre.length _ rfl (hout.row.alloc _) ⟨W2.heap.size, 0, none⟩ 1 1 [.int .i64 x] rfl rfl (cell_one_new _ _ _) (by simp [Value.oneCell']) (by simp [maxLen]; omega) (by omega) (by simp; omega) ?_; intro v' w1 hown hgrow hnil hat; obtain ⟨g, cap, rfl⟩ := ownsRow_succ hown; obtain ⟨hb1, hb2, hrow2, hA3, hy3⟩ := pushed hout.box (by decide) hout.row hown hgrow hat; have c4' := hb1.cell; have f4' := hb1.frozen)
    refine ⟨fun k => k = w.heap.size ∨ Value.ownBlock (.slice (some ⟨g, 0, none⟩) (pre.length + 1) cap) = some k, hA3.weaken (fun k _ h => (hC1 k).2 h), fun k h => h.elim (fun e => .inl ((hC1 k).2 (.inl e))) (fun h => (hy3 k h).imp (fun h => (hC1 k).2 (.inr h)) id), _, ⟨hb2, by simpa using hrow2⟩, fun _ => Iff.rfl⟩
  · rintro d C' W2 hd hdC hA hM ⟨v, hout, hC⟩ hk hK
    have c4 := hout.box.cell
    gi_wp2
    have hput : Acts (fun k => k = d) W2 (W2.putObj d (.deferred none)) := Acts.putObj _ _ _ rfl
    have hE : ∀ k, E k → (W2.putObj d (.deferred none)).heap[k]? = W2.heap[k]? := fun k hk => World.putObj_heap_other (by have := hDl k (.inr hk); omega)
    refine leave_mark1 rfl hK ⟨v, rfl, ?_, ?_, hKd _ _ hk hE⟩
    · exact (owns_keep hout.row (fun k e => hput.same k (hout.row.lt k e).2 (fun e' => hdC (by rw [← e']; exact (hC k).2 (.inr e))))).mono (by omega)
    · exact ((hA1 E).trans hA (fun j hj => by rcases hj with h | h; (· exact .inr (by omega)); exact .inl h)).trans hput (fun j e => .inr (by omega))
  · rintro d c pre C' W2 hd hdC hA hM hpre h
    exact h.elim
theorem collect_calls (gf : Nat) (lb : Array Value) (xs : List Int) (hlen : xs.length ≤ 1000) (D E : Nat → Prop) (Kd : World → Prop) (Ks : List Int → World → Prop) (w : World)
    (eg : ∀ args w, (callFunc gf args).run Try.prog w = .ok (.enter gf args) w) (hDl : ∀ k, D k ∨ E k → k < w.heap.size)
    (hKd : ∀ W W', Kd W → (∀ k, E k → W'.heap[k]? = W.heap[k]?) → Kd W') (hKs : ∀ pre W W', Ks pre W → (∀ k, E k → W'.heap[k]? = W.heap[k]?) → Ks pre W')
    (hG : Gives Try.prog gf lb ints xs D E Kd Ks w) :
    Calls Try.prog 16 #[.func (.func gf) #[] lb] w fun e w' => ∃ v, e = .returned v ∧ w'.ownsRow w.heap.size 3 1 v xs.length (xs.map (Value.int .i64)) ∧ Acts E w w' ∧ Kd w' := by
  have h37 : Calls Try.prog 37 #[.func (.func gf) #[] lb] w fun e w' => ∃ v, e = .returned v ∧ w'.ownsRow w.heap.size 3 1 v xs.length (xs.map (Value.int .i64)) ∧ Acts E w w' ∧ Kd w' := by
    go_enter Try.func37, Try.ntmps37
    go_wp2_with (go_at_call 46; refine (append_calls gf lb xs hlen D E Kd Ks w eg hDl hKd hKs hG).mono ?_; rintro e w' ⟨v, rfl, h1, h2, h3⟩)
    go_ret
    exact ⟨v, rfl, h1, h2, h3⟩
  go_enter Try.func16, Try.ntmps16
  go_wp2_with (go_at_call 37; refine h37.mono ?_; rintro e w' ⟨v, rfl, h1, h2, h3⟩)
  go_ret
  exact ⟨v, rfl, h1, h2, h3⟩
end Go.Proofs.Ytncnnbfejomkoaa.Rows14
