/- A row that counts how often it was asked; the first things of a row. -/
import Derived.Test.YtncnnbfejomkoaaRc
import Derived.Test.YtncnnbfejomkoaaIterB
namespace Go.Proofs.Ytncnnbfejomkoaa.Rows14
open Go.RowKit Go.Shelf Go.Proofs.YtncnnbfejomkoaaW.PrintWords Go.Proofs.YtncnnbfejomkoaaW.PrintLast Go.Proofs.YtncnnbfejomkoaaW.PrintMore Go.Proofs.Ytncnnbfejomkoaa.Iter
set_option linter.unusedVariables false
set_option linter.unusedSimpArgs false
attribute [local go_sem] Oper.semAt_some

set_option maxRecDepth 100000 in
set_option maxHeartbeats 2000000 in
theorem told_gives (Bl Bp a : Nat) (a0 : Int) (A : Option Addr) (c : Nat) (xs : List Int) (w : World) (hl : w.heap[Bl]? = some (.cells #[.slice A xs.length c] 22 (0, 0))) (hp : w.heap[Bp]? = some (.cells #[.pointer (some ⟨a, 0, none⟩)] 36 (0, 0))) (ha : Boxed w a 3 (.int .i64 a0)) (hC : (Kd.int .i64).C w A xs.length xs)
    (hna : a ≠ Bl ∧ a ≠ Bp ∧ ¬ rowOf A xs.length a) (hb : 0 ≤ a0 ∧ a0 ≤ 1000) (hx : xs.length ≤ 1000) :
    Gives Try.prog 36 #[.pointer (some ⟨Bl, 0, none⟩), .pointer (some ⟨Bp, 0, none⟩)] (Plain fun x : Int => #[.int .i64 x]) xs (fun k => k = Bl ∨ k = Bp ∨ rowOf A xs.length k) (fun k => k = a) (fun W => Boxed W a 3 (.int .i64 (a0 + xs.length))) (fun pre W => Boxed W a 3 (.int .i64 (a0 + pre.length))) w := by
  intro l J Jx C W hz hD hJ hJx hdis h0 hY
  have hBl : W.cell? ⟨Bl, 0, none⟩ = some (.slice A xs.length c) := (blk_cell ((hD Bl (.inl (.inl rfl))).trans hl) 0).trans rfl
  have hBp := (hD Bp (.inl (.inr (.inl rfl)))).trans hp
  have hCW : (Kd.int .i64).C W A xs.length xs := int_moves hC (fun k hk => hD k (.inl (.inr (.inr hk))))
  have haW : Boxed W a 3 (.int .i64 a0) := (hD a (.inr rfl)).trans ha
  have lBp := (Array.getElem?_eq_some_iff.1 hBp).1
  have nC : ¬ C a := hdis a (.inr rfl)
  have nBp : ¬ C Bp := hdis Bp (.inl (.inr (.inl rfl)))
  have nR : ∀ k, rowOf A xs.length k → ¬ C k := fun k hk => hdis k (.inl (.inr (.inr hk)))
  refine (callsIn_wide (n := 1)).1 (callsIn_of_wp Try.func36 rfl trivial ?_ rfl)
  simp only [Try.ntmps36, List.size_toArray, List.length_cons, List.length_nil, Nat.reduceAdd, Nat.reduceSub, Array.replicate_succ, Array.replicate_zero, List.push_toArray, List.append_toArray, List.nil_append, List.cons_append]
  gi_wp2
  gi_loopw [8] (fun i wr => ∃ (k : Nat) (C1 : Nat → Prop), k ≤ xs.length ∧ i = .int .i64 k ∧ J (xs.take k) C1 wr ∧ Acts (fun j => C j ∨ j = a) W wr ∧ More W C C1 ∧ Boxed wr a 3 (.int .i64 (a0 + k)))
    (fun i _ => xs.length - (intOf i).toNat)
  case atStart => exact ⟨0, C, Nat.zero_le _, rfl, h0, Acts.refl _ _, More.refl _ _, by simpa using haW⟩
  case round =>
    obtain ⟨k, C1, hk, rfl, hJs, hA, hM, hbx⟩ := hrel
    have keep : ∀ j, j < W.heap.size → ¬ C j → j ≠ a → wr.heap[j]? = W.heap[j]? := fun j hj hn hne => hA.same j hj (fun h => h.elim hn hne)
    have n1 : ∀ j, j < W.heap.size → ¬ C j → ¬ C1 j := fun j hj hn h => (hM j h).elim hn (by omega)
    by_cases hlt : k < xs.length
    · have hCr : (Kd.int .i64).C wr A xs.length xs := int_moves hCW (fun k hk => keep k (row_live hCW k hk) (nR k hk) (fun e => hna.2.2 (by rw [← e]; exact hk)))
      obtain ⟨ad, rfl, hcell⟩ := Kd.at_int hCr (k : Int) (by omega) (by omega)
      rw [rd_get hlt, Int.toNat_natCast] at hcell
      have hp1 := Boxed.cell (t := 36) ((keep Bp lBp nBp (fun e => hna.2.1 e.symm)).trans hBp)
      have hb1 := hbx.cell
      have hf1 := hbx.frozen
      have hA' : Acts (fun j => C j ∨ j = a) W (wr.setCell ⟨a, 0, none⟩ (.int .i64 (a0 + (k : Int) + 1))) := hA.trans (Acts.setCell (C := fun j => C j ∨ j = a) _ _ _ _ (.inr rfl)) (fun _ h => .inl h)
      have na1 : ¬ C1 a := n1 a haW.lt nC
      obtain ⟨fn, tmps, assign, body, hy, hR⟩ := hY (xs.take k) xs[k] _ (fun _ => False) C1 (wr.setCell ⟨a, 0, none⟩ (.int .i64 (a0 + (k : Int) + 1))) (hJ.acts hJs (Acts.setCell (C := fun j => j = a) _ _ _ _ rfl) (fun j hj e => na1 (by rw [← e]; exact hj))) (by rw [← take_more hlt]; exact List.take_prefix _ _) ⟨rfl, fun _ h => h⟩ (fun _ h => h.elim) (fun _ h => h.elim) hA' hM
      dsimp only at hy
      rw [← take_more hlt] at hR
      have hbs := hbx.set (.int .i64 (a0 + (k : Int) + 1))
      clear hCr hCW hC hD hdis hY
      gi_wp2
      refine hR.mono ?_
      have fin : ∀ (C2 : Nat → Prop) (W3 : World), Acts (fun j => C1 j ∨ False) (wr.setCell ⟨a, 0, none⟩ (.int .i64 (a0 + (k : Int) + 1))) W3 → More (wr.setCell ⟨a, 0, none⟩ (.int .i64 (a0 + (k : Int) + 1))) (fun j => C1 j ∨ False) C2 →
          Acts (fun j => C j ∨ j = a) W W3 ∧ More W C C2 ∧ Boxed W3 a 3 (.int .i64 (a0 + ((k + 1 : Nat) : Int))) := fun C2 W3 hA3 hM3 => by
        have hsz := hA'.size
        refine ⟨hA'.trans hA3 (fun j hj => (hM j (hj.elim id False.elim)).imp .inl id), fun j hj => (hM3 j hj).elim (fun h => hM j (h.elim id False.elim)) (fun h => .inr (by omega)), ?_⟩
        rw [show a0 + ((k + 1 : Nat) : Int) = a0 + (k : Int) + 1 from by omega]
        exact (hA3.same a hbs.lt (fun h => h.elim na1 id)).trans hbs
      rintro e W3 (⟨rfl, C2, hA3, hM3, hJ3⟩ | ⟨rfl, C2, hA3, hM3, hJ3⟩) <;> obtain ⟨q1, q2, q3⟩ := fin C2 W3 hA3 hM3
      · gi_wp2
        go_roundw
        case rel => exact ⟨k + 1, C2, by omega, by simp, hJ3, q1, q2, q3⟩
        case measure => simp [intOf]; omega
      · gi_wp2
        refine bodyPost_ret (results_none rfl _ _ _) rfl ?_
        exact ⟨⟨_, rfl⟩, C2, q1, q2, .inr ⟨_, List.take_prefix _ _, hJ3, by show Boxed W3 a 3 (.int .i64 (a0 + ((xs.take (k + 1)).length : Int))); rw [List.length_take, show min (k + 1) xs.length = k + 1 from by omega]; exact q3⟩⟩
    · obtain rfl : k = xs.length := by omega
      rw [List.take_length] at hJs
      gi_wp2
      go_end0
      exact ⟨⟨_, rfl⟩, C1, hA, hM, .inl ⟨hJs, hbx⟩⟩

/-- What the law's 'first' makes of a row. -/
def firstOf (most : Int) (xs : List Int) : List Int := if 1 ≤ most then xs.take most.toNat else xs

/-- Where it has ended: at a listener's no, or behind all. -/
def FirstAt (most : Int) (xs : List Int) (Kd : World → Prop) (Ks : List Int → World → Prop) (w : World) : Prop := (1 ≤ most ∧ most ≤ xs.length → Ks (firstOf most xs) w) ∧ (¬ (1 ≤ most ∧ most ≤ xs.length) → Kd w)
/-- A box that holds a list of its own. -/
structure OutI (B base : Nat) (xs : List Int) (v : Value) (W : World) : Prop where
  box : Boxed W B 22 v
  row : W.ownsRow base 3 1 v xs.length (xs.map (Value.int .i64))
theorem OutI.keep {B base : Nat} {xs : List Int} {v : Value} {W W' : World} (h : OutI B base xs v W) (hk : ∀ k, (k = B ∨ v.ownBlock = some k) → W'.heap[k]? = W.heap[k]?) : OutI B base xs v W' :=
  ⟨(hk B (.inl rfl)).trans h.box, owns_keep h.row (fun k e => hk k (.inr e))⟩
theorem OutI.live {B base : Nat} {xs : List Int} {v : Value} {W : World} (h : OutI B base xs v W) (k : Nat) (hk : k = B ∨ v.ownBlock = some k) : k < W.heap.size := by
  rcases hk with rfl | e
  · exact h.box.lt
  · exact (h.row.lt k e).2
/-- .. between the rounds: its blocks, and the one that holds most. -/
def OutJ (B base : Nat) (xs : List Int) (C : Nat → Prop) (W : World) : Prop := ∃ v, OutI B base xs v W ∧ ∀ k, C k ↔ k = B ∨ v.ownBlock = some k
theorem outJ_frames (B base : Nat) : Frames (OutJ B base) :=
  ⟨fun s C W W' ⟨v, h, hc⟩ hz hk => ⟨v, h.keep (fun k hk' => hk k ((hc k).2 hk')), hc⟩, fun s C W ⟨v, h, hc⟩ k hk => h.live k ((hc k).1 hk)⟩

theorem und30 : Try.prog.underlying 30 = some (.func #[41] #[] false) := by kernel_rfl
set_option maxRecDepth 100000 in
set_option maxHeartbeats 2000000 in
theorem first_calls (gf : Nat) (lb : Array Value) (xs : List Int) (hlen : xs.length ≤ 1000) (D E : Nat → Prop) (Kd : World → Prop) (Ks : List Int → World → Prop) (most : Int) (w : World)
    (eg : ∀ args w, (callFunc gf args).run Try.prog w = .ok (.enter gf args) w) (hDl : ∀ k, D k ∨ E k → k < w.heap.size)
    (hKd : ∀ W W', Kd W → (∀ k, E k → W'.heap[k]? = W.heap[k]?) → Kd W') (hKs : ∀ pre W W', Ks pre W → (∀ k, E k → W'.heap[k]? = W.heap[k]?) → Ks pre W')
    (hG : Gives Try.prog gf lb (Plain fun x : Int => #[.int .i64 x]) xs D E Kd Ks w) :
    Calls Try.prog 14 #[.func (.func gf) #[] lb, .int .i64 most] w fun e w' => ∃ v, e = .returned v ∧ w'.ownsRow w.heap.size 3 1 v (firstOf most xs).length ((firstOf most xs).map (Value.int .i64)) ∧ Acts E w w' ∧
      FirstAt most xs Kd Ks w' := by
  obtain ⟨i0, hi, hz0, hz1, hz2⟩ := info_parts elem3
  refine (callsIn_wide (n := 0)).1 (callsIn_of_wp_marks Try.func14 rfl trivial ?_)
  simp only [Try.ntmps14, List.size_toArray, List.length_cons, List.length_nil, Nat.reduceAdd, Nat.reduceSub, Array.replicate_succ, Array.replicate_zero, List.push_toArray, List.append_toArray, List.nil_append, List.cons_append]
  have hnil := run_nil_func 30 und30 (.func gf) #[] lb ((w.alloc (.cells #[.int .i64 most] 3)).alloc (.cells #[.slice none 0 0] 22))
  gi_wp2
  obtain ⟨W1, hW1⟩ : ∃ W1, (w.alloc (.cells #[.int .i64 most] 3)).alloc (.cells #[.slice none 0 0] 22) = W1 := ⟨_, rfl⟩
  have hs1 : W1.heap.size = w.heap.size + 2 := by rw [← hW1]; simp
  have hA1 : ∀ F, Acts F w W1 := fun F => by rw [← hW1]; exact (Acts.alloc F w _).trans (Acts.alloc F _ _) (fun _ h => .inl h)
  have hBm : Boxed W1 w.heap.size 3 (.int .i64 most) := by rw [← hW1]; exact (Boxed.new w 3 _).alloc _
  have hBo : Boxed W1 (w.heap.size + 1) 22 (.slice none 0 0) := by rw [← hW1]; have := Boxed.new (w.alloc (.cells #[.int .i64 most] 3)) 22 (.slice none 0 0); rwa [World.size_alloc] at this
  rw [hW1]
  clear hW1 hnil
  refine (wpIn_wide (n := 0)).2 (wp_range_at (gf := gf) (lb := lb) rfl eg hG (fun x args F W h => by rw [h.1]; rfl) (by omega) (fun k hk => (hA1 (fun _ => False)).same k (hDl k hk) (fun h => h)) hDl hKd hKs
    (fun pre C' W' => (¬ (1 ≤ most ∧ most ≤ pre.length)) ∧ OutJ (w.heap.size + 1) W1.heap.size pre C' W') (fun c pre C' W' => c = .exit 0 ∧ (1 ≤ most ∧ most = pre.length) ∧ OutJ (w.heap.size + 1) W1.heap.size pre C' W')
    ⟨fun s C W W' h hz hk => ⟨h.1, (outJ_frames _ _).keep _ _ _ _ h.2 hz hk⟩, fun s C W h => (outJ_frames _ _).live _ _ _ h.2⟩ (fun c => ⟨fun s C W W' h hz hk => ⟨h.1, h.2.1, (outJ_frames _ _).keep _ _ _ _ h.2.2 hz hk⟩, fun s C W h => (outJ_frames _ _).live _ _ _ h.2.2⟩)
    (fun k => k = w.heap.size + 1) ⟨by simp; omega, .slice none 0 0, ⟨hBo, World.ownsRow_nil _ _ _ _⟩, fun k => by simp [Value.ownBlock]⟩
    (fun k hk h => by have := hDl k hk; omega)
    (fun fr pre x a₁ C' W' => a₁ = { tmps := (fr.setIfInBounds 10 (.int .i64 x)).setIfInBounds 6 (.int .i64 x), defers := [] } ∧ (¬ (1 ≤ most ∧ most ≤ pre.length)) ∧ OutJ (w.heap.size + 1) W1.heap.size pre C' W')
    (fun pre x a₁ => ⟨fun s C' A B h hz hk => ⟨h.1, h.2.1, (outJ_frames _ _).keep _ _ _ _ h.2.2 hz hk⟩, fun s C' A h => (outJ_frames _ _).live _ _ _ h.2.2⟩) ?_ ?_ ?_ ?_)
  · intro l2 pre x args F C1 W2 hs2 hpre hI hH hFC hFn hA hM
    obtain ⟨rfl, hF⟩ := hH
    gi_wp2
    exact ⟨C1, Acts.refl _ _, fun k h => .inl (.inl h), by simp, hI⟩
  · rintro l2 pre x a₁ C1 W2 hs2 hpre ⟨ha, hnm, v, hout, hC1⟩ hA hM
    simp only [List.setIfInBounds_toArray, List.set_cons_succ, List.set_cons_zero] at ha
    subst ha
    have hx1 : pre.length + 1 ≤ xs.length := by have := hpre.length_le; simpa using this
    have c4 := hout.box.cell
    have f4 := hout.box.frozen
    have hBm2 : Boxed W2 w.heap.size 3 (.int .i64 most) := (hA.same _ hBm.lt (fun h => h.elim (by omega) (fun h => by have := hDl _ (.inr h); omega))).trans hBm
    have hApp : ∀ (v' : Value) (w1 : World), w1.ownsRow W1.heap.size 3 1 v' (pre.length + 1) ((pre.map (Value.int .i64)) ++ [.int .i64 x]) → (W2.alloc (.cells #[.int .i64 x] 3)).grownBy w1 v.ownBlock → (v'.ownBlock = v.ownBlock ∨ v'.ownBlock = some (W2.alloc (.cells #[.int .i64 x] 3)).heap.size) →
        Boxed w1 (w.heap.size + 1) 22 v ∧ OutI (w.heap.size + 1) W1.heap.size (pre ++ [x]) v' (w1.setCell ⟨w.heap.size + 1, 0, none⟩ v') ∧ Acts C1 W2 (w1.setCell ⟨w.heap.size + 1, 0, none⟩ v') ∧ Boxed (w1.setCell ⟨w.heap.size + 1, 0, none⟩ v') w.heap.size 3 (.int .i64 most) ∧
        (∀ j, v'.ownBlock = some j → C1 j ∨ W2.heap.size ≤ j) := by
      intro v' w1 hown hgrow hat
      obtain ⟨g1, g2, g3, g4, g5⟩ := pushed hout.box (by decide) hout.row hown hgrow hat
      refine ⟨g1, ⟨g2, by simpa using g3⟩, g4.weaken (fun j _ hj => (hC1 j).2 hj), (g4.same _ hBm2.lt (fun h => h.elim (by omega) (fun h => by have := (hout.row.lt _ h).1; omega))).trans hBm2, fun j hj => (g5 j hj).imp (fun h => (hC1 j).2 (.inr h)) id⟩
    have hfin : ∀ (v' : Value) (W3 : World), OutI (w.heap.size + 1) W1.heap.size (pre ++ [x]) v' W3 → (∀ j, v'.ownBlock = some j → C1 j ∨ W2.heap.size ≤ j) → More W2 C1 (fun k => k = w.heap.size + 1 ∨ v'.ownBlock = some k) ∧ OutJ (w.heap.size + 1) W1.heap.size (pre ++ [x]) (fun k => k = w.heap.size + 1 ∨ v'.ownBlock = some k) W3 :=
      fun v' W3 h1 h2 => ⟨fun k h => h.elim (fun e => .inl ((hC1 k).2 (.inl e))) (h2 k), v', h1, fun _ => Iff.rfl⟩
    by_cases hm : ((pre.length : Int) + 1) = most
    · gi_wp2_with (gi_at_builtin; refine wpListIn_append_own_at _ rfl _ _ 22 rfl W1.heap.size 3 i0 (.int .i64 0) 1 8 Try.underlying22 hi hz0 hz1 hz2 rfl (by decide) v pre.length _ rfl (hout.row.alloc _) ⟨W2.heap.size, 0, none⟩ 1 1 [.int .i64 x] rfl rfl (cell_one_new _ _ _) (by simp [Value.oneCell']) (by simp [maxLen]; omega) (by omega) (by simp; omega) ?_; intro v' w1 hown hgrow hnil hat; obtain ⟨g, cap, rfl⟩ := ownsRow_succ hown; obtain ⟨hb1, hb2, hA3, hbm3, hy3⟩ := hApp _ w1 hown hgrow hat; have c4' := hb1.cell; have f4' := hb1.frozen; have cm := hbm3.cell)
      obtain ⟨hm1, hm2⟩ := hfin _ _ hb2 hy3
      exact ⟨_, hA3, hm1, rfl, ⟨by omega, by simp; omega⟩, hm2⟩
    · gi_wp2_with (gi_at_builtin; refine wpListIn_append_own_at _ rfl _ _ 22 rfl W1.heap.size 3 i0 (.int .i64 0) 1 8 Try.underlying22 hi hz0 hz1 hz2 rfl (by decide) v pre.length _ rfl (hout.row.alloc _) ⟨W2.heap.size, 0, none⟩ 1 1 [.int .i64 x] rfl rfl (cell_one_new _ _ _) (by simp [Value.oneCell']) (by simp [maxLen]; omega) (by omega) (by simp; omega) ?_; intro v' w1 hown hgrow hnil hat; obtain ⟨g, cap, rfl⟩ := ownsRow_succ hown; obtain ⟨hb1, hb2, hA3, hbm3, hy3⟩ := hApp _ w1 hown hgrow hat; have c4' := hb1.cell; have f4' := hb1.frozen; have cm := hbm3.cell)
      obtain ⟨hm1, hm2⟩ := hfin _ _ hb2 hy3
      exact ⟨_, hA3, hm1, by simp; omega, hm2⟩
  · rintro d C' W2 hd hdC hA hM ⟨hnm, v, hout, hC⟩ hk hK
    have c4 := hout.box.cell
    gi_wp2
    have hd2 := (Array.getElem?_eq_some_iff.1 hK).1
    have hput : Acts (fun k => k = d) W2 (W2.putObj d (.deferred none)) := Acts.putObj _ _ _ rfl
    have hE : ∀ k, E k → (W2.putObj d (.deferred none)).heap[k]? = W2.heap[k]? := fun k hk => World.putObj_heap_other (by have := hDl k (.inr hk); omega)
    have hfo : firstOf most xs = xs := by
      unfold firstOf; split
      · rw [List.take_of_length_le (by omega)]
      · rfl
    refine leave_mark1 rfl hK ⟨v, rfl, ?_, ?_, ?_⟩
    · rw [hfo]
      exact (owns_keep hout.row (fun k e => hput.same k (hout.row.lt k e).2 (fun e' => hdC (by rw [← e']; exact (hC k).2 (.inr e))))).mono (by omega)
    · exact ((hA1 E).trans hA (fun j hj => by rcases hj with h | h; (· exact .inr (by omega)); exact .inl h)).trans hput (fun j e => .inr (by omega))
    · exact ⟨fun h => absurd h hnm, fun _ => hKd _ _ hk hE⟩
  · rintro d c pre C' W2 hd hdC hA hM hpre ⟨rfl, hm, v, hout, hC⟩ hk hK
    refine (wpIn_wide (n := 0)).1 ?_
    have c4 := hout.box.cell
    gi_wp2
    have hd2 := (Array.getElem?_eq_some_iff.1 hK).1
    have hput : Acts (fun k => k = d) W2 (W2.putObj d (.deferred none)) := Acts.putObj _ _ _ rfl
    have hE : ∀ k, E k → (W2.putObj d (.deferred none)).heap[k]? = W2.heap[k]? := fun k hk => World.putObj_heap_other (by have := hDl k (.inr hk); omega)
    have hle := hpre.length_le
    have hfo : firstOf most xs = pre := by
      unfold firstOf
      rw [if_pos (by omega), hm.2, Int.toNat_natCast]
      exact (List.prefix_iff_eq_take.1 hpre).symm
    refine leave_mark1 rfl hK ⟨v, rfl, ?_, ?_, ?_⟩
    · rw [hfo]
      exact (owns_keep hout.row (fun k e => hput.same k (hout.row.lt k e).2 (fun e' => hdC (by rw [← e']; exact (hC k).2 (.inr e))))).mono (by omega)
    · exact ((hA1 E).trans hA (fun j hj => by rcases hj with h | h; (· exact .inr (by omega)); exact .inl h)).trans hput (fun j e => .inr (by omega))
    · exact ⟨fun _ => by rw [hfo]; exact hKs _ _ _ hk hE, fun h => absurd ⟨by omega, by omega⟩ h⟩
end Go.Proofs.Ytncnnbfejomkoaa.Rows14
