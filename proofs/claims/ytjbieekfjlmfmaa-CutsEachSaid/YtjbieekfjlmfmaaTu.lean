/- cuts.Each: what its closure tells. -/
import Derived.Test.YtjbieekfjlmfmaaTf
import Derived.Test.YtjbieekfjlmfmaaTr
import Derived.Test.YtjbieekfjlmfmaaPureCutsEach
import Derived.Shelf.RegionOpen
namespace Go.Proofs.Ytjbieekfjlmfmaa.Cuts07
open Go.RowKit Go.Shelf Go.Proofs.YtjbieekfjlmfmaaW.PrintWords Go.Proofs.YtjbieekfjlmfmaaW.PrintLast Go.Proofs.YtjbieekfjlmfmaaW.PrintMore Go.Proofs.Ytjbieekfjlmfmaa.Iter Go.Proofs.Ytjbieekfjlmfmaa.XCutsEach
set_option linter.unusedVariables false
set_option linter.unusedSimpArgs false
attribute [local go_sem] Oper.semAt_some

/-- A list of texts of its own: what a round is handed. -/
def HandStrs (x : List ByteArray) (args : Array Value) (F : Nat → Prop) (W : World) : Prop :=
  ∃ v, args = #[v] ∧ W.ownsRow 0 9 1 v x.length (x.map Value.string) ∧ ∀ k, F k ↔ v.ownBlock = some k
def midOf (Φ : Act → Act → World → Prop) (a : Act) : Exit → Act → World → Prop
  | .normal, a', w' => Φ a a' w'
  | _, _, _ => False
theorem region_midIn {F : Fence} {n : Nat} {c : Code} {Q : Exit → Act → World → Prop} {a : Act} {w : World} (Φ : Act → Act → World → Prop) (h : c.wpIn F n Try.prog (midOf Φ a) a w) (hk : ∀ a' w', Φ a a' w' → Q .normal a' w') : c.wpIn F n Try.prog Q a w :=
  wpIn_mono h (fun e a' w' hp => by cases e <;> first | exact hk a' w' hp | exact False.elim hp)
def eachOf (s : ByteArray) : List (List ByteArray) := (waysOf s.size).map (Pure.atR s)
theorem way_short {n : Int} {x : List Int} (h : x ∈ waysOf n) : x.length ≤ 16 := by
  unfold waysOf at h
  obtain ⟨i, hi, rfl⟩ := List.mem_map.1 h
  have h0 := many_range (List.mem_range.1 hi)
  have := wayUp_len i n.toNat
  unfold wayOf; omega
/-- What holds between the rounds. -/
def EI (J : List (List ByteArray) → (Nat → Prop) → World → Prop) (s : ByteArray) (l B : Nat) (pre : List (List Int)) (C' : Nat → Prop) (W : World) : Prop :=
  ∃ Cj : Nat → Prop, J (pre.map (Pure.atR s)) Cj W ∧ Boxed W B 44 (.func (.yield l) #[] #[]) ∧ (∀ k, C' k ↔ Cj k ∨ k = B) ∧ ¬ Cj B
theorem eI_frames {J : List (List ByteArray) → (Nat → Prop) → World → Prop} (hJ : Frames J) (s : ByteArray) (l B : Nat) : Frames (EI J s l B) :=
  ⟨fun p C' A A' ⟨Cj, h1, h2, h3, h4⟩ hz hk => ⟨Cj, hJ.keep _ _ _ _ h1 hz (fun k h => hk k ((h3 k).2 (.inl h))), (hk _ ((h3 _).2 (.inr rfl))).trans h2, h3, h4⟩,
   fun p C' A ⟨Cj, h1, h2, h3, h4⟩ k hk => ((h3 k).1 hk).elim (hJ.live _ _ _ h1 k) (fun e => by rw [e]; exact h2.lt)⟩
def EX (Jx : List (List ByteArray) → (Nat → Prop) → World → Prop) (s : ByteArray) (c : Code) (pre : List (List Int)) (C' : Nat → Prop) (W : World) : Prop :=
  c = .ret ∧ (∀ k, C' k → k < W.heap.size) ∧ ∃ Cj : Nat → Prop, Jx (pre.map (Pure.atR s)) Cj W ∧ ∀ k, Cj k → C' k
theorem eX_frames {Jx : List (List ByteArray) → (Nat → Prop) → World → Prop} (hJ : Frames Jx) (s : ByteArray) (c : Code) : Frames (EX Jx s c) :=
  ⟨fun p C' A A' ⟨e, hl, Cj, h1, h2⟩ hz hc => ⟨e, fun k hk => Nat.lt_of_lt_of_le (hl k hk) hz, Cj, hJ.keep _ _ _ _ h1 hz (fun k hk => hc k (h2 k hk)), h2⟩,
   fun p C' A ⟨e, hl, _⟩ => hl⟩
set_option maxRecDepth 100000 in
set_option maxHeartbeats 4000000 in
theorem each_gives (Bs : Nat) (s : ByteArray) (hs : s.size ≤ 8) (w : World) (hb : w.heap[Bs]? = some (.cells #[.string s] 9 (0, 0))) :
    Gives Try.prog 25 #[.pointer (some ⟨Bs, 0, none⟩)] HandStrs (eachOf s) (fun k => k = Bs) (fun _ => False) (fun _ => True) (fun _ _ => True) w := by
  intro l J Jx C W hz hD hJ hJx hdis h0 hY
  have kBs := (hD Bs (.inl rfl)).trans hb
  have lBs : Bs < W.heap.size := (Array.getElem?_eq_some_iff.1 kBs).1
  have cBs := Boxed.cell (t := 9) kBs
  have nBs := hdis Bs (.inl rfl)
  refine (callsIn_wide (n := 0)).1 (callsIn_of_wp_marks Try.func25 rfl trivial ?_)
  simp only [Try.ntmps25, List.size_toArray, List.length_cons, List.length_nil, Nat.reduceAdd, Nat.reduceSub, Array.replicate_succ, Array.replicate_zero, List.push_toArray, List.append_toArray, List.nil_append, List.cons_append]
  gi_wp2
  refine ⟨trivial, rfl, (callsIn_wide.2 (ways_calls (s.size : Int) _)).mono ?_⟩
  rintro e w2 ⟨rfl, hw2⟩
  gi_wp2
  have hs1 : w2.heap.size = W.heap.size + 2 := by rw [← hw2]; simp
  have hA1 : ∀ F, Acts F W w2 := fun F => by rw [← hw2]; exact (Acts.alloc F W _).trans (Acts.alloc F _ _) (fun _ h => .inl h)
  have hB1 : Boxed w2 W.heap.size 44 (.func (.yield l) #[] #[]) := by rw [← hw2]; exact (Boxed.new W 44 _).alloc _
  have hBn : w2.heap[W.heap.size + 1]? = some (.cells #[.int .i64 (s.size : Int)] 3 (0, 0)) := by
    rw [← hw2]; have := World.alloc_heap_new (W.alloc (.cells #[.func (.yield l) #[] #[]] 44)) (.cells #[.int .i64 (s.size : Int)] 3 (0, 0)); rwa [World.size_alloc] at this
  clear hw2
  have hG := ways_gives (W.heap.size + 1) (s.size : Int) (by omega) (by omega) w2 hBn
  have hI0 : EI J s l W.heap.size [] (fun k => C k ∨ k = W.heap.size) w2 := ⟨C, hJ.acts h0 (hA1 (fun _ => False)) (fun _ _ h => h), hB1, fun k => Iff.rfl, fun h => by have := hJ.live _ _ _ h0 _ h; omega⟩
  have hAW : ∀ W2, Acts (fun k => (C k ∨ k = W.heap.size) ∨ False) w2 W2 → Acts (fun k => C k ∨ False) W W2 := fun W2 hA => (hA1 _).trans hA (fun j hj => by
    rcases hj with (h | h) | h
    · exact .inl (.inl h)
    · exact .inr (by omega)
    · exact h.elim)
  have hMW : ∀ C1, More w2 (fun k => C k ∨ k = W.heap.size) C1 → ∀ k, C1 k → C k ∨ W.heap.size ≤ k := fun C1 hM k h => (hM k h).elim (fun h => h.elim .inl (fun h => .inr (by omega))) (fun h => .inr (by omega))
  refine (wpIn_wide (n := 0)).2 (wp_range_at (gf := 24) rfl enters24 hG (fun x args F W h => by obtain ⟨v, rfl, _⟩ := h; rfl) (Nat.le_refl _) (fun _ _ => rfl) (fun k hk => hk.elim (fun h => by omega) False.elim) (fun _ _ h _ => h) (fun _ _ _ h _ => h)
    (EI J s l W.heap.size) (EX Jx s) (eI_frames hJ s l _) (eX_frames hJx s) (fun k => C k ∨ k = W.heap.size) hI0
    (fun k hk h => hk.elim (fun hk => h.elim (fun h => by have := hJ.live _ _ _ h0 _ h; omega) (fun h => by omega)) False.elim)
    (fun fr pre x a₁ C' W' => ∃ A cap Cj, a₁ = { tmps := (fr.setIfInBounds 7 (.slice A x.length cap)).setIfInBounds 3 (.slice A x.length cap), defers := [] } ∧ W'.ownsRow w2.heap.size 3 1 (.slice A x.length cap) x.length (x.map (Value.int .i64)) ∧ J (pre.map (Pure.atR s)) Cj W' ∧ Boxed W' W.heap.size 44 (.func (.yield l) #[] #[]) ∧ (∀ k, C' k ↔ Cj k ∨ k = W.heap.size ∨ Value.ownBlock (.slice A x.length cap) = some k) ∧ ¬ Cj W.heap.size)
    (fun pre x a₁ => ?_) ?_ ?_ ?_ ?_)
  · constructor
    · rintro q C' A A' ⟨Ad, cap, Cj, e, h1, h2, h3, h4, h5⟩ hz hk
      exact ⟨Ad, cap, Cj, e, owns_keep h1 (fun k e => hk k ((h4 k).2 (.inr (.inr e)))), hJ.keep _ _ _ _ h2 hz (fun k h => hk k ((h4 k).2 (.inl h))), (hk _ ((h4 _).2 (.inr (.inl rfl)))).trans h3, h4, h5⟩
    · rintro q C' A ⟨Ad, cap, Cj, e, h1, h2, h3, h4, h5⟩ k hk
      rcases (h4 k).1 hk with h | rfl | h
      · exact hJ.live _ _ _ h2 k h
      · exact h3.lt
      · exact (h1.lt k h).2
  · rintro l2 pre x args F C1 W2 hsz2 hpre ⟨Cj, hj, hb2, hC, hnB⟩ ⟨v, rfl, hrow, hF⟩ hFC hFn hA hM
    obtain ⟨A, cap, rfl, r1, C1'⟩ := Kd.R_reads (Kd.R_of_own (enc := Value.int .i64) (h1 := fun _ => rfl) (ok := fun _ => True) hrow (fun _ _ => trivial))
    gi_wp2
    exact ⟨fun k => C1 k ∨ Value.ownBlock (.slice A x.length cap) = some k, Acts.refl _ _, fun k h => .inl (h.imp id (fun e => (hF k).2 e)), A, cap, Cj, by simp, owns_raise hrow (fun k e => hFn k ((hF k).2 e)), hj, hb2, fun k => ⟨fun h => h.elim (fun h => ((hC k).1 h).imp id .inl) (fun h => .inr (.inr h)), fun h => h.elim (fun h => .inl ((hC k).2 (.inl h))) (fun h => h.elim (fun h => .inl ((hC k).2 (.inr h))) .inr)⟩, hnB⟩
  · rintro l2 pre x a₁ C1 W2 hsz2 hpre ⟨A, cap, Cj, ha, hrow, hj, hb2, hC1, hnB⟩ hA hM
    simp only [List.setIfInBounds_toArray, List.set_cons_succ, List.set_cons_zero] at ha
    subst ha
    have hxs := way_short (hpre.subset (show x ∈ pre ++ [x] by simp))
    obtain ⟨⟨kA, hkA⟩, _, hal, _⟩ := Pure.at_is s x (by omega)
    have hkA' := hkA kA (Nat.le_refl _)
    have cb2 := hb2.cell
    have kBs2 := (hA.same Bs (by omega) (fun h => h.elim (fun h => h.elim nBs (by omega)) id)).trans (((hA1 (fun _ => False)).same Bs lBs id).trans kBs)
    have cBs2 := Boxed.cell (t := 9) kBs2
    have hmx : Try.prog.follows .mixedOrders = true := by kernel_rfl
    obtain ⟨_, hcap, hCx⟩ := C_of_own hrow
    have hAt : ∀ m, Calls Try.prog 19 #[.string s, .slice A x.length cap] (W2.drewN m) fun e W3 => ∃ v0, e = .returned v0 ∧ W3.ownsRow W2.heap.size 9 1 v0 (Pure.atR s x).length ((Pure.atR s x).map Value.string) ∧ Below W2.heap.size W2 W3 := fun m =>
      (cuts_At.calls kA s A cap x _ (W2.drewN m) (Kd.C_drewN hCx m) hcap hkA').mono (fun e W3 ⟨v0, he, ho, hb3⟩ => ⟨v0, he, Kd.own_of_R ho, (pw_below_drewN (Below.refl _ _) m).trans hb3⟩)
    have hYs : ∀ W3 v0, W3.ownsRow W2.heap.size 9 1 v0 (Pure.atR s x).length ((Pure.atR s x).map Value.string) → Below W2.heap.size W2 W3 → YieldAt Fence.wide 0 Try.prog l #[v0] W3 (fun e W4 => ∃ b C2, e = .returned (.bool b) ∧ Acts Cj W2 W4 ∧ More W2 Cj C2 ∧ (b = true → J ((pre ++ [x]).map (Pure.atR s)) C2 W4) ∧ (b = false → Jx ((pre ++ [x]).map (Pure.atR s)) C2 W4)) := fun W3 v0 ho hb3 => by
      have hlow : ∀ k, Cj k → k < W2.heap.size := fun k hk => hJ.live _ _ _ hj k hk
      have hpf : pre.map (Pure.atR s) ++ [Pure.atR s x] <+: eachOf s := by
        have := List.IsPrefix.map (Pure.atR s) hpre
        simpa [eachOf] using this
      obtain ⟨fn, tm, asg, bd, hy, hR⟩ := hY (pre.map (Pure.atR s)) (Pure.atR s x) #[v0] (fun q => v0.ownBlock = some q) Cj W3 (hJ.keep _ _ _ _ hj hb3.size (fun k hk => hb3.block k (hlow k hk))) hpf ⟨v0, rfl, ho.mono (Nat.zero_le _), fun _ => Iff.rfl⟩ (fun q hq hc => by have := hlow q hc; have := (ho.lt q hq).1; omega) (fun q hq => by have := (ho.lt q hq).1; omega)
        ((hAW W2 hA).trans ((Acts.of_below (C := fun _ => False) hb3).weaken (fun _ _ h => h)) (fun q h => h.elim)) (fun k hk => hMW C1 hM k ((hC1 k).2 (.inl hk)))
      refine ⟨fn, tm, asg, bd, hy, hR.mono ?_⟩
      have fin : ∀ (C2 : Nat → Prop) (W4 : World), Acts (fun q => Cj q ∨ v0.ownBlock = some q) W3 W4 → More W3 (fun q => Cj q ∨ v0.ownBlock = some q) C2 → Acts Cj W2 W4 ∧ More W2 Cj C2 := fun C2 W4 h1 h2 =>
        ⟨((Acts.of_below (C := fun _ => False) hb3).weaken (fun _ _ h => h.elim)).trans h1 (fun q hq => hq.imp id (fun h => (ho.lt q h).1)), fun q hq => (h2 q hq).elim (fun h => h.imp id (fun h => (ho.lt q h).1)) (fun h => .inr (by have := hb3.size; omega))⟩
      rw [show pre.map (Pure.atR s) ++ [Pure.atR s x] = (pre ++ [x]).map (Pure.atR s) from by simp]
      rintro e W4 (⟨rfl, C2, h1, h2, h3⟩ | ⟨rfl, C2, h1, h2, h3⟩) <;> obtain ⟨f1, f2⟩ := fin C2 W4 h1 h2
      · exact ⟨true, C2, rfl, f1, f2, fun _ => h3, (fun h => Bool.noConfusion h)⟩
      · exact ⟨false, C2, rfl, f1, f2, (fun h => Bool.noConfusion h), fun _ => h3⟩
    gi_wp2
    refine region_midIn (fun a a' W4 => ∃ u1 u2 u3 u4 u5 b C2, a' = putAll a [(8, u1), (9, u2), (10, u3), (11, u4), (12, u5), (13, .bool (!b))] ∧ Acts Cj W2 W4 ∧ More W2 Cj C2 ∧ (b = true → J ((pre ++ [x]).map (Pure.atR s)) C2 W4) ∧ (b = false → Jx ((pre ++ [x]).map (Pure.atR s)) C2 W4)) ?_ ?_
    · have hAt1 := Aside0.mk hAt
      have hYs1 := Aside0.mk hYs
      clear hAt hYs
      clear hG hI0 hD hb hkA hkA' hJ hJx h0 hdis hY hA1 hB1 hBn hpre hxs hal hCx hs1
      gi_region_with_o (first | (refine ⟨trivial, rfl, (show CallsIn (Fence.wide.inRound l2) 0 _ _ _ _ _ from callsIn_wide.2 (hAt1.out 1)).mono ?_⟩; rintro e W3 ⟨v0, rfl, ho, hb3⟩; have cb3 := Boxed.cell (t := 44) ((hb3.block _ hb2.lt).trans hb2); obtain ⟨fn, tm, asg, bd, hy, hR⟩ := hYs1.out W3 v0 ho hb3) | (refine ⟨rfl, (show RoundIn (Fence.wide.inRound l2) 0 _ l fn tm asg bd _ _ from hR).mono ?_⟩; rintro e W4 ⟨b, C2, rfl, hA4, hM4, hJ4, hJx4⟩))
      all_goals exact ⟨_, _, _, _, _, b, C2, by simp only [putAll, Act.put, List.setIfInBounds_toArray, List.set_cons_zero, List.set_cons_succ]; rfl, hA4, hM4, hJ4, hJx4⟩
    · rintro a' W4 ⟨u1, u2, u3, u4, u5, b, C2, rfl, hA4, hM4, hJ4, hJx4⟩
      simp only [putAll, Act.put, List.setIfInBounds_toArray, List.set_cons_zero, List.set_cons_succ]
      have hA4' : Acts C1 W2 W4 := hA4.weaken (fun k _ h => (hC1 k).2 (.inl h))
      have hnB2 : ¬ C2 W.heap.size := fun h => (hM4 _ h).elim hnB (fun h => by have := hb2.lt; omega)
      cases b with
      | true =>
        gi_wp2
        exact ⟨fun k => C2 k ∨ k = W.heap.size, hA4', fun k h => h.elim (fun h => (hM4 k h).imp (fun h => (hC1 k).2 (.inl h)) id) (fun e => .inl ((hC1 k).2 (.inr (.inl e)))), C2, hJ4 (by first | trivial | rfl), (hA4.same _ hb2.lt hnB).trans hb2, fun k => Iff.rfl, hnB2⟩
      | false =>
        gi_wp2
        exact ⟨C2, hA4', fun k h => (hM4 k h).imp (fun h => (hC1 k).2 (.inl h)) id, rfl, hJx.live _ _ _ (hJx4 (by first | trivial | rfl)), C2, hJx4 (by first | trivial | rfl), fun _ h => h⟩
  · rintro d C' W2 hd hdC hA hM ⟨Cj, hj, hb2, hC, hnB⟩ _ hK
    gi_wp2
    refine leave_mark0 rfl hK ?_
    exact ⟨⟨_, rfl⟩, Cj, (hAW W2 hA).trans (Acts.putObj (C := fun k => k = d) _ _ _ rfl) (fun j e => .inr (by omega)), fun k hk => hMW C' hM k ((hC k).2 (.inl hk)), .inl ⟨hJ.acts hj (Acts.putObj (C := fun k => k = d) _ _ _ rfl) (fun k hk e => hdC (by rw [← e]; exact (hC k).2 (.inl hk))), trivial⟩⟩
  · rintro d c pre C' W2 hd hdC hA hM hpre ⟨rfl, hl, Cj, hj, hC⟩ _ hK
    refine (wpIn_wide (n := 0)).1 ?_
    gi_wp2
    refine leave_mark0 rfl hK ?_
    exact ⟨⟨_, rfl⟩, Cj, (hAW W2 hA).trans (Acts.putObj (C := fun k => k = d) _ _ _ rfl) (fun j e => .inr (by omega)), fun k hk => hMW C' hM k (hC k hk), .inr ⟨_, by have := List.IsPrefix.map (Pure.atR s) hpre; simpa [eachOf] using this, hJx.acts hj (Acts.putObj (C := fun k => k = d) _ _ _ rfl) (fun k hk e => hdC (by rw [← e]; exact hC k hk)), trivial⟩⟩
end Go.Proofs.Ytjbieekfjlmfmaa.Cuts07
