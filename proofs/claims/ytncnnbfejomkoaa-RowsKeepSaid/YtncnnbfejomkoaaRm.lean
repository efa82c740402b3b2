/- RowsKeep: the function that it hands over, the document's Keep, Collect at bools. -/
import Derived.Test.YtncnnbfejomkoaaRg
import Derived.Test.YtncnnbfejomkoaaRj
import Derived.Test.YtncnnbfejomkoaaPRowsKeepx1
namespace Go.Proofs.Ytncnnbfejomkoaa.Rows14
open Go.RowKit Go.Shelf Go.Proofs.YtncnnbfejomkoaaW.PrintWords Go.Proofs.YtncnnbfejomkoaaW.PrintLast Go.Proofs.YtncnnbfejomkoaaW.PrintMore Go.Proofs.Ytncnnbfejomkoaa.Iter
set_option linter.unusedVariables false
set_option linter.unusedSimpArgs false
attribute [local go_sem] Oper.semAt_some

/-- A number's rest by b. -/
def restV (x b : Int) : Int := if Int.tmod x b < 0 then wrap64 (Int.tmod x b + b) else Int.tmod x b
theorem rest_calls (x b : Int) (hb : b ≠ 0) (w : World) : Calls Try.prog 20 #[.int .i64 x, .int .i64 b] w fun e w' => e = .returned (.int .i64 (restV x b)) ∧ Drawn0 w w' :=
  PRowsKeep.quillpenref14_Rest.calls x b (restV x b) w (by unfold PRowsKeep.quillpenref14_Rest.f restV; rw [if_neg hb]; split <;> rfl)
/-- The law's 'is'. -/
def isV (b r x : Int) : Bool := decide (restV x b = r)

theorem asks19 (B7 B8 : Nat) (b r : Int) (hb : b ≠ 0) (w : World) (h7 : Boxed w B7 3 (.int .i64 b)) (h8 : Boxed w B8 3 (.int .i64 r)) : Asks 19 #[.pointer (some ⟨B7, 0, none⟩), .pointer (some ⟨B8, 0, none⟩)] (fun x => .bool (isV b r x)) (fun k => k = B7 ∨ k = B8) w := fun W x hk => by
  show Calls Try.prog 19 #[.int .i64 x, .pointer (some ⟨B7, 0, none⟩), .pointer (some ⟨B8, 0, none⟩)] W _
  have c7 := Boxed.cell (t := 3) ((hk B7 (.inl rfl)).trans h7)
  have c8 := Boxed.cell (t := 3) ((hk B8 (.inr rfl)).trans h8)
  go_enter Try.func19, Try.ntmps19
  go_wp2_with fail
  go_quiet ((go_at_call 20; exact Calls.quiet_of ((rest_calls x b hb _).mono (fun e w' h => ⟨h.1, h.2.out⟩))))
  go_wp2
  go_ret
  exact ⟨by simp [isV, BEq.beq, Int.beq'], nq, rfl⟩
theorem enters19 : ∀ args w, (callFunc 19 args).run Try.prog w = .ok (.enter 19 args) w := enters_of Try.func19 (by kernel_rfl) rfl
theorem enters25 : ∀ args w, (callFunc 25 args).run Try.prog w = .ok (.enter 25 args) w := enters_of Try.func25 (by kernel_rfl) rfl
theorem enters41 : ∀ args w, (callFunc 41 args).run Try.prog w = .ok (.enter 41 args) w := enters_of Try.func41 (by kernel_rfl) rfl
/-- .. called by another function. -/
theorem asks25 (B9 g : Nat) (lb : Array Value) (f : Int → Value) (D : Nat → Prop) (w : World) (h9 : Boxed w B9 41 (.func (.func g) #[] lb)) (eg : ∀ args w, (callFunc g args).run Try.prog w = .ok (.enter g args) w) (h : Asks g lb f D w) :
    Asks 25 #[.pointer (some ⟨B9, 0, none⟩)] f (fun k => k = B9 ∨ D k) w := fun W x hk => by
  show Calls Try.prog 25 #[.int .i64 x, .pointer (some ⟨B9, 0, none⟩)] W _
  have c9 := Boxed.cell (t := 41) ((hk B9 (.inl rfl)).trans h9)
  have hx := h W x (fun k hd => hk k (.inr hd))
  go_enter Try.func25, Try.ntmps25
  go_wp2_with fail
  refine hx.mono ?_
  rintro e w' ⟨rfl, m, rfl⟩
  go_wp2
  go_ret
  exact ⟨rfl, m, rfl⟩
theorem elem4 : (Try.prog.info? 4).map (fun i => (i.zero, i.size, i.bytes)) = some (some (.bool false), 1, 1) := by kernel_rfl
/-- A box that holds a list of its own. -/
structure OutBI (B base : Nat) (xs : List Bool) (v : Value) (W : World) : Prop where
  box : Boxed W B 44 v
  row : W.ownsRow base 4 1 v xs.length (xs.map (Value.bool))
theorem OutBI.keep {B base : Nat} {xs : List Bool} {v : Value} {W W' : World} (h : OutBI B base xs v W) (hk : ∀ k, (k = B ∨ v.ownBlock = some k) → W'.heap[k]? = W.heap[k]?) : OutBI B base xs v W' :=
  ⟨(hk B (.inl rfl)).trans h.box, owns_keep h.row (fun k e => hk k (.inr e))⟩
theorem OutBI.live {B base : Nat} {xs : List Bool} {v : Value} {W : World} (h : OutBI B base xs v W) (k : Nat) (hk : k = B ∨ v.ownBlock = some k) : k < W.heap.size := by
  rcases hk with rfl | e
  · exact h.box.lt
  · exact (h.row.lt k e).2
/-- .. between the rounds: its blocks, and the one that holds most. -/
def OutBJ (B base : Nat) (xs : List Bool) (C : Nat → Prop) (W : World) : Prop := ∃ v, OutBI B base xs v W ∧ ∀ k, C k ↔ k = B ∨ v.ownBlock = some k
theorem outBJ_frames (B base : Nat) : Frames (OutBJ B base) :=
  ⟨fun s C W W' ⟨v, h, hc⟩ hz hk => ⟨v, h.keep (fun k hk' => hk k ((hc k).2 hk')), hc⟩, fun s C W ⟨v, h, hc⟩ k hk => h.live k ((hc k).1 hk)⟩

set_option maxRecDepth 100000 in
set_option maxHeartbeats 2000000 in
/-- slices.AppendSeq(nil, s): all that s tells, in a list of its own. -/
theorem appendb_calls (gf : Nat) (lb : Array Value) (xs : List Bool) (hlen : xs.length ≤ 1000) (D E : Nat → Prop) (Kd : World → Prop) (Ks : List Bool → World → Prop) (w : World)
    (eg : ∀ args w, (callFunc gf args).run Try.prog w = .ok (.enter gf args) w) (hDl : ∀ k, D k ∨ E k → k < w.heap.size)
    (hKd : ∀ W W', Kd W → (∀ k, E k → W'.heap[k]? = W.heap[k]?) → Kd W') (hKs : ∀ pre W W', Ks pre W → (∀ k, E k → W'.heap[k]? = W.heap[k]?) → Ks pre W')
    (hG : Gives Try.prog gf lb (Plain fun b : Bool => #[.bool b]) xs D E Kd Ks w) :
    Calls Try.prog 47 #[.slice none 0 0, .func (.func gf) #[] lb] w fun e w' => ∃ v, e = .returned v ∧ w'.ownsRow w.heap.size 4 1 v xs.length (xs.map Value.bool) ∧ Acts E w w' ∧ Kd w' := by
  obtain ⟨i0, hi, hz0, hz1, hz2⟩ := info_parts elem4
  refine (callsIn_wide (n := 0)).1 (callsIn_of_wp_marks Try.func47 rfl trivial ?_)
  simp only [Try.ntmps47, List.size_toArray, List.length_cons, List.length_nil, Nat.reduceAdd, Nat.reduceSub, Array.replicate_succ, Array.replicate_zero, List.push_toArray, List.append_toArray, List.nil_append, List.cons_append]
  gi_wp2
  obtain ⟨W1, hW1⟩ : ∃ W1, w.alloc (.cells #[.slice none 0 0] 44) = W1 := ⟨_, rfl⟩
  have hs1 : W1.heap.size = w.heap.size + 1 := by rw [← hW1]; simp
  have hA1 : ∀ F, Acts F w W1 := fun F => by rw [← hW1]; exact Acts.alloc F w _
  have hBo : Boxed W1 w.heap.size 44 (.slice none 0 0) := by rw [← hW1]; exact Boxed.new w 44 _
  rw [hW1]
  clear hW1
  refine (wpIn_wide (n := 0)).2 (wp_range_at (gf := gf) (lb := lb) rfl eg hG (fun x args F W h => by rw [h.1]; rfl) (by omega) (fun k hk => (hA1 (fun _ => False)).same k (hDl k hk) (fun h => h)) hDl hKd hKs
    (OutBJ w.heap.size W1.heap.size) (fun _ _ _ _ => False) (outBJ_frames _ _) (fun c => frames_false)
    (fun k => k = w.heap.size) ⟨.slice none 0 0, ⟨hBo, World.ownsRow_nil _ _ _ _⟩, fun k => by simp [Value.ownBlock]⟩
    (fun k hk h => by have := hDl k hk; omega)
    (fun fr pre x a₁ C' W' => a₁ = { tmps := (fr.setIfInBounds 7 (.bool x)).setIfInBounds 5 (.bool x), defers := [] } ∧ OutBJ w.heap.size W1.heap.size pre C' W')
    (fun pre x a₁ => ⟨fun s C' A B h hz hk => ⟨h.1, (outBJ_frames _ _).keep _ _ _ _ h.2 hz hk⟩, fun s C' A h => (outBJ_frames _ _).live _ _ _ h.2⟩) ?_ ?_ ?_ ?_)
  · intro l2 pre x args F C1 W2 hs2 hpre hI hH hFC hFn hA hM
    obtain ⟨rfl, hF⟩ := hH
    gi_wp2
    exact ⟨C1, Acts.refl _ _, fun k h => .inl (.inl h), by simp, hI⟩
  · rintro l2 pre x a₁ C1 W2 hs2 hpre ⟨ha, v, hout, hC1⟩ hA hM
    simp only [List.setIfInBounds_toArray, List.set_cons_succ, List.set_cons_zero] at ha
    subst ha
    have hx1 : pre.length + 1 ≤ xs.length := by have := hpre.length_le; simpa using this
    have c4 := hout.box.cell
    have f4 := hout.box.frozen
    gi_wp2_with (gi_at_builtin; refine wpListIn_append_own_at _ rfl _ _ 44 rfl W1.heap.size 4 i0 (.bool false) 1 1 Try.underlying44 hi hz0 hz1 hz2 rfl (by decide) v pre.length _ rfl (hout.row.alloc _) ⟨W2.heap.size, 0, none⟩ 1 1 [.bool x] rfl rfl (cell_one_new _ _ _) (by simp [Value.oneCell']) (by simp [maxLen]; omega) (by omega) (by simp; omega) ?_; intro v' w1 hown hgrow hnil hat; obtain ⟨g, cap, rfl⟩ := ownsRow_succ hown; obtain ⟨hb1, hb2, hrow2, hA3, hy3⟩ := pushed hout.box (by decide) hout.row hown hgrow hat; have c4' := hb1.cell; have f4' := hb1.frozen)
    refine ⟨fun k => k = w.heap.size ∨ Value.ownBlock (.slice (some ⟨g, 0, none⟩) (pre.length + 1) cap) = some k, hA3.weaken (fun k _ h => (hC1 k).2 h), fun k h => h.elim (fun e => .inl ((hC1 k).2 (.inl e))) (fun h => (hy3 k h).imp (fun h => (hC1 k).2 (.inr h)) id), _, ⟨hb2, by simpa using hrow2⟩, fun _ => Iff.rfl⟩
  · rintro d C' W2 hd hdC hA hM ⟨v, hout, hC⟩ hk hK
    have c4 := hout.box.cell
    gi_wp2
    have hput : Acts (fun k => k = d) W2 (W2.putObj d (.deferred none)) := Acts.putObj _ _ _ rfl
    have hE : ∀ k, E k → (W2.putObj d (.deferred none)).heap[k]? = W2.heap[k]? := fun k hk => World.putObj_heap_other (by have := hDl k (.inr hk); omega)
    refine leave_mark1 rfl hK ⟨v, rfl, ?_, ?_, hKd _ _ hk hE⟩
    · exact (owns_keep hout.row (fun k e => hput.same k (hout.row.lt k e).2 (fun e' => hdC (by rw [← e']; exact (hC k).2 (.inr e))))).mono (by omega)
    · exact ((hA1 E).trans hA (fun j hj => by rcases hj with h | h; (· exact .inr (by omega)); exact .inl h)).trans hput (fun j e => .inr (by omega))
  · rintro d c pre C' W2 hd hdC hA hM hpre h
    exact h.elim
theorem collectb_calls (gf : Nat) (lb : Array Value) (xs : List Bool) (hlen : xs.length ≤ 1000) (D E : Nat → Prop) (Kd : World → Prop) (Ks : List Bool → World → Prop) (w : World)
    (eg : ∀ args w, (callFunc gf args).run Try.prog w = .ok (.enter gf args) w) (hDl : ∀ k, D k ∨ E k → k < w.heap.size)
    (hKd : ∀ W W', Kd W → (∀ k, E k → W'.heap[k]? = W.heap[k]?) → Kd W') (hKs : ∀ pre W W', Ks pre W → (∀ k, E k → W'.heap[k]? = W.heap[k]?) → Ks pre W')
    (hG : Gives Try.prog gf lb (Plain fun b : Bool => #[.bool b]) xs D E Kd Ks w) :
    Calls Try.prog 23 #[.func (.func gf) #[] lb] w fun e w' => ∃ v, e = .returned v ∧ w'.ownsRow w.heap.size 4 1 v xs.length (xs.map Value.bool) ∧ Acts E w w' ∧ Kd w' := by
  have h40 : Calls Try.prog 40 #[.func (.func gf) #[] lb] w fun e w' => ∃ v, e = .returned v ∧ w'.ownsRow w.heap.size 4 1 v xs.length (xs.map Value.bool) ∧ Acts E w w' ∧ Kd w' := by
    go_enter Try.func40, Try.ntmps40
    go_wp2_with (go_at_call 47; refine (appendb_calls gf lb xs hlen D E Kd Ks w eg hDl hKd hKs hG).mono ?_; rintro e w' ⟨v, rfl, h1, h2, h3⟩)
    go_ret
    exact ⟨v, rfl, h1, h2, h3⟩
  go_enter Try.func23, Try.ntmps23
  go_wp2_with (go_at_call 40; refine h40.mono ?_; rintro e w' ⟨v, rfl, h1, h2, h3⟩)
  go_ret
  exact ⟨v, rfl, h1, h2, h3⟩

theorem rest_f (x b : Int) (hb : b ≠ 0) : PRowsKeep.quillpenref14_Rest.f x b = some (restV x b) := by unfold PRowsKeep.quillpenref14_Rest.f restV; rw [if_neg hb]; split <;> rfl
open PRowsKeep in
theorem keep_pure (l : List Int) (b r : Int) (hb : b ≠ 0) (hl : l.length ≤ 1000) : ∃ k, quillpenref14_Keep.f k l b r = some (l.filter (isV b r)) := by
  have h : ∀ (k i : Nat) (acc : List Int), i ≤ l.length → l.length - i < k → acc.length ≤ i → quillpenref14_Keep.l0 k b r acc l (l.length : Int) (i : Int) = some (acc ++ (l.drop i).filter (isV b r)) := by
    intro k
    induction k with
    | zero => intro i acc _ h; omega
    | succ k ih =>
      intro i acc hi hk ha
      unfold quillpenref14_Keep.l0
      by_cases hlt : i < l.length
      · rw [if_pos (by omega), if_pos (by omega), if_pos (by omega), rest_f _ _ hb, Option.bind_some, rd_get hlt, List.drop_eq_getElem_cons hlt, show wrap64 ((i : Int) + 1) = ((i + 1 : Nat) : Int) from by unfold wrap64; omega]
        by_cases hr : restV l[i] b = r
        · rw [if_pos hr, if_pos (by omega), ih (i + 1) _ (by omega) (by omega) (by simp; omega), List.filter_cons_of_pos (by simp [isV, hr])]
          simp
        · rw [if_neg hr, ih (i + 1) _ (by omega) (by omega) (by omega), List.filter_cons_of_neg (by simp [isV, hr])]
      · rw [if_neg (by omega), List.drop_of_length_le (by omega)]
        simp
  exact ⟨l.length + 1, by
    have := h (l.length + 1) 0 [] (by omega) (by omega) (by simp)
    simpa [quillpenref14_Keep.f] using this⟩
theorem refKeep_calls (A : Option Addr) (c : Nat) (xs : List Int) (b r : Int) (hb : b ≠ 0) (w : World) (hC : (Kd.int .i64).C w A xs.length xs) (hc : xs.length ≤ c) (hx : xs.length ≤ 1000) :
    Calls Try.prog 21 #[.slice A xs.length c, .int .i64 b, .int .i64 r] w fun e w' => ∃ v, e = .returned v ∧ w'.ownsRow w.heap.size 3 1 v (xs.filter (isV b r)).length ((xs.filter (isV b r)).map (Value.int .i64)) ∧ Below w.heap.size w w' := by
  obtain ⟨k, hk⟩ := keep_pure xs b r hb hx
  refine (PRowsKeep.quillpenref14_Keep.calls k A c xs b r _ w hC hc hk).mono ?_
  rintro e w' ⟨v, rfl, h1, h2⟩
  exact ⟨v, rfl, Kd.own_of_R h1, h2⟩
theorem whilec_calls (g : Nat) (lb : Array Value) (h : Nat) (lp : Array Value) (w : World) :
    Calls Try.prog 22 #[.func (.func g) #[] lb, .func (.func h) #[] lp] w fun e w' => e = .returned (.func (.func 39) #[] #[.pointer (some ⟨w.heap.size, 0, none⟩), .pointer (some ⟨w.heap.size + 1, 0, none⟩)]) ∧ (w.alloc (.cells #[.func (.func g) #[] lb] 30)).alloc (.cells #[.func (.func h) #[] lp] 41) = w' := by
  go_enter Try.func22, Try.ntmps22
  go_wp2
  go_ret
  exact ⟨by simp, rfl⟩
theorem keepc_calls (g : Nat) (lb : Array Value) (h : Nat) (lp : Array Value) (w : World) :
    Calls Try.prog 26 #[.func (.func g) #[] lb, .func (.func h) #[] lp] w fun e w' => e = .returned (.func (.func 42) #[] #[.pointer (some ⟨w.heap.size, 0, none⟩), .pointer (some ⟨w.heap.size + 1, 0, none⟩)]) ∧ (w.alloc (.cells #[.func (.func g) #[] lb] 30)).alloc (.cells #[.func (.func h) #[] lp] 41) = w' := by
  go_enter Try.func26, Try.ntmps26
  go_wp2
  go_ret
  exact ⟨by simp, rfl⟩
theorem mapb_calls (g : Nat) (lb : Array Value) (h : Nat) (lp : Array Value) (w : World) :
    Calls Try.prog 24 #[.func (.func g) #[] lb, .func (.func h) #[] lp] w fun e w' => e = .returned (.func (.func 41) #[] #[.pointer (some ⟨w.heap.size, 0, none⟩), .pointer (some ⟨w.heap.size + 1, 0, none⟩)]) ∧ (w.alloc (.cells #[.func (.func g) #[] lb] 30)).alloc (.cells #[.func (.func h) #[] lp] 41) = w' := by
  go_enter Try.func24, Try.ntmps24
  go_wp2
  go_ret
  exact ⟨by simp, rfl⟩
end Go.Proofs.Ytncnnbfejomkoaa.Rows14
