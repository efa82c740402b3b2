/- RowsStop: the law's walk. -/
import Derived.Test.YtncnnbfejomkoaaRg
import Derived.Test.YtncnnbfejomkoaaRi
import Derived.Test.YtncnnbfejomkoaaRk
namespace Go.Proofs.Ytncnnbfejomkoaa.Rows14
open Go.RowKit Go.Shelf Go.Proofs.YtncnnbfejomkoaaW.PrintWords Go.Proofs.YtncnnbfejomkoaaW.PrintLast Go.Proofs.YtncnnbfejomkoaaW.PrintMore Go.Proofs.Ytncnnbfejomkoaa.Iter
set_option linter.unusedVariables false
set_option linter.unusedSimpArgs false
attribute [local go_sem] Oper.semAt_some

/-- What the law's first hands back of a row that counts. -/
theorem stop_first (gf : Nat) (lb : Array Value) (xs : List Int) (hlen : xs.length ≤ 1000) (D : Nat → Prop) (B : Nat) (Kd : World → Prop) (Ks : List Int → World → Prop) (stop m : Int) (hs : 1 ≤ stop) (W : World)
    (eg : ∀ args w, (callFunc gf args).run Try.prog w = .ok (.enter gf args) w) (hDl : ∀ k, D k ∨ k = B → k < W.heap.size)
    (hKd : ∀ W W', Kd W → (∀ k, k = B → W'.heap[k]? = W.heap[k]?) → Kd W') (hKs : ∀ pre W W', Ks pre W → (∀ k, k = B → W'.heap[k]? = W.heap[k]?) → Ks pre W')
    (hm : ∀ W', FirstAt stop xs Kd Ks W' → Boxed W' B 3 (.int .i64 m)) (hG : Gives Try.prog gf lb ints xs D (fun k => k = B) Kd Ks W) :
    Calls Try.prog 14 #[.func (.func gf) #[] lb, .int .i64 stop] W fun e w' => ∃ v, e = .returned v ∧ w'.ownsRow W.heap.size 3 1 v (xs.take stop.toNat).length ((xs.take stop.toNat).map (Value.int .i64)) ∧ Acts (fun k => k = B) W w' ∧ Boxed w' B 3 (.int .i64 m) := by
  refine (first_calls gf lb xs hlen D (fun k => k = B) Kd Ks stop W eg hDl hKd hKs hG).mono ?_
  rintro e w' ⟨v, rfl, h1, h2, h3⟩
  have hf : firstOf stop xs = xs.take stop.toNat := by unfold firstOf; rw [if_pos hs]
  rw [hf] at h1
  exact ⟨v, rfl, h1, h2, hm w' h3⟩

/-- The boxes of told(l, &asked). -/
structure TT (B : Nat) (A0 : Option Addr) (c0 : Nat) (l : List Int) (W : World) : Prop where
  box : Boxed W B 3 (.int .i64 0)
  l1 : W.heap[B + 1]? = some (.cells #[.slice A0 l.length c0] 22 (0, 0))
  l2 : W.heap[B + 2]? = some (.cells #[.pointer (some ⟨B, 0, none⟩)] 36 (0, 0))
  row : (Kd.int .i64).C W A0 l.length l
  low : ∀ k, rowOf A0 l.length k → k < B
theorem TT.keep {B : Nat} {A0 : Option Addr} {c0 : Nat} {l : List Int} {W W' : World} (h : TT B A0 c0 l W) (hk : ∀ k, k ≤ B + 2 → W'.heap[k]? = W.heap[k]?) : TT B A0 c0 l W' :=
  ⟨(hk _ (by omega)).trans h.box, (hk _ (by omega)).trans h.l1, (hk _ (by omega)).trans h.l2, int_moves h.row (fun k hr => hk k (by have := h.low k hr; omega)), h.low⟩
def TTD (B : Nat) (A0 : Option Addr) (l : List Int) (k : Nat) : Prop := k = B + 1 ∨ k = B + 2 ∨ rowOf A0 l.length k
def TK (B : Nat) (m : Nat) (W : World) : Prop := Boxed W B 3 (.int .i64 (0 + (m : Int)))
theorem TT.lt {B : Nat} {A0 : Option Addr} {c0 : Nat} {l : List Int} {W : World} (h : TT B A0 c0 l W) (k : Nat) (hk : TTD B A0 l k ∨ k = B) : k < W.heap.size ∧ k ≤ B + 2 := by
  have := (Array.getElem?_eq_some_iff.1 h.l2).1
  rcases hk with (h' | h' | h') | h'
  · omega
  · omega
  · have := h.low k h'; omega
  · omega
theorem TT.gives {B : Nat} {A0 : Option Addr} {c0 : Nat} {l : List Int} {W : World} (h : TT B A0 c0 l W) (hl : l.length ≤ 1000) :
    Gives Try.prog 36 #[.pointer (some ⟨B + 1, 0, none⟩), .pointer (some ⟨B + 2, 0, none⟩)] ints l (TTD B A0 l) (fun k => k = B) (TK B l.length) (fun pre => TK B pre.length) W :=
  told_gives (B + 1) (B + 2) B 0 A0 c0 l W h.l1 h.l2 h.box h.row ⟨by omega, by omega, fun hr => by have := h.low B hr; omega⟩ ⟨by omega, by omega⟩ hl
theorem TK_keep {B : Nat} (m : Nat) (W W' : World) (h : TK B m W) (hk : ∀ k, k = B → W'.heap[k]? = W.heap[k]?) : TK B m W' := (hk B rfl).trans h

theorem map_calls (g : Nat) (lb : Array Value) (h : Nat) (w : World) :
    Calls Try.prog 27 #[.func (.func g) #[] lb, .func (.func h) #[] #[]] w fun e w' => e = .returned (.func (.func 43) #[] #[.pointer (some ⟨w.heap.size, 0, none⟩), .pointer (some ⟨w.heap.size + 1, 0, none⟩)]) ∧ (w.alloc (.cells #[.func (.func g) #[] lb] 30)).alloc (.cells #[.func (.func h) #[] #[]] 51) = w' := by
  go_enter Try.func27, Try.ntmps27
  go_wp2
  go_ret
  exact ⟨by simp, rfl⟩
theorem keep_calls (g : Nat) (lb : Array Value) (h : Nat) (w : World) :
    Calls Try.prog 26 #[.func (.func g) #[] lb, .func (.func h) #[] #[]] w fun e w' => e = .returned (.func (.func 42) #[] #[.pointer (some ⟨w.heap.size, 0, none⟩), .pointer (some ⟨w.heap.size + 1, 0, none⟩)]) ∧ (w.alloc (.cells #[.func (.func g) #[] lb] 30)).alloc (.cells #[.func (.func h) #[] #[]] 41) = w' := by
  go_enter Try.func26, Try.ntmps26
  go_wp2
  go_ret
  exact ⟨by simp, rfl⟩
theorem while_calls (g : Nat) (lb : Array Value) (h : Nat) (w : World) :
    Calls Try.prog 22 #[.func (.func g) #[] lb, .func (.func h) #[] #[]] w fun e w' => e = .returned (.func (.func 39) #[] #[.pointer (some ⟨w.heap.size, 0, none⟩), .pointer (some ⟨w.heap.size + 1, 0, none⟩)]) ∧ (w.alloc (.cells #[.func (.func g) #[] lb] 30)).alloc (.cells #[.func (.func h) #[] #[]] 41) = w' := by
  go_enter Try.func22, Try.ntmps22
  go_wp2
  go_ret
  exact ⟨by simp, rfl⟩
theorem chain_calls (v : Value) (hv : ∃ A n c, v = .slice A n c) (w : World) :
    Calls Try.prog 30 #[v] w fun e w' => e = .returned (.func (.func 44) #[] #[.pointer (some ⟨w.heap.size, 0, none⟩)]) ∧ w.alloc (.cells #[v] 56) = w' := by
  obtain ⟨A, n, c, rfl⟩ := hv
  go_enter Try.func30, Try.ntmps30
  go_wp2
  go_ret
  exact ⟨by simp, rfl⟩
theorem enters39 : ∀ args w, (callFunc 39 args).run Try.prog w = .ok (.enter 39 args) w := enters_of Try.func39 (by kernel_rfl) rfl
theorem enters42 : ∀ args w, (callFunc 42 args).run Try.prog w = .ok (.enter 42 args) w := enters_of Try.func42 (by kernel_rfl) rfl
theorem enters43 : ∀ args w, (callFunc 43 args).run Try.prog w = .ok (.enter 43 args) w := enters_of Try.func43 (by kernel_rfl) rfl
theorem enters44 : ∀ args w, (callFunc 44 args).run Try.prog w = .ok (.enter 44 args) w := enters_of Try.func44 (by kernel_rfl) rfl
theorem enters28 : ∀ args w, (callFunc 28 args).run Try.prog w = .ok (.enter 28 args) w := enters_of Try.func28 (by kernel_rfl) rfl
theorem enters29 : ∀ args w, (callFunc 29 args).run Try.prog w = .ok (.enter 29 args) w := enters_of Try.func29 (by kernel_rfl) rfl
theorem enters31 : ∀ args w, (callFunc 31 args).run Try.prog w = .ok (.enter 31 args) w := enters_of Try.func31 (by kernel_rfl) rfl
theorem asks28 (w : World) : Asks 28 #[] (fun x => .int .i64 x) (fun _ => False) w := fun W x _ => by
  show Calls Try.prog 28 #[.int .i64 x] W _
  go_enter Try.func28, Try.ntmps28
  go_wp2
  go_ret
  exact ⟨rfl, 0, rfl⟩
theorem asks29 (w : World) : Asks 29 #[] (fun x => .bool true) (fun _ => False) w := fun W x _ => by
  show Calls Try.prog 29 #[.int .i64 x] W _
  go_enter Try.func29, Try.ntmps29
  go_wp2
  go_ret
  exact ⟨rfl, 0, rfl⟩
theorem asks31 (w : World) : Asks 31 #[] (fun x => .bool true) (fun _ => False) w := fun W x _ => by
  show Calls Try.prog 31 #[.int .i64 x] W _
  go_enter Try.func31, Try.ntmps31
  go_wp2
  go_ret
  exact ⟨rfl, 0, rfl⟩
theorem al2 {w W : World} {o1 o2 : Obj} (h : (w.alloc o1).alloc o2 = W) : W.heap[w.heap.size]? = some o1 ∧ W.heap[w.heap.size + 1]? = some o2 ∧ Acts (fun _ => False) w W ∧ W.heap.size = w.heap.size + 2 := by
  subst h
  refine ⟨(Below.heap_alloc _ _ _ (by simp)).trans (World.alloc_heap_new w _), ?_, (Acts.alloc _ _ _).trans (Acts.alloc _ _ _) (fun _ h => .inl h), by simp⟩
  have := World.alloc_heap_new (w.alloc o1) o2
  rwa [World.size_alloc] at this

/-- What first hands back of it, and how often was asked. -/
def StopOK (gf : Nat) (lb : Array Value) (l xs : List Int) (B : Nat) (stop : Int) (W : World) : Prop :=
  Calls Try.prog 14 #[.func (.func gf) #[] lb, .int .i64 stop] W fun e w' => ∃ v, e = .returned v ∧ w'.ownsRow W.heap.size 3 1 v (xs.take stop.toNat).length ((xs.take stop.toNat).map (Value.int .i64)) ∧ Acts (fun k => k = B) W w' ∧ Boxed w' B 3 (.int .i64 (0 + ((min stop.toNat l.length : Nat) : Int)))
section
variable {B : Nat} {A0 : Option Addr} {c0 : Nat} {l : List Int} {w3 W : World} {stop : Int}
theorem TT.two (h : TT B A0 c0 l w3) {o1 o2 : Obj} (hW : (w3.alloc o1).alloc o2 = W) : TT B A0 c0 l W := by
  obtain ⟨_, _, hA, _⟩ := al2 hW
  have := (h.lt (B + 2) (.inl (.inr (.inl rfl)))).1
  exact h.keep (fun k hk => hA.same k (by omega) id)
theorem stop_keep (h : TT B A0 c0 l w3) (hl : l.length ≤ 100) (hs : 1 ≤ stop) (hW : (w3.alloc (.cells #[.func (.func 36) #[] #[.pointer (some ⟨B + 1, 0, none⟩), .pointer (some ⟨B + 2, 0, none⟩)]] 30)).alloc (.cells #[.func (.func 29) #[] #[]] 41) = W) :
    StopOK 42 #[.pointer (some ⟨w3.heap.size, 0, none⟩), .pointer (some ⟨w3.heap.size + 1, 0, none⟩)] l l B stop W := by
  have hT := h.two hW
  obtain ⟨b1, b2, hA, hsz⟩ := al2 hW
  have hB := (h.lt B (.inr rfl)).1
  have hf : l.filter (fun _ => true) = l := by simp
  have hG := keep_gives w3.heap.size (w3.heap.size + 1) 36 _ 29 #[] (fun _ => true) l _ (fun k => k = B) (fun _ => False) (TK B) W b1 b2 ⟨by omega, fun k hk => hk.elim⟩ (fun k hk => hk.elim) enters36 enters29 (fun k hk => (hT.lt k hk).1) TK_keep (hT.gives (by omega)) (asks29 W)
  rw [hf] at hG
  refine stop_first 42 _ l (by omega) _ B _ _ stop _ hs W enters42 (fun k hk => ?_) (TK_keep _) (fun pre W W' ⟨q, q1, q2, q3⟩ hk => ⟨q, q1, q2, TK_keep _ _ _ q3 hk⟩) (fun W' hF => ?_) hG
  · rcases hk with (h' | h' | h' | h') | h'
    · omega
    · omega
    · exact (hT.lt k (.inl h')).1
    · exact h'.elim
    · omega
  · by_cases hc : stop ≤ l.length
    · obtain ⟨q, q1, q2, q3⟩ := hF.1 ⟨hs, hc⟩
      have : q = firstOf stop l := by rw [← q2]; exact (List.filter_eq_self.2 (fun _ _ => rfl)).symm
      rw [this] at q3
      have e : (firstOf stop l).length = min stop.toNat l.length := by unfold firstOf; rw [if_pos hs, List.length_take]
      rw [← e]; exact q3
    · have := hF.2 (by omega)
      rw [show min stop.toNat l.length = l.length from by omega]; exact this
theorem stop_while (h : TT B A0 c0 l w3) (hl : l.length ≤ 100) (hs : 1 ≤ stop) (hW : (w3.alloc (.cells #[.func (.func 36) #[] #[.pointer (some ⟨B + 1, 0, none⟩), .pointer (some ⟨B + 2, 0, none⟩)]] 30)).alloc (.cells #[.func (.func 31) #[] #[]] 41) = W) :
    StopOK 39 #[.pointer (some ⟨w3.heap.size, 0, none⟩), .pointer (some ⟨w3.heap.size + 1, 0, none⟩)] l l B stop W := by
  have hT := h.two hW
  obtain ⟨b1, b2, hA, hsz⟩ := al2 hW
  have hB := (h.lt B (.inr rfl)).1
  have hf : l.takeWhile (fun _ => true) = l := by
    have := List.takeWhile_append_of_pos (p := fun _ : Int => true) (l₁ := l) (l₂ := []) (by simp)
    simpa using this
  have hG := while_gives w3.heap.size (w3.heap.size + 1) 36 _ 31 #[] (fun _ => true) l _ (fun k => k = B) (fun _ => False) (TK B) W b1 b2 ⟨by omega, fun k hk => hk.elim⟩ (fun k hk => hk.elim) enters36 enters31 (fun k hk => (hT.lt k hk).1) TK_keep (hT.gives (by omega)) (asks31 W)
  rw [hf, show min (l.length + 1) l.length = l.length from by omega] at hG
  refine stop_first 39 _ l (by omega) _ B _ _ stop _ hs W enters39 (fun k hk => ?_) (TK_keep _) (fun pre => TK_keep _) (fun W' hF => ?_) hG
  · rcases hk with (h' | h' | h' | h') | h'
    · omega
    · omega
    · exact (hT.lt k (.inl h')).1
    · exact h'.elim
    · omega
  · by_cases hc : stop ≤ l.length
    · have q3 := hF.1 ⟨hs, hc⟩
      have e : (firstOf stop l).length = min stop.toNat l.length := by unfold firstOf; rw [if_pos hs, List.length_take]
      rw [← e]; exact q3
    · have := hF.2 (by omega)
      rw [show min stop.toNat l.length = l.length from by omega]; exact this
theorem stop_skip (h : TT B A0 c0 l w3) (hl : l.length ≤ 100) (hs : 1 ≤ stop) (hW : (w3.alloc (.cells #[.func (.func 36) #[] #[.pointer (some ⟨B + 1, 0, none⟩), .pointer (some ⟨B + 2, 0, none⟩)]] 30)).alloc (.cells #[.int .i64 (-1)] 3) = W) :
    StopOK 38 #[.pointer (some ⟨w3.heap.size + 1, 0, none⟩), .pointer (some ⟨w3.heap.size, 0, none⟩)] l l B stop W := by
  have hT := h.two hW
  obtain ⟨b1, b2, hA, hsz⟩ := al2 hW
  have hB := (h.lt B (.inr rfl)).1
  have hG := skip_gives (w3.heap.size + 1) w3.heap.size (-1) (by omega) (by omega) 36 _ l _ (fun k => k = B) (TK B) W b2 b1 ⟨by omega, by omega⟩ enters36 (fun k hk => (hT.lt k hk).1) TK_keep (hT.gives (by omega))
  rw [show (-1 : Int).toNat = 0 from rfl, List.drop_zero] at hG
  refine stop_first 38 _ l (by omega) _ B _ _ stop _ hs W enters38 (fun k hk => ?_) (TK_keep _) (fun pre W W' ⟨q, q1, q2, q3⟩ hk => ⟨q, q1, q2, TK_keep _ _ _ q3 hk⟩) (fun W' hF => ?_) hG
  · rcases hk with (h' | h' | h') | h'
    · omega
    · omega
    · exact (hT.lt k (.inl h')).1
    · omega
  · by_cases hc : stop ≤ l.length
    · obtain ⟨q, q1, q2, q3⟩ := hF.1 ⟨hs, hc⟩
      have : q = firstOf stop l := by simpa using q2
      rw [this] at q3
      have e : (firstOf stop l).length = min stop.toNat l.length := by unfold firstOf; rw [if_pos hs, List.length_take]
      rw [← e]; exact q3
    · have := hF.2 (by omega)
      rw [show min stop.toNat l.length = l.length from by omega]; exact this
theorem stop_take (h : TT B A0 c0 l w3) (hl : l.length ≤ 100) (hs : 1 ≤ stop) (hW : (w3.alloc (.cells #[.func (.func 36) #[] #[.pointer (some ⟨B + 1, 0, none⟩), .pointer (some ⟨B + 2, 0, none⟩)]] 30)).alloc (.cells #[.int .i64 1000] 3) = W) :
    StopOK 35 #[.pointer (some ⟨w3.heap.size + 1, 0, none⟩), .pointer (some ⟨w3.heap.size, 0, none⟩)] l l B stop W := by
  have hT := h.two hW
  obtain ⟨b1, b2, hA, hsz⟩ := al2 hW
  have hB := (h.lt B (.inr rfl)).1
  have hG := take_gives (w3.heap.size + 1) w3.heap.size 1000 (by omega) (by omega) 36 _ l _ (fun k => k = B) (TK B) W b2 b1 ⟨by omega, by omega⟩ enters36 (fun k hk => (hT.lt k hk).1) TK_keep (by have := hT.box; simpa [TK] using this) (hT.gives (by omega))
  rw [show l.take (1000 : Int).toNat = l from List.take_of_length_le (by show l.length ≤ 1000; omega)] at hG
  refine stop_first 35 _ l (by omega) _ B _ _ stop _ hs W enters35 (fun k hk => ?_) (TK_keep _) (fun pre => TK_keep _) (fun W' hF => ?_) hG
  · rcases hk with (h' | h' | h') | h'
    · omega
    · omega
    · exact (hT.lt k (.inl h')).1
    · omega
  · by_cases hc : stop ≤ l.length
    · have q3 := hF.1 ⟨hs, hc⟩
      have e : (firstOf stop l).length = min stop.toNat l.length := by unfold firstOf; rw [if_pos hs, List.length_take]
      rw [← e]; exact q3
    · have := hF.2 (by omega)
      rw [show min stop.toNat l.length = l.length from by omega]; exact this
theorem stop_map (h : TT B A0 c0 l w3) (hl : l.length ≤ 100) (hs : 1 ≤ stop) (hW : (w3.alloc (.cells #[.func (.func 36) #[] #[.pointer (some ⟨B + 1, 0, none⟩), .pointer (some ⟨B + 2, 0, none⟩)]] 30)).alloc (.cells #[.func (.func 28) #[] #[]] 51) = W) :
    StopOK 43 #[.pointer (some ⟨w3.heap.size, 0, none⟩), .pointer (some ⟨w3.heap.size + 1, 0, none⟩)] l l B stop W := by
  have hT := h.two hW
  obtain ⟨b1, b2, hA, hsz⟩ := al2 hW
  have hB := (h.lt B (.inr rfl)).1
  have hG := map_gives w3.heap.size (w3.heap.size + 1) 36 _ 28 #[] (fun x => x) l _ (fun k => k = B) (fun _ => False) (TK B) W b1 b2 ⟨by omega, fun k hk => hk.elim⟩ (fun k hk => hk.elim) enters36 enters28 (fun k hk => (hT.lt k hk).1) TK_keep (hT.gives (by omega)) (asks28 W)
  rw [List.map_id'] at hG
  refine stop_first 43 _ l (by omega) _ B _ _ stop _ hs W enters43 (fun k hk => ?_) (TK_keep _) (fun pre => TK_keep _) (fun W' hF => ?_) hG
  · rcases hk with (h' | h' | h' | h') | h'
    · omega
    · omega
    · exact (hT.lt k (.inl h')).1
    · exact h'.elim
    · omega
  · by_cases hc : stop ≤ l.length
    · have q3 := hF.1 ⟨hs, hc⟩
      have e : (firstOf stop l).length = min stop.toNat l.length := by unfold firstOf; rw [if_pos hs, List.length_take]
      rw [← e]; exact q3
    · have := hF.2 (by omega)
      rw [show min stop.toNat l.length = l.length from by omega]; exact this
theorem stop_chain (hT : TT B A0 c0 l W) (hl : l.length ≤ 100) (hs : 1 ≤ stop) (b0 b1 b2 : Nat) (hb : B + 2 < b0 ∧ B + 2 < b1 ∧ B + 2 < b2) (h0 : W.heap[b0]? = some (.cells #[.slice A0 l.length c0] 22 (0, 0)))
    (h1 : W.heap[b1]? = some (.cells #[.func (.func 36) #[] #[.pointer (some ⟨B + 1, 0, none⟩), .pointer (some ⟨B + 2, 0, none⟩)], .func (.func 45) #[] #[.pointer (some ⟨b0, 0, none⟩)]] 30 (0, 0))) (h2 : W.heap[b2]? = some (.cells #[.slice (some ⟨b1, 0, none⟩) 2 2] 56 (0, 0))) :
    StopOK 44 #[.pointer (some ⟨b2, 0, none⟩)] l (l ++ l) B stop W := by
  have l0 := (Array.getElem?_eq_some_iff.1 h0).1
  have l1 := (Array.getElem?_eq_some_iff.1 h1).1
  have l2 := (Array.getElem?_eq_some_iff.1 h2).1
  have hG := chain_gives b2 b1 36 _ 45 _ l l _ (fun k => k = b0 ∨ rowOf A0 l.length k) (fun k => k = B) (TK B) W h2 h1 ⟨by omega, by omega, fun k hk e => by rcases hk with h | h; (· omega); have := hT.low k h; omega⟩ enters36 enters45 (fun k hk => (hT.lt k hk).1) (fun k hk => by rcases hk with h | h; (· omega); exact row_live hT.row k h) TK_keep (hT.gives (by omega)) (values_gives b0 A0 c0 l W h0 hT.row)
  refine stop_first 44 _ (l ++ l) (by rw [List.length_append]; omega) _ B _ _ stop _ hs W enters44 (fun k hk => ?_) (TK_keep _) (fun pre => TK_keep _) (fun W' hF => ?_) hG
  · rcases hk with (h' | h' | h' | h' | h') | h'
    · omega
    · omega
    · exact (hT.lt k (.inl h')).1
    · omega
    · exact row_live hT.row k h'
    · exact (hT.lt k (.inr h')).1
  · by_cases hc : stop ≤ (l ++ l).length
    · have q3 := hF.1 ⟨hs, hc⟩
      have e : min (firstOf stop (l ++ l)).length l.length = min stop.toNat l.length := by unfold firstOf; rw [if_pos hs, List.length_take, List.length_append]; omega
      have q3' : TK B (min (firstOf stop (l ++ l)).length l.length) W' := q3
      rw [e] at q3'; exact q3'
    · have q3 := hF.2 (by omega)
      rw [List.length_append] at hc
      rw [show min stop.toNat l.length = l.length from by omega]; exact q3
end

theorem chain_boxes {B : Nat} {A0 : Option Addr} {c0 : Nat} {l : List Int} {w3 w4 w5 : World} (hT : TT B A0 c0 l w3) (hw4 : w3.alloc (.cells #[.slice A0 l.length c0] 22) = w4)
    (hw5 : (w4.alloc (.cells #[.func (.func 36) #[] #[.pointer (some ⟨B + 1, 0, none⟩), .pointer (some ⟨B + 2, 0, none⟩)], .func (.func 45) #[] #[.pointer (some ⟨w3.heap.size, 0, none⟩)]] 30)).alloc (.cells #[.slice (some ⟨w4.heap.size, 0, none⟩) 2 2] 56) = w5) :
    TT B A0 c0 l w5 ∧ Acts (fun _ => False) w3 w5 ∧ (B + 2 < w3.heap.size ∧ w4.heap.size = w3.heap.size + 1 ∧ w5.heap.size = w3.heap.size + 3) ∧ w5.heap[w3.heap.size]? = some (.cells #[.slice A0 l.length c0] 22 (0, 0)) ∧
    w5.heap[w4.heap.size]? = some (.cells #[.func (.func 36) #[] #[.pointer (some ⟨B + 1, 0, none⟩), .pointer (some ⟨B + 2, 0, none⟩)], .func (.func 45) #[] #[.pointer (some ⟨w3.heap.size, 0, none⟩)]] 30 (0, 0)) ∧ w5.heap[w4.heap.size + 1]? = some (.cells #[.slice (some ⟨w4.heap.size, 0, none⟩) 2 2] 56 (0, 0)) ∧ (Kd.int .i64).C w5 A0 l.length l := by
  obtain ⟨b1, b2, hA, hz⟩ := al2 hw5
  have h4 : Acts (fun _ => False) w3 w4 := by rw [← hw4]; exact Acts.alloc _ _ _
  have z4 : w4.heap.size = w3.heap.size + 1 := by rw [← hw4]; simp
  have hA5 := h4.trans hA (fun _ h => .inl h)
  have hB := (hT.lt (B + 2) (.inl (.inr (.inl rfl)))).1
  have hT5 := hT.keep (fun k hk => hA5.same k (by omega) id)
  exact ⟨hT5, hA5, ⟨hB, z4, by omega⟩, (hA.same _ (by omega) id).trans (by rw [← hw4]; exact World.alloc_heap_new w3 _), b1, b2, hT5.row⟩
theorem chain_later {B : Nat} {A0 : Option Addr} {c0 : Nat} {l : List Int} {w3 w4 w5 W : World} {stop : Int} (hT : TT B A0 c0 l w5) (hz : B + 2 < w3.heap.size ∧ w4.heap.size = w3.heap.size + 1 ∧ w5.heap.size = w3.heap.size + 3) (hl : l.length ≤ 100) (hs : 1 ≤ stop)
    (h0 : w5.heap[w3.heap.size]? = some (.cells #[.slice A0 l.length c0] 22 (0, 0)))
    (h1 : w5.heap[w4.heap.size]? = some (.cells #[.func (.func 36) #[] #[.pointer (some ⟨B + 1, 0, none⟩), .pointer (some ⟨B + 2, 0, none⟩)], .func (.func 45) #[] #[.pointer (some ⟨w3.heap.size, 0, none⟩)]] 30 (0, 0))) (h2 : w5.heap[w4.heap.size + 1]? = some (.cells #[.slice (some ⟨w4.heap.size, 0, none⟩) 2 2] 56 (0, 0))) (hb : Below w5.heap.size w5 W) :
    TT B A0 c0 l W ∧ StopOK 44 #[.pointer (some ⟨w4.heap.size + 1, 0, none⟩)] l (l ++ l) B stop W := by
  have hT7 := hT.keep (fun k hk => hb.block k (by omega))
  exact ⟨hT7, stop_chain hT7 hl hs w3.heap.size w4.heap.size (w4.heap.size + 1) ⟨by omega, by omega, by omega⟩ ((hb.block _ (by omega)).trans h0) ((hb.block _ (by omega)).trans h1) ((hb.block _ (by omega)).trans h2)⟩
theorem stop_below {w w3 w5 w6 w7 w9 : World} {nd : Nat} (h3 : Below w.heap.size w w3) (h5 : Acts (fun _ => False) w3 w5) (h6 : Acts (fun k => k = w.heap.size) w5 w6) (h7 : Below w6.heap.size w6 w7) (h9 : Below (w7.drewN nd).heap.size (w7.drewN nd) w9) : Below w.heap.size w w9 := by
  have z3 := h3.size
  have z5 := h5.size
  have z6 := h6.size
  have z7 := h7.size
  have k5 : Below w.heap.size w3 w5 := h5.below (by omega) (fun _ _ h => h)
  have k6 : Below w.heap.size w5 w6 := h6.below (by omega) (fun k hk e => by omega)
  have k7 : Below w.heap.size w6 (w7.drewN nd) := pw_below_drewN (h7.mono (by omega)) _
  have k9 : Below w.heap.size (w7.drewN nd) w9 := h9.mono (by show _ ≤ w7.heap.size; omega)
  exact (((h3.trans k5).trans k6).trans k7).trans k9

set_option maxRecDepth 100000 in
set_option maxHeartbeats 4000000 in
theorem stop_walk (A0 : Option Addr) (c0 : Nat) (l : List Int) (a1 a2 : Int) (h1 : 0 ≤ a1 ∧ a1 ≤ 255) (h2 : 0 ≤ a2 ∧ a2 ≤ 255) (w : World) (hC : (Kd.int .i64).C w A0 l.length l) (hc0 : l.length ≤ c0) :
    Calls Try.prog 6 #[.slice A0 l.length c0, .int .u8 a1, .int .u8 a2] w fun e w' => e = .returned (.bool true) ∧ Below w.heap.size w w' := by
  go_enter Try.func6, Try.ntmps6
  by_cases h100 : 100 < (l.length : Int)
  · go_wp2_with (go_at_call 7; refine (awake_calls _).mono ?_; rintro e w1 ⟨rfl, hb1⟩)
    go_ret
    exact ⟨rfl, hb1⟩
  · have hB0 : Boxed (w.alloc (.cells #[.int .i64 0] 3)) w.heap.size 3 (.int .i64 0) := Boxed.new w 3 _
    have hTT : ∀ w3, ((w.alloc (.cells #[.int .i64 0] 3)).alloc (.cells #[.slice A0 l.length c0] 22)).alloc (.cells #[.pointer (some ⟨w.heap.size, 0, none⟩)] 36) = w3 → TT w.heap.size A0 c0 l w3 ∧ Below w.heap.size w w3 := fun w3 h => by
      obtain ⟨b1, b2, hA, hz⟩ := al2 h
      rw [World.size_alloc] at b1 b2 hz
      have hA0 : Acts (fun _ => False) w (w.alloc (.cells #[.int .i64 0] 3)) := Acts.alloc _ _ _
      exact ⟨⟨(hA.same _ (by simp) id).trans hB0, b1, b2, int_moves hC (fun k hk => ((hA.same k (by have := row_live hC k hk; simp; omega) id).trans (hA0.same k (row_live hC k hk) id))), fun k hk => row_live hC k hk⟩, (hA0.trans hA (fun _ h => .inl h)).below (Nat.le_refl _) (fun _ _ h => h)⟩
    have hs : 1 ≤ a1 % 20 + 1 := by omega
    have hlt : (l.take (a1 % 20 + 1).toNat).length ≤ 1000 := by rw [List.length_take]; omega
    clear hC hB0
    by_cases z0 : a2 % 6 = 0
    · skip
      go_wp2_with (first
        | (go_at_call 13; refine (told_calls _ _ _ _ _).mono ?_; rintro e w3 ⟨rfl, hw3⟩; obtain ⟨hT, hb3⟩ := hTT w3 hw3)
        | (go_at_call 27; refine (map_calls _ _ _ _).mono ?_; rintro e w5 ⟨rfl, hw5⟩; have hOK := stop_map hT (by omega) hs hw5; have hT5 := hT.two hw5; obtain ⟨_, _, hA5, hz5⟩ := al2 hw5)
        | (go_at_call 14; refine (show Calls _ _ _ _ _ from hOK).mono ?_; rintro e w6 ⟨v6, rfl, ho6, hA6, hk6⟩; have hC6 := int_moves hT5.row (fun k hk => hA6.same k (row_live hT5.row k hk) (fun e => by have := hT5.low k hk; omega)))
        | (go_at_call 15; refine (refTake_calls A0 c0 l _ w6 hC6 hc0 (by omega)).mono ?_; rintro e w7 ⟨v7, rfl, ho7, hb7⟩; have ho6' := owns_keep ho6 (fun k e => hb7.block k (ho6.lt k e).2); have hk7 := Boxed.cell (t := 3) ((hb7.block w.heap.size hk6.lt).trans hk6))
        | (go_at_call 11; refine (same_own hlt ho6' ho7).mono ?_; rintro e w8 ⟨rfl, ⟨nd, hd8⟩⟩; subst hd8)
        | (go_at_call 7; refine (awake_calls _).mono ?_; rintro e w9 ⟨rfl, hb9⟩))
      all_goals (go_ret; exact ⟨rfl, stop_below hb3 hA5 hA6 hb7 hb9⟩)
    by_cases z1 : a2 % 6 = 1
    · clear z0
      go_wp2_with (first
        | (go_at_call 13; refine (told_calls _ _ _ _ _).mono ?_; rintro e w3 ⟨rfl, hw3⟩; obtain ⟨hT, hb3⟩ := hTT w3 hw3)
        | (go_at_call 26; refine (keep_calls _ _ _ _).mono ?_; rintro e w5 ⟨rfl, hw5⟩; have hOK := stop_keep hT (by omega) hs hw5; have hT5 := hT.two hw5; obtain ⟨_, _, hA5, hz5⟩ := al2 hw5)
        | (go_at_call 14; refine (show Calls _ _ _ _ _ from hOK).mono ?_; rintro e w6 ⟨v6, rfl, ho6, hA6, hk6⟩; have hC6 := int_moves hT5.row (fun k hk => hA6.same k (row_live hT5.row k hk) (fun e => by have := hT5.low k hk; omega)))
        | (go_at_call 15; refine (refTake_calls A0 c0 l _ w6 hC6 hc0 (by omega)).mono ?_; rintro e w7 ⟨v7, rfl, ho7, hb7⟩; have ho6' := owns_keep ho6 (fun k e => hb7.block k (ho6.lt k e).2); have hk7 := Boxed.cell (t := 3) ((hb7.block w.heap.size hk6.lt).trans hk6))
        | (go_at_call 11; refine (same_own hlt ho6' ho7).mono ?_; rintro e w8 ⟨rfl, ⟨nd, hd8⟩⟩; subst hd8)
        | (go_at_call 7; refine (awake_calls _).mono ?_; rintro e w9 ⟨rfl, hb9⟩))
      all_goals (go_ret; exact ⟨rfl, stop_below hb3 hA5 hA6 hb7 hb9⟩)
    by_cases z2 : a2 % 6 = 2
    · clear z0 z1
      go_wp2_with (first
        | (go_at_call 13; refine (told_calls _ _ _ _ _).mono ?_; rintro e w3 ⟨rfl, hw3⟩; obtain ⟨hT, hb3⟩ := hTT w3 hw3)
        | (go_at_call 17; refine (skip_calls _ _ _ _).mono ?_; rintro e w5 ⟨rfl, hw5⟩; have hOK := stop_skip hT (by omega) hs hw5; have hT5 := hT.two hw5; obtain ⟨_, _, hA5, hz5⟩ := al2 hw5)
        | (go_at_call 14; refine (show Calls _ _ _ _ _ from hOK).mono ?_; rintro e w6 ⟨v6, rfl, ho6, hA6, hk6⟩; have hC6 := int_moves hT5.row (fun k hk => hA6.same k (row_live hT5.row k hk) (fun e => by have := hT5.low k hk; omega)))
        | (go_at_call 15; refine (refTake_calls A0 c0 l _ w6 hC6 hc0 (by omega)).mono ?_; rintro e w7 ⟨v7, rfl, ho7, hb7⟩; have ho6' := owns_keep ho6 (fun k e => hb7.block k (ho6.lt k e).2); have hk7 := Boxed.cell (t := 3) ((hb7.block w.heap.size hk6.lt).trans hk6))
        | (go_at_call 11; refine (same_own hlt ho6' ho7).mono ?_; rintro e w8 ⟨rfl, ⟨nd, hd8⟩⟩; subst hd8)
        | (go_at_call 7; refine (awake_calls _).mono ?_; rintro e w9 ⟨rfl, hb9⟩))
      all_goals (go_ret; exact ⟨rfl, stop_below hb3 hA5 hA6 hb7 hb9⟩)
    by_cases z4 : a2 % 6 = 4
    · clear z0 z1 z2
      go_wp2_with (first
        | (go_at_call 13; refine (told_calls _ _ _ _ _).mono ?_; rintro e w3 ⟨rfl, hw3⟩; obtain ⟨hT, hb3⟩ := hTT w3 hw3)
        | (go_at_call 22; refine (while_calls _ _ _ _).mono ?_; rintro e w5 ⟨rfl, hw5⟩; have hOK := stop_while hT (by omega) hs hw5; have hT5 := hT.two hw5; obtain ⟨_, _, hA5, hz5⟩ := al2 hw5)
        | (go_at_call 14; refine (show Calls _ _ _ _ _ from hOK).mono ?_; rintro e w6 ⟨v6, rfl, ho6, hA6, hk6⟩; have hC6 := int_moves hT5.row (fun k hk => hA6.same k (row_live hT5.row k hk) (fun e => by have := hT5.low k hk; omega)))
        | (go_at_call 15; refine (refTake_calls A0 c0 l _ w6 hC6 hc0 (by omega)).mono ?_; rintro e w7 ⟨v7, rfl, ho7, hb7⟩; have ho6' := owns_keep ho6 (fun k e => hb7.block k (ho6.lt k e).2); have hk7 := Boxed.cell (t := 3) ((hb7.block w.heap.size hk6.lt).trans hk6))
        | (go_at_call 11; refine (same_own hlt ho6' ho7).mono ?_; rintro e w8 ⟨rfl, ⟨nd, hd8⟩⟩; subst hd8)
        | (go_at_call 7; refine (awake_calls _).mono ?_; rintro e w9 ⟨rfl, hb9⟩))
      all_goals (go_ret; exact ⟨rfl, stop_below hb3 hA5 hA6 hb7 hb9⟩)
    by_cases z5 : a2 % 6 = 5
    · clear z0 z1 z2 z4
      go_wp2_with (first
        | (go_at_call 13; refine (told_calls _ _ _ _ _).mono ?_; rintro e w3 ⟨rfl, hw3⟩; obtain ⟨hT, hb3⟩ := hTT w3 hw3)
        | (go_at_call 12; refine (take_calls _ _ _ _).mono ?_; rintro e w5 ⟨rfl, hw5⟩; have hOK := stop_take hT (by omega) hs hw5; have hT5 := hT.two hw5; obtain ⟨_, _, hA5, hz5⟩ := al2 hw5)
        | (go_at_call 14; refine (show Calls _ _ _ _ _ from hOK).mono ?_; rintro e w6 ⟨v6, rfl, ho6, hA6, hk6⟩; have hC6 := int_moves hT5.row (fun k hk => hA6.same k (row_live hT5.row k hk) (fun e => by have := hT5.low k hk; omega)))
        | (go_at_call 15; refine (refTake_calls A0 c0 l _ w6 hC6 hc0 (by omega)).mono ?_; rintro e w7 ⟨v7, rfl, ho7, hb7⟩; have ho6' := owns_keep ho6 (fun k e => hb7.block k (ho6.lt k e).2); have hk7 := Boxed.cell (t := 3) ((hb7.block w.heap.size hk6.lt).trans hk6))
        | (go_at_call 11; refine (same_own hlt ho6' ho7).mono ?_; rintro e w8 ⟨rfl, ⟨nd, hd8⟩⟩; subst hd8)
        | (go_at_call 7; refine (awake_calls _).mono ?_; rintro e w9 ⟨rfl, hb9⟩))
      all_goals (go_ret; exact ⟨rfl, stop_below hb3 hA5 hA6 hb7 hb9⟩)
    have z3 : a2 % 6 = 3 := by omega
    clear z0 z1 z2 z4 z5
    obtain ⟨ll, hLL0⟩ : ∃ ll, ll = l ++ l := ⟨_, rfl⟩
    have hll : ll.length ≤ 1000 := by rw [hLL0, List.length_append]; omega
    have hlt2 : (ll.take (a1 % 20 + 1).toNat).length ≤ 1000 := by rw [List.length_take]; omega
    have hLL := Aside0.mk hLL0
    clear hLL0
    go_wp2_with (first
        | (go_at_call 13; refine (told_calls _ _ _ _ _).mono ?_; rintro e w3 ⟨rfl, hw3⟩; obtain ⟨hT, hb3⟩ := hTT w3 hw3)
        | (go_at_call 10; refine (of_calls _ _ _ _).mono ?_; rintro e w4 ⟨rfl, hw4⟩)
        | (go_at_call 30; refine (chain_calls _ ⟨_, _, _, rfl⟩ _).mono ?_; rintro e w5 ⟨rfl, hw5⟩; obtain ⟨hT5, hA5, hz5, x0, x1, x2, hC5⟩ := chain_boxes hT hw4 hw5; have hzA := Aside0.mk hz5; clear hz5)
        | (at_builtin; refine Kd.R_append_rows (Kd.int .i64) (w0 := w5) w5.heap.size rfl _ _ 22 3 (.int .i64 0) 8 rfl Try.underlying22 elem3 rfl (by decide) (by omega) v1 l l _ _ _ (fun _ => True) (fun _ => False) rfl rfl ho1' (int_moves hC5 (fun k hk => hbl1.block k (row_live hC5 k hk))) (fun _ _ h => h) (fun _ h => h.elim) (fun _ _ => trivial) hbl1 hbl1.size (by omega) ?_; intro v2 w7 ho2 hbl2 hg2 hat2; rw [← hLL.out] at ho2; have own2 := Kd.own_of_R ho2; obtain ⟨A2, c2, rfl, hc2, _⟩ := Kd.R_reads ho2; obtain ⟨hT7, hOK⟩ := chain_later hT5 hzA.out (by omega) hs x0 x1 x2 hbl2; rw [← hLL.out] at hOK)
        | (at_builtin; refine Kd.R_append_rows (Kd.int .i64) (w0 := w5) w5.heap.size rfl _ _ 22 3 (.int .i64 0) 8 rfl Try.underlying22 elem3 rfl (by decide) (by omega) (.slice (some ⟨w5.heap.size, 0, none⟩) 0 0) ([] : List Int) l _ _ _ (fun _ => True) (fun _ => False) rfl rfl (Kd.R_of_own (enc := Value.int .i64) (h1 := fun _ => rfl) (World.ownsRow_lit w5 #[] 0 (Nat.le_refl _) (by decide) rfl) (fun _ _ => trivial)) (Kd.C_alloc hC5 _) (fun _ _ h => h) (fun _ h => h.elim) (fun _ _ => trivial) ((Below.refl _ _).alloc (Nat.le_refl _) _) (by simp) (by simp; omega) ?_; intro v1 w6 ho1 hbl1 hg1 hat1; have ho1' : Kd.R (Kd.int .i64) 3 w6 w5.heap.size (fun _ => True) v1 l := (by simpa using ho1))
        | (go_at_call 14; refine (show Calls _ _ _ _ _ from hOK).mono ?_; rintro e w8 ⟨v8, rfl, ho8, hA8, hk8⟩; have own8 := owns_keep own2 (fun k e => hA8.same k (own2.lt k e).2 (fun e' => by have := (own2.lt k e).1; have := hzA.out; omega)))
        | (go_at_call 15; refine (refTake_calls A2 c2 ll _ w8 (C_of_own own8).2.2 hc2 hll).mono ?_; rintro e w9 ⟨v9, rfl, ho9, hb9⟩; have ho8' := owns_keep ho8 (fun k e => hb9.block k (ho8.lt k e).2); have hk9 := Boxed.cell (t := 3) ((hb9.block w.heap.size hk8.lt).trans hk8))
        | (go_at_call 11; refine (same_own hlt2 ho8' ho9).mono ?_; rintro e w10 ⟨rfl, ⟨nd, hd10⟩⟩; subst hd10)
        | (go_at_call 7; refine (awake_calls _).mono ?_; rintro e w11 ⟨rfl, hb11⟩))
    all_goals (go_ret; exact ⟨rfl, stop_below hb3 (hA5.trans (Acts.of_below (C := fun _ => False) hbl2) (fun _ h => .inl h)) hA8 hb9 hb11⟩)

/-- THE LAW's WALK, as its row asks it. -/
theorem rowsStop_walk (a0 : Option Addr) (len0 cap0 : Nat) (z0 : List Int) (a1 a2 : Int) (w : World)
    (w0 : (a0 = none ∧ len0 = 0 ∧ cap0 = 0 ∧ z0 = []) ∨ ∃ x, a0 = some x ∧ len0 ≤ cap0 ∧ cap0 ≤ maxLen ∧ z0.length = cap0 ∧ (∀ i, i < z0.length → w.cell? (x.add i) = some (.int .i64 (z0.getD i 0))) ∧ ∀ n ∈ z0, (Lit.int .i64 n).wf = true)
    (y0 : len0 * 8 ≤ 140737488351232) (w1 : (Lit.int .u8 a1).wf = true) (w2 : (Lit.int .u8 a2).wf = true) :
    Calls Try.prog 6 #[.slice a0 len0 cap0, .int .u8 a1, .int .u8 a2] w fun e w' => e = .returned (.bool true) ∧ Below w.heap.size w w' := by
  obtain ⟨l0, rfl, hr0, hm0, hw0, hc0⟩ := ReadsInt.ofRowC w0
  exact stop_walk a0 cap0 l0 a1 a2 (bounds_u8 w1) (bounds_u8 w2) w (Kd.C_of_reads (d := (0 : Int)) (h1 := fun _ => rfl) hr0) hc0
end Go.Proofs.Ytncnnbfejomkoaa.Rows14
