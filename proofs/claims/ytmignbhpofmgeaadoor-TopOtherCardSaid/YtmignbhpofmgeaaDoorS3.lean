/- What the proof of quillpentop.TopOther rests on: the kit's words as print.sh lays them for this seat, the functions' contracts, the plain laws (part 4 of 9, put together by wip/tools/shake.py). -/
import Derived.Test.YtmignbhpofmgeaaDoorS2
import Derived.WalkMore
import Derived.Laws.ResultCell
import Derived.LoopN
import Derived.RegionTactic
import Derived.ChangeAlike
import Derived.Deep.WholeRow
namespace Go.Proofs.YtmignbhpofmgeaaDoor.Top
open Go.RowKit Go.Proofs.YtmignbhpofmgeaaDoorW.PrintWords Go.Proofs.YtmignbhpofmgeaaDoorW.PrintLast Go.Proofs.YtmignbhpofmgeaaDoorW.PrintMore Go.Proofs.YtmignbhpofmgeaaDoor.Iter
set_option linter.unusedVariables false
set_option linter.unusedSimpArgs false
/-- What a byte comes to, by the scanner. -/
def scanS (de qu en st c : Int) : Ev × Int × Int := match PTopSticky.scan_Step.f 8 de qu en st c with
  | some (a, b, x, d, e, y, n, f) => (⟨a, b, x, d, e, y⟩, n, f)
  | none => (⟨false, false, false, false, false, 0⟩, 0, 0)
def Tells {α : Type} (o : Option α) : Prop := ∃ r, o = some r
theorem tells_some {α : Type} (r : α) : Tells (some r) := ⟨r, rfl⟩
theorem tells_ite {α : Type} {c : Prop} [Decidable c] {a b : Option α} (ha : Tells a) (hb : Tells b) : Tells (if c then a else b) := by
  split
  · exact ha
  · exact hb
theorem tells_bind {α β : Type} {o : Option α} {f : α → Option β} (ha : Tells o) (hf : ∀ r, Tells (f r)) : Tells (o.bind f) := by
  obtain ⟨r, rfl⟩ := ha
  exact hf r
theorem scan_tells (de qu en st c : Int) : ∃ a b x d e y n f, PTopSticky.scan_Step.f 8 de qu en st c = some (a, b, x, d, e, y, n, f) := by
  have h : Tells (PTopSticky.scan_Step.f 8 de qu en st c) := by
    simp only [PTopSticky.scan_Step.f, PTopSticky.scan_Step.j0, PTopSticky.scan_Step.j1, PTopSticky.scan_Step.j2, PTopSticky.scan_Step.j3, PTopSticky.scan_ends.f, PTopSticky.scan_ends.j0, PTopSticky.scan_pending.f]
    repeat (first | apply tells_some | apply tells_ite | apply tells_bind | intro _)
  obtain ⟨⟨a, b, x, d, e, y, n, f⟩, h⟩ := h
  exact ⟨a, b, x, d, e, y, n, f, h⟩
theorem scan_calls (de qu en st c : Int) (W : World) : Calls Tryd.prog 42 #[.agg #[.int .u8 de, .int .u8 qu, .int .i64 en], .int .i64 st, .int .u8 c] W (fun e w' => e = .returned (.tuple #[.agg (scanS de qu en st c).1.cells, .int .i64 (scanS de qu en st c).2.1, .int .i64 (scanS de qu en st c).2.2]) ∧ Acts (fun _ => False) W w') := by
  obtain ⟨a, b, x, d, e, y, n, f, h⟩ := scan_tells de qu en st c
  have hs : scanS de qu en st c = (⟨a, b, x, d, e, y⟩, n, f) := by unfold scanS; rw [h]
  rw [hs]
  exact (PTopSticky.scan_Step.calls 8 de qu en st c a b x d e y n f W h).mono fun _ _ ⟨h1, h2⟩ => ⟨h1, Acts.of_below h2⟩
def closeSc (st : Int) : Ev × Int := match PTopSticky.scan_Close.f st with
  | some (a, b, x, d, e, y, f) => (⟨a, b, x, d, e, y⟩, f)
  | none => (⟨false, false, false, false, false, 0⟩, 0)
theorem sclose_calls (st : Int) (W : World) : Calls Tryd.prog 30 #[.int .i64 st] W (fun e w' => e = .returned (.tuple #[.agg (closeSc st).1.cells, .int .i64 (closeSc st).2]) ∧ Acts (fun _ => False) W w') := by
  obtain ⟨a, b, x, d, e, y, f, h⟩ : ∃ a b x d e y f, PTopSticky.scan_Close.f st = some (a, b, x, d, e, y, f) := by
    simp only [PTopSticky.scan_Close.f]
    repeat' split
    all_goals exact ⟨_, _, _, _, _, _, _, rfl⟩
  have hs : closeSc st = (⟨a, b, x, d, e, y⟩, f) := by unfold closeSc; rw [h]
  rw [hs]
  exact (PTopSticky.scan_Close.calls st a b x d e y f W h).mono fun _ _ ⟨h1, h2⟩ => ⟨h1, Acts.of_below h2⟩
/-- It holds no more than this. -/
def Small (N : Nat) (r : RS) : Prop := r.maker.F ≤ 2147483648 ∧ r.maker.record.length ≤ N ∧ r.ready.length ≤ N
theorem takeM_small (m : MS) (e : Ev) : (takeM m e).1.F = m.F ∧ (takeM m e).1.record.length ≤ m.record.length + 2 := by
  have h1 : (take1 m e).F = m.F ∧ (take1 m e).record.length ≤ m.record.length + 2 := by
    unfold take1
    split
    · exact gatherM_keeps m e
    · exact ⟨rfl, by omega⟩
  unfold takeM
  split
  · exact ⟨h1.1, by simp [handed]⟩
  · exact h1
theorem Small.event {N : Nat} {r : RS} (h : Small N r) (ev : Ev) (f a : Int) : Small (N + 2) (eventR r ev f a).1 := by
  obtain ⟨h1, h2, h3⟩ := h
  have hm := takeM_small r.maker ev
  unfold eventR
  split
  · split
    · refine ⟨by show (takeM r.maker ev).1.F ≤ _; rw [hm.1]; exact h1, by have := hm.2; (try dsimp only); omega, ?_⟩
      (try dsimp only)
      split <;> (try simp) <;> omega
    · exact ⟨by show (takeM r.maker ev).1.F ≤ _; rw [hm.1]; exact h1, by have := hm.2; (try dsimp only [wrongR]); omega, by (try dsimp only [wrongR]); omega⟩
  · exact ⟨h1, by simp only [wrongR]; omega, by simp only [wrongR]; omega⟩
/-- The bytes that are handed on, from number i on. -/
def takeL (a : Int) (n : Nat) : Nat → List Int → RS → RS × Bool
  | _, [], r => (r, true)
  | i, c :: cs, r => if (eventR { r with state := (scanS r.de r.qu r.en r.state c).2.1 } (scanS r.de r.qu r.en r.state c).1 (scanS r.de r.qu r.en r.state c).2.2 (a - n + 1 + i)).2 = true
      then takeL a n (i + 1) cs (eventR { r with state := (scanS r.de r.qu r.en r.state c).2.1 } (scanS r.de r.qu r.en r.state c).1 (scanS r.de r.qu r.en r.state c).2.2 (a - n + 1 + i)).1
      else ((eventR { r with state := (scanS r.de r.qu r.en r.state c).2.1 } (scanS r.de r.qu r.en r.state c).1 (scanS r.de r.qu r.en r.state c).2.2 (a - n + 1 + i)).1, false)
theorem Small.mono {N N' : Nat} {r : RS} (h : Small N r) (hn : N ≤ N') : Small N' r := ⟨h.1, by have := h.2.1; omega, by have := h.2.2; omega⟩
theorem Small.take {a : Int} {n : Nat} : ∀ (xs : List Int) (i N : Nat) (r : RS), Small N r → Small (N + 2 * xs.length) (takeL a n i xs r).1
  | [], i, N, r, h => h
  | c :: cs, i, N, r, h => by
    have he := Small.event (r := { r with state := (scanS r.de r.qu r.en r.state c).2.1 }) (N := N) h (scanS r.de r.qu r.en r.state c).1 (scanS r.de r.qu r.en r.state c).2.2 (a - n + 1 + i)
    unfold takeL
    split
    · exact (Small.take cs (i + 1) (N + 2) _ he).mono (by simp only [List.length_cons]; omega)
    · exact he.mono (by simp only [List.length_cons]; omega)
theorem w64 {x : Int} (h1 : -1000000000000 ≤ x) (h2 : x ≤ 1000000000000) : wrap64 x = x := by unfold wrap64; omega
set_option maxRecDepth 100000 in
set_option maxHeartbeats 4000000 in
theorem ev_stored {W : World} {g : Nat} {cs : Array Value} (h : W.heap[g]? = some (.cells cs 77 (0, 0))) (hs : cs.size = 6) (a b c d e f : Value) :
    ((((((W.setCell ⟨g, 0, none⟩ a).setCell ⟨g, 1, none⟩ b).setCell ⟨g, 2, none⟩ c).setCell ⟨g, 3, none⟩ d).setCell ⟨g, 4, none⟩ e).setCell ⟨g, 5, none⟩ f).heap[g]? = some (.cells #[a, b, c, d, e, f] 77 (0, 0)) := by
  rw [blk_set (blk_set (blk_set (blk_set (blk_set (blk_set h 0 a) 1 b) 2 c) 3 d) 4 e) 5 f]
  obtain ⟨l⟩ := cs
  match l, hs with
  | [_, _, _, _, _, _], _ => simp only [List.setIfInBounds_toArray, List.set_cons_zero, List.set_cons_succ]
theorem ev_stored_acts (W : World) (g : Nat) (a b c d e f : Value) :
    Acts (fun k => k = g) W ((((((W.setCell ⟨g, 0, none⟩ a).setCell ⟨g, 1, none⟩ b).setCell ⟨g, 2, none⟩ c).setCell ⟨g, 3, none⟩ d).setCell ⟨g, 4, none⟩ e).setCell ⟨g, 5, none⟩ f) :=
  (((((acts_set (B := g) W 0 a).trans (acts_set (B := g) _ 1 b) (fun _ h => .inl h)).trans (acts_set (B := g) _ 2 c) (fun _ h => .inl h)).trans (acts_set (B := g) _ 3 d) (fun _ h => .inl h)).trans (acts_set (B := g) _ 4 e) (fun _ h => .inl h)).trans (acts_set (B := g) _ 5 f) (fun _ h => .inl h)
set_option maxRecDepth 100000 in
set_option maxHeartbeats 8000000 in
theorem rtake_calls (n0 : Nat) (x : RV) (r : RS) (a : Int) (xs : List Int) (v : Value) (m0 N : Nat) (W : World) (h : RAt n0 x r W) (hN : Small N r) (hNb : N + 2 * xs.length + 1 ≤ 2147483648) (hv : Handed m0 W v xs) (hfree : ∀ k, v.ownBlock = some k → ¬ RC x k)
    (hl : xs.length ≤ 3) (ha : -1000 ≤ a ∧ a ≤ 100000000000) :
    Calls Tryd.prog 26 #[.pointer (some ⟨x.R, 0, none⟩), v, .int .i64 a] W (RTo n0 x W (takeL a xs.length 0 xs r).1 (.bool (takeL a xs.length 0 xs r).2)) := by
  obtain ⟨A, cap, rfl, hcell⟩ : ∃ A cap, v = .slice A xs.length cap ∧ ∀ i y, xs[i]? = some y → ∃ g, A = some ⟨g, 0, none⟩ ∧ g < W.heap.size ∧ ¬ RC x g ∧ W.cell? ⟨g, i, none⟩ = some (.int .u8 y) := by
    rcases hv with ⟨rfl, rfl⟩ | ⟨g, cap, hB⟩
    · exact ⟨_, _, rfl, fun i y hi => by simp at hi⟩
    · exact ⟨_, _, hB.val, fun i y hi => ⟨g, rfl, hB.lt, hfree g (by rw [hB.val]; rfl), hB.cell i y hi⟩⟩
  obtain ⟨tot, htot⟩ : ∃ tot, takeL a xs.length 0 xs r = tot := ⟨_, rfl⟩
  rw [htot]
  obtain ⟨n, hn⟩ : ∃ n, xs.length = n := ⟨_, rfl⟩
  have HT0 : Hid (takeL a n 0 (xs.drop 0) r = tot) := by rw [← hn]; exact htot
  rw [hn] at hNb hl ⊢
  have HG0 : Hid (RGo n0 x W r x W) := RGo.refl h
  have HN0 : Hid (Small (N + 2 * 0) r) := hN
  have HC : Hid (∀ i y, xs[i]? = some y → ∃ g, A = some ⟨g, 0, none⟩ ∧ g < W.heap.size ∧ ¬ RC x g ∧ W.cell? ⟨g, i, none⟩ = some (.int .u8 y)) := hcell
  have HL : Hid (xs.length = n) := hn
  clear hcell htot hN h hn hv hfree
  obtain ⟨R, S, B, fv, rv, qv⟩ := x
  dsimp only at *
  go_enter Tryd.func26, Tryd.ntmps26
  go_wp2
  go_loopw [14] (fun y wl => ∃ (i : Nat) (x' : RV) (r' : RS), i ≤ n ∧ y = .int .i64 i ∧ Hid (RGo n0 ⟨R, S, B, fv, rv, qv⟩ W r' x' wl) ∧ Hid (takeL a n i (xs.drop i) r' = tot) ∧ Hid (Small (N + 2 * i) r')) (fun y _ => n - (intOf y).toNat)
  case atStart => exact ⟨0, _, _, Nat.zero_le _, rfl, HG0, HT0, HN0⟩
  case round =>
    obtain ⟨i, x', r', hi, rfl, HG, HT, HN⟩ := hrel
    by_cases hlt0 : i < n
    · obtain ⟨c, hc⟩ : ∃ c, xs[i]? = some c := ⟨_, List.getElem?_eq_getElem (by rw [HL.out]; exact hlt0)⟩
      obtain ⟨g, rfl, hgl, hgR, hcc⟩ := HC.out i c hc
      have hg0 := HG.out
      have hcw : wr.cell? ⟨g, i, none⟩ = some (.int .u8 c) := (cell_same (hg0.acts.same g hgl hgR)).trans hcc
      have hRR := hg0.new.R
      obtain ⟨R', S', B', fv', rv', qv'⟩ := x'
      dsimp only at hRR
      have hRR2 := hRR.symm
      clear hRR
      subst hRR2
      have hobj := hg0.it.obj
      have hlt := hg0.it.lt
      dsimp only at hobj hlt
      obtain ⟨e0, e1, e2, e3, e4, e5, nx, f, hS⟩ : ∃ e0 e1 e2 e3 e4 e5 nx f, scanS r'.de r'.qu r'.en r'.state c = (⟨e0, e1, e2, e3, e4, e5⟩, nx, f) := ⟨_, _, _, _, _, _, _, _, rfl⟩
      obtain ⟨r5, b, hE⟩ : ∃ r5 b, eventR { r' with state := nx } ⟨e0, e1, e2, e3, e4, e5⟩ f (a - n + 1 + i) = (r5, b) := ⟨_, _, rfl⟩
      have hsc := fun w => scan_calls r'.de r'.qu r'.en r'.state c w
      rw [hS] at hsc
      dsimp only [Ev.cells] at hsc
      have hd : xs.drop i = c :: xs.drop (i + 1) := by
        obtain ⟨hi1, rfl⟩ := List.getElem?_eq_some_iff.1 hc
        exact List.drop_eq_getElem_cons hi1
      have HT2 : Hid (tot = if b = true then takeL a n (i + 1) (xs.drop (i + 1)) r5 else (r5, false)) := by
        have := HT.out
        rw [hd, takeL, hS] at this
        dsimp only at this
        rw [hE] at this
        exact this.symm
      have HN2 : Hid (Small (N + 2 * (i + 1)) r5) := by
        have := Small.event (r := { r' with state := nx }) (N := N + 2 * i) HN.out ⟨e0, e1, e2, e3, e4, e5⟩ f (a - n + 1 + i)
        rw [hE] at this
        exact this
      have hw1 : wrap64 (a - (n : Int)) = a - n := w64 (by omega) (by omega)
      have hw2 : wrap64 (a - (n : Int) + 1) = a - n + 1 := w64 (by omega) (by omega)
      have hw4 : wrap64 (a - (n : Int) + 1 + i) = a - n + 1 + i := w64 (by omega) (by omega)
      have HE : Hid (eventR { r' with state := nx } ⟨e0, e1, e2, e3, e4, e5⟩ f (a - n + 1 + i) = (r5, b)) := hE
      clear hE hS hd HT hcc hg0
      go_wp2
      refine start_ (n := 18) (S := fun w' => w'.heap[R]? = some (.cells (r'.cells ⟨R, S', B', fv', rv', qv'⟩) 69 (0, 0))) (ds := [15]) #[false, false, false, false, false, false, false, false, false, false, false, false, false, false, false, false, false, false] (by kernel_rfl) rfl rfl hobj (fun hHeld => ?_)
      refine pure_ (i := 0) (N := some 20) (v := ?_) (a' := ?_) #[true, false, false, false, false, false, false, false, false, false, false, false, false, false, false, false, false, false] rfl rfl (by kernel_rfl) (fun _ _ _ h => h) (Or.inl ⟨by rfl, ?_⟩) ?_ ?_
      rotate_left
      · intro w'
        go_simp
        with_reducible rfl
      rotate_left
      · simp only [Act.put, List.setIfInBounds_toArray, List.set_cons_zero, List.set_cons_succ]
        rfl
      refine pure_ (i := 1) (N := some 21) (v := ?_) (a' := ?_) #[true, true, false, false, false, false, false, false, false, false, false, false, false, false, false, false, false, false] rfl rfl (by kernel_rfl) (fun _ _ _ h => h) (Or.inl ⟨by rfl, ?_⟩) ?_ ?_
      rotate_left
      · intro w'
        go_simp
        with_reducible rfl
      rotate_left
      · simp only [Act.put, List.setIfInBounds_toArray, List.set_cons_zero, List.set_cons_succ]
        rfl
      refine pure_ (i := 2) (N := some 22) (v := ?_) (a' := ?_) #[true, true, true, false, false, false, false, false, false, false, false, false, false, false, false, false, false, false] rfl rfl (by kernel_rfl) (fun _ _ _ h => h) (Or.inl ⟨by rfl, ?_⟩) ?_ ?_
      rotate_left
      · intro w'
        go_simp
        with_reducible rfl
      rotate_left
      · simp only [Act.put, List.setIfInBounds_toArray, List.set_cons_zero, List.set_cons_succ]
        rfl
      refine take_ (i := 3) (N := some 23) (v := ?_) (a' := ?_) #[true, true, true, true, false, false, false, false, false, false, false, false, false, false, false, false, false, false] rfl rfl (by kernel_rfl) (fun _ _ _ h => h) (Or.inl ⟨by rfl, ?_⟩) hHeld ?_ ?_
      rotate_left
      · intro w' s0
        have c0 := (blk_cell s0 0).trans rfl
        have c1 := (blk_cell s0 1).trans rfl
        have c2 := (blk_cell s0 2).trans rfl
        simp only [RS.cells] at c0 c1 c2
        clear s0
        go_simp
        with_reducible rfl
      rotate_left
      · simp only [Act.put, List.setIfInBounds_toArray, List.set_cons_zero, List.set_cons_succ]
        rfl
      refine pure_ (i := 4) (N := some 24) (v := ?_) (a' := ?_) #[true, true, true, true, true, false, false, false, false, false, false, false, false, false, false, false, false, false] rfl rfl (by kernel_rfl) (fun _ _ _ h => h) (Or.inl ⟨by rfl, ?_⟩) ?_ ?_
      rotate_left
      · intro w'
        go_simp
        with_reducible rfl
      rotate_left
      · simp only [Act.put, List.setIfInBounds_toArray, List.set_cons_zero, List.set_cons_succ]
        rfl
      refine pure_ (i := 5) (N := some 25) (v := ?_) (a' := ?_) #[true, true, true, true, true, true, false, false, false, false, false, false, false, false, false, false, false, false] rfl rfl (by kernel_rfl) (fun _ _ _ h => h) (Or.inl ⟨by rfl, ?_⟩) ?_ ?_
      rotate_left
      · intro w'
        go_simp
        with_reducible rfl
      rotate_left
      · simp only [Act.put, List.setIfInBounds_toArray, List.set_cons_zero, List.set_cons_succ]
        rfl
      refine pure_ (i := 6) (N := some 26) (v := ?_) (a' := ?_) #[true, true, true, true, true, true, true, false, false, false, false, false, false, false, false, false, false, false] rfl rfl (by kernel_rfl) (fun _ _ _ h => h) (Or.inl ⟨by rfl, ?_⟩) ?_ ?_
      rotate_left
      · intro w'
        go_simp
        with_reducible rfl
      rotate_left
      · simp only [Act.put, List.setIfInBounds_toArray, List.set_cons_zero, List.set_cons_succ]
        rfl
      refine take_ (i := 7) (N := some 27) (v := ?_) (a' := ?_) #[true, true, true, true, true, true, true, true, false, false, false, false, false, false, false, false, false, false] rfl rfl (by kernel_rfl) (fun _ _ _ h => h) (Or.inl ⟨by rfl, ?_⟩) hHeld ?_ ?_
      rotate_left
      · intro w' s0
        have c6 := (blk_cell s0 6).trans rfl
        simp only [RS.cells] at c6
        clear s0
        go_simp
        with_reducible rfl
      rotate_left
      · simp only [Act.put, List.setIfInBounds_toArray, List.set_cons_zero, List.set_cons_succ]
        rfl
      refine pure_ (i := 8) (N := some 28) (v := ?_) (a' := ?_) #[true, true, true, true, true, true, true, true, true, false, false, false, false, false, false, false, false, false] rfl rfl (by kernel_rfl) (fun _ _ _ h => h) (Or.inl ⟨by rfl, ?_⟩) ?_ ?_
      rotate_left
      · intro w'
        go_simp
        with_reducible rfl
      rotate_left
      · simp only [Act.put, List.setIfInBounds_toArray, List.set_cons_zero, List.set_cons_succ]
        rfl
      refine join_ (σ := Nat) 3 #[true, true, true, true, true, true, true, true, true, true, true, true, true, true, true, false, false, false] (fun s_ => [(29, .tuple #[.agg #[.bool e0, .bool e1, .bool e2, .bool e3, .bool e4, .int .u8 e5], .int .i64 nx, .int .i64 f]), (9, .pointer (some ⟨s_, 0, none⟩)), (19, .tuple #[.agg #[.bool e0, .bool e1, .bool e2, .bool e3, .bool e4, .int .u8 e5], .int .i64 nx, .int .i64 f]), (30, .agg #[.bool e0, .bool e1, .bool e2, .bool e3, .bool e4, .int .u8 e5]), (31, .int .i64 nx), (32, .int .i64 f)]) (fun s_ w' => Acts (fun _ => False) wr w' ∧ w'.heap[s_]? = some (.cells #[.bool false, .bool false, .bool false, .bool false, .bool false, .int .u8 0] 77 (0, 0)) ∧ wr.heap.size ≤ s_) ?_ ?_
      rotate_left
      · intro hCont
        refine two_ (i := 9) (j := 14) (Ni := some 29) (Nj := some 9) #[true, true, true, true, true, true, true, true, true, true, false, false, false, false, false, false, false, false] #[true, true, true, true, true, true, true, true, true, false, false, false, false, false, true, false, false, false] rfl rfl rfl rfl (by kernel_rfl) (by decide) (by decide) (fun K hK => ?_) (fun K hK => ?_)
        · skip
          refine goes_ Tryd.func42 (by kernel_rfl) rfl #[.agg #[.int .u8 r'.de, .int .u8 r'.qu, .int .i64 r'.en], .int .i64 r'.state, .int .u8 c] (by rfl) rfl rfl (by simp only [List.map_toArray, List.map_cons, List.map_nil]; rfl) ?_
          with_reducible refine (hsc _).mono ?_
          rintro e w1 ⟨rfl, hA1⟩
          refine ⟨_, rfl, ?_⟩
          refine hK.out _ _ ((hA1.same R hlt (fun h => h)).trans hobj) (fun hHeld => ?_)
          clear hK K
          refine norm_ (a' := ?_) ?_ ?_
          rotate_left
          · show Act.put _ (some 29) _ = _
            simp only [Act.put, List.setIfInBounds_toArray, List.set_cons_zero, List.set_cons_succ]
            rfl
          refine pure_ (i := 10) (N := some 19) (v := ?_) (a' := ?_) #[true, true, true, true, true, true, true, true, true, true, true, false, false, false, false, false, false, false] rfl rfl (by kernel_rfl) (fun _ _ _ h => h) (Or.inl ⟨by rfl, ?_⟩) ?_ ?_
          rotate_left
          · intro w'
            go_simp
            with_reducible rfl
          rotate_left
          · simp only [Act.put, List.setIfInBounds_toArray, List.set_cons_zero, List.set_cons_succ]
            rfl
          refine pure_ (i := 11) (N := some 30) (v := ?_) (a' := ?_) #[true, true, true, true, true, true, true, true, true, true, true, true, false, false, false, false, false, false] rfl rfl (by kernel_rfl) (fun _ _ _ h => h) (Or.inl ⟨by rfl, ?_⟩) ?_ ?_
          rotate_left
          · intro w'
            go_simp
            with_reducible rfl
          rotate_left
          · simp only [Act.put, List.setIfInBounds_toArray, List.set_cons_zero, List.set_cons_succ]
            rfl
          refine pure_ (i := 12) (N := some 31) (v := ?_) (a' := ?_) #[true, true, true, true, true, true, true, true, true, true, true, true, true, false, false, false, false, false] rfl rfl (by kernel_rfl) (fun _ _ _ h => h) (Or.inl ⟨by rfl, ?_⟩) ?_ ?_
          rotate_left
          · intro w'
            go_simp
            with_reducible rfl
          rotate_left
          · simp only [Act.put, List.setIfInBounds_toArray, List.set_cons_zero, List.set_cons_succ]
            rfl
          refine pure_ (i := 13) (N := some 32) (v := ?_) (a' := ?_) #[true, true, true, true, true, true, true, true, true, true, true, true, true, true, false, false, false, false] rfl rfl (by kernel_rfl) (fun _ _ _ h => h) (Or.inl ⟨by rfl, ?_⟩) ?_ ?_
          rotate_left
          · intro w'
            go_simp
            with_reducible rfl
          rotate_left
          · simp only [Act.put, List.setIfInBounds_toArray, List.set_cons_zero, List.set_cons_succ]
            rfl
          refine one_ (i := 14) (N := some 9) #[true, true, true, true, true, true, true, true, true, true, true, true, true, true, true, false, false, false] rfl rfl (by kernel_rfl) (by decide) (fun K hK => ?_)
          refine box_step ?hg (N := 9) ?hd (cs := #[.bool false, .bool false, .bool false, .bool false, .bool false, .int .u8 0]) (t := 77) ?hr ?_; (case hd => rfl); (case hg => rfl); (case hr => first | (go_simp; done) | (go_simp; rfl))
          intro s1 hg w2 hbox hb
          have hA2 : Acts (fun _ => False) wr w2 := (Acts.drew (fun _ => False) wr).trans (hA1.trans (C' := fun _ => False) (Acts.of_below hb) (fun _ h => .inl h)) (fun _ h => .inl h)
          refine hK.out _ _ ((hA2.same R hlt (fun h => h)).trans hobj) (fun hHeld => ?_)
          clear hK K
          refine norm_ (a' := ?_) ?_ ?_
          rotate_left
          · show Act.put _ (some 9) _ = _
            simp only [Act.put, List.setIfInBounds_toArray, List.set_cons_zero, List.set_cons_succ]
            rfl
          exact norm_ (by simp only [putAll, Act.put, List.setIfInBounds_toArray, List.set_cons_zero, List.set_cons_succ]) (hCont s1 _ ⟨hA2, hbox, by rw [hg]; exact hA1.size⟩)
        · skip
          refine box_step ?hg (N := 9) ?hd (cs := #[.bool false, .bool false, .bool false, .bool false, .bool false, .int .u8 0]) (t := 77) ?hr ?_; (case hd => rfl); (case hg => rfl); (case hr => first | (go_simp; done) | (go_simp; rfl))
          intro s1 hg w1 hbox hb
          have hA1 : Acts (fun _ => False) wr w1 := (Acts.drew (fun _ => False) wr).trans (C' := fun _ => False) (Acts.of_below hb) (fun _ h => .inl h)
          refine hK.out _ _ ((hA1.same R hlt (fun h => h)).trans hobj) (fun hHeld => ?_)
          clear hK K
          refine norm_ (a' := ?_) ?_ ?_
          rotate_left
          · show Act.put _ (some 9) _ = _
            simp only [Act.put, List.setIfInBounds_toArray, List.set_cons_zero, List.set_cons_succ]
            rfl
          refine one_ (i := 9) (N := some 29) #[true, true, true, true, true, true, true, true, true, true, false, false, false, false, true, false, false, false] rfl rfl (by kernel_rfl) (by decide) (fun K hK => ?_)
          refine goes_ Tryd.func42 (by kernel_rfl) rfl #[.agg #[.int .u8 r'.de, .int .u8 r'.qu, .int .i64 r'.en], .int .i64 r'.state, .int .u8 c] (by rfl) rfl rfl (by simp only [List.map_toArray, List.map_cons, List.map_nil]; rfl) ?_
          with_reducible refine (hsc _).mono ?_
          rintro e w2 ⟨rfl, hA2⟩
          refine ⟨_, rfl, ?_⟩
          have hA3 : Acts (fun _ => False) wr w2 := hA1.trans hA2 (fun _ h => .inl h)
          refine hK.out _ _ ((hA3.same R hlt (fun h => h)).trans hobj) (fun hHeld => ?_)
          clear hK K
          refine norm_ (a' := ?_) ?_ ?_
          rotate_left
          · show Act.put _ (some 29) _ = _
            simp only [Act.put, List.setIfInBounds_toArray, List.set_cons_zero, List.set_cons_succ]
            rfl
          refine pure_ (i := 10) (N := some 19) (v := ?_) (a' := ?_) #[true, true, true, true, true, true, true, true, true, true, true, false, false, false, true, false, false, false] rfl rfl (by kernel_rfl) (fun _ _ _ h => h) (Or.inl ⟨by rfl, ?_⟩) ?_ ?_
          rotate_left
          · intro w'
            go_simp
            with_reducible rfl
          rotate_left
          · simp only [Act.put, List.setIfInBounds_toArray, List.set_cons_zero, List.set_cons_succ]
            rfl
          refine pure_ (i := 11) (N := some 30) (v := ?_) (a' := ?_) #[true, true, true, true, true, true, true, true, true, true, true, true, false, false, true, false, false, false] rfl rfl (by kernel_rfl) (fun _ _ _ h => h) (Or.inl ⟨by rfl, ?_⟩) ?_ ?_
          rotate_left
          · intro w'
            go_simp
            with_reducible rfl
          rotate_left
          · simp only [Act.put, List.setIfInBounds_toArray, List.set_cons_zero, List.set_cons_succ]
            rfl
          refine pure_ (i := 12) (N := some 31) (v := ?_) (a' := ?_) #[true, true, true, true, true, true, true, true, true, true, true, true, true, false, true, false, false, false] rfl rfl (by kernel_rfl) (fun _ _ _ h => h) (Or.inl ⟨by rfl, ?_⟩) ?_ ?_
          rotate_left
          · intro w'
            go_simp
            with_reducible rfl
          rotate_left
          · simp only [Act.put, List.setIfInBounds_toArray, List.set_cons_zero, List.set_cons_succ]
            rfl
          refine pure_ (i := 13) (N := some 32) (v := ?_) (a' := ?_) #[true, true, true, true, true, true, true, true, true, true, true, true, true, true, true, false, false, false] rfl rfl (by kernel_rfl) (fun _ _ _ h => h) (Or.inl ⟨by rfl, ?_⟩) ?_ ?_
          rotate_left
          · intro w'
            go_simp
            with_reducible rfl
          rotate_left
          · simp only [Act.put, List.setIfInBounds_toArray, List.set_cons_zero, List.set_cons_succ]
            rfl
          exact norm_ (by simp only [putAll, Act.put, List.setIfInBounds_toArray, List.set_cons_zero, List.set_cons_succ]) (hCont s1 _ ⟨hA3, (hA2.same s1 (blk_lt hbox) (fun h => h)).trans hbox, by rw [hg]; exact Nat.le_refl wr.heap.size⟩)
      rintro s2 w2 ⟨hA2, hs2, hge⟩
      have hw3o := (hA2.same R hlt (fun h => h)).trans hobj
      have y0 := (blk_cell hs2 0).trans rfl
      have z0 := blk_frozen hs2 0
      have y1 := (blk_cell hs2 1).trans rfl
      have z1 := blk_frozen hs2 1
      have y2 := (blk_cell hs2 2).trans rfl
      have z2 := blk_frozen hs2 2
      have y3 := (blk_cell hs2 3).trans rfl
      have z3 := blk_frozen hs2 3
      have y4 := (blk_cell hs2 4).trans rfl
      have z4 := blk_frozen hs2 4
      have y5 := (blk_cell hs2 5).trans rfl
      have z5 := blk_frozen hs2 5
      obtain ⟨w3, hw3⟩ : ∃ w3, ((((((w2.setCell ⟨s2, 0, none⟩ (.bool e0)).setCell ⟨s2, 1, none⟩ (.bool e1)).setCell ⟨s2, 2, none⟩ (.bool e2)).setCell ⟨s2, 3, none⟩ (.bool e3)).setCell ⟨s2, 4, none⟩ (.bool e4)).setCell ⟨s2, 5, none⟩ (.int .u8 e5)) = w3 := ⟨_, rfl⟩
      have hx3 : w3.heap[s2]? = some (.cells #[.bool e0, .bool e1, .bool e2, .bool e3, .bool e4, .int .u8 e5] 77 (0, 0)) := by rw [← hw3]; exact ev_stored hs2 rfl _ _ _ _ _ _
      have hA3 : Acts (fun _ => False) wr w3 := by rw [← hw3]; exact hA2.trans (ev_stored_acts w2 s2 _ _ _ _ _ _) (fun j e => .inr (by omega))
      refine norm_ (a' := ?_) ?_ ?_
      rotate_left
      · simp only [putAll, Act.put, List.setIfInBounds_toArray, List.set_cons_zero, List.set_cons_succ]
        rfl
      refine last_ (i := 15) (N := none) #[true, true, true, true, true, true, true, true, true, true, true, true, true, true, true, true, false, false] rfl rfl (by kernel_rfl) (by decide) (fun K hK => ?_)
      refine skip_ (w1 := w3) (by rfl) rfl ?_ ?_
      · rw [← hw3]
        go_simp
      refine hK.out _ _ ?_
      clear hK K hHeld
      refine pure_ (i := 16) (N := some 10) (v := ?_) (a' := ?_) #[true, true, true, true, true, true, true, true, true, true, true, true, true, true, true, true, true, false] rfl rfl (by kernel_rfl) (fun _ _ _ h => h) (Or.inl ⟨by rfl, ?_⟩) ?_ ?_
      rotate_left
      · intro w'
        go_simp
        with_reducible rfl
      rotate_left
      · simp only [Act.put, List.setIfInBounds_toArray, List.set_cons_zero, List.set_cons_succ]
        rfl
      refine pure_ (i := 17) (N := some 11) (v := ?_) (a' := ?_) #[true, true, true, true, true, true, true, true, true, true, true, true, true, true, true, true, true, true] rfl rfl (by kernel_rfl) (fun _ _ _ h => h) (Or.inl ⟨by rfl, ?_⟩) ?_ ?_
      rotate_left
      · intro w'
        go_simp
        with_reducible rfl
      rotate_left
      · simp only [Act.put, List.setIfInBounds_toArray, List.set_cons_zero, List.set_cons_succ]
        rfl
      refine done_ (by kernel_rfl) ?_
      have hgo3 := RGo.more HG.out hA3
      have hset := hgo3.set (r' := { r' with state := nx }) 6 (.int .i64 nx) rfl rfl rfl rfl
      dsimp only at hset
      have d6 := (blk_cell hgo3.it.obj 6).trans rfl
      have f6 := blk_frozen hgo3.it.obj 6
      simp only [RS.cells] at d6
      have hsR : s2 ≠ R := by omega
      have hRs : R ≠ s2 := by omega
      have hNN := HN.out
      have hec := event_calls n0 _ _ ⟨e0, e1, e2, e3, e4, e5⟩ f (a - n + 1 + i) _ hset.it hNN.1 (by have := hNN.2.1; dsimp only; omega) (by have := hNN.2.2; dsimp only; omega)
      rw [HE.out] at hec
      dsimp only [Ev.cells] at hec
      have x0 := (blk_cell hx3 0).trans rfl
      have x1 := (blk_cell hx3 1).trans rfl
      have x2 := (blk_cell hx3 2).trans rfl
      have x3 := (blk_cell hx3 3).trans rfl
      have x4 := (blk_cell hx3 4).trans rfl
      have x5 := (blk_cell hx3 5).trans rfl
      have HS : Hid (RGo n0 _ W _ _ _) := hset
      clear hset hgo3 hNN hw3 hs2 hA2 hA3 hx3 hw3o hsc hcw hobj y0 y1 y2 y3 y4 y5 z0 z1 z2 z3 z4 z5
      cases b with
      | false =>
        have hT : tot = (r5, false) := by
          have := HT2.out
          rw [if_neg (by decide)] at this
          exact this
        have HTf : Hid (tot = (r5, false)) := hT
        clear HT2 hT
        go_wp2_with (go_at_call 31; (with_reducible refine hec.mono ?_); rintro e w5 ⟨rfl, x5', hg5⟩)
        go_ret
        rw [HTf.out]
        exact ⟨rfl, _, RGo.trans HS.out hg5⟩
      | true =>
        have hT : Hid (takeL a n (i + 1) (xs.drop (i + 1)) r5 = tot) := by
          have := HT2.out
          rw [if_pos rfl] at this
          exact this.symm
        clear HT2
        go_wp2_with (go_at_call 31; (with_reducible refine hec.mono ?_); rintro e w5 ⟨rfl, x5', hg5⟩; have HG5 : Hid (RGo n0 _ W _ _ _) := RGo.trans HS.out hg5; clear hg5 HS hec)
        go_roundw
        case rel => exact ⟨i + 1, _, _, by omega, by go_num, HG5, hT, HN2⟩
        case measure => simp [intOf]; omega
    · obtain rfl : i = n := by omega
      go_wp2
      go_ret
      have hT := HT.out
      rw [List.drop_eq_nil_of_le (by rw [HL.out]; exact Nat.le_refl _), takeL] at hT
      rw [← hT]
      exact ⟨rfl, _, HG.out⟩
end Go.Proofs.YtmignbhpofmgeaaDoor.Top
namespace Go.Proofs.YtmignbhpofmgeaaDoor.Top
open Go.RowKit Go.Proofs.YtmignbhpofmgeaaDoorW.PrintWords Go.Proofs.YtmignbhpofmgeaaDoorW.PrintLast Go.Proofs.YtmignbhpofmgeaaDoorW.PrintMore Go.Proofs.YtmignbhpofmgeaaDoor.Iter
set_option linter.unusedVariables false
set_option linter.unusedSimpArgs false
/-- A block of another kind is turned: the Reader stays. -/
theorem RAt.far {n0 : Nat} {x : RV} {r : RS} {W W' : World} (h : RAt n0 x r W) {L t : Nat} {cs : Array Value} (hL : W.heap[L]? = some (.cells cs t (0, 0))) (ht : t ≠ 69 ∧ t ≠ 98 ∧ t ≠ 96 ∧ t ≠ 5 ∧ t ≠ 9 ∧ t ≠ 61) (ha : Acts (fun k => k = L) W W') : RAt n0 x r W' := by
  obtain ⟨rows, hq, hr⟩ := h.que
  obtain ⟨t1, t2, t3, t4, t5, t6⟩ := ht
  have hk : ∀ k, k < W.heap.size → k ≠ L → W'.heap[k]? = W.heap[k]? := fun k h1 h2 => ha.same k h1 h2
  refine ⟨(hk _ h.lt (blk_ne h.obj hL (Ne.symm t1))).trans h.obj, h.mak.keep (fun k hk' => ?_), h.st.keep (hk _ h.st.lt (blk_ne h.st hL (Ne.symm t2))), ⟨rows, owns_keep hq (fun k e => hk k (row_lt hq k e) (fun e' => row_ne hq hL (Ne.symm t6) (e' ▸ e))), hr.1, fun i v l hi hl => ?_⟩, h.low⟩
  · rcases hk' with rfl | e | e
    · exact hk _ h.mak.lt (blk_ne h.mak.obj hL (Ne.symm t3))
    · exact hk k (row_lt h.mak.frow k e) (fun e' => row_ne h.mak.frow hL (Ne.symm t4) (e' ▸ e))
    · exact hk k (row_lt h.mak.rrow k e) (fun e' => row_ne h.mak.rrow hL (Ne.symm t5) (e' ▸ e))
  · obtain ⟨h1, h2⟩ := hr.2 i v l hi hl
    exact ⟨owns_keep h1 (fun k e => hk k (row_lt h1 k e) (fun e' => row_ne h1 hL (Ne.symm t5) (e' ▸ e))), h2⟩
/-- The Stripper has gone on. -/
theorem RAt.strip {n0 : Nat} {x : RV} {r : RS} {W W' : World} (h : RAt n0 x r W) {s' : SS} (hs : SAt x.S s' W') (ha : Acts (fun k => k = x.S) W W') : RGo n0 x W { r with mark := s' } x W' := by
  obtain ⟨rows, hq, hr⟩ := h.que
  have ha2 : Acts (RC x) W W' := ha.weaken (fun k _ e => .inr (.inl e))
  have hk : ∀ k, k < W.heap.size → k ≠ x.S → W'.heap[k]? = W.heap[k]? := fun k h1 h2 => ha.same k h1 h2
  refine ⟨⟨(hk _ h.lt (Ne.symm h.ne.1)).trans h.obj, h.mak.keep (fun k hk' => ?_), hs, ⟨rows, owns_keep hq (fun k e => hk k (row_lt hq k e) (fun e' => row_ne hq h.st (by decide) (e' ▸ e))), h.rows_keep ha2 (NewOr.refl _ _) hr⟩, h.low⟩, ha2, RNew.refl _ _⟩
  rcases hk' with rfl | e | e
  · exact hk _ h.mak.lt (blk_ne h.mak.obj h.st (by decide))
  · exact hk k (row_lt h.mak.frow k e) (fun e' => row_ne h.mak.frow h.st (by decide) (e' ▸ e))
  · exact hk k (row_lt h.mak.rrow k e) (fun e' => row_ne h.mak.rrow h.st (by decide) (e' ▸ e))
theorem flt_stored {W : World} {L : Nat} {c d : Value} (h : W.heap[L]? = some (.cells #[c, d] 35 (0, 0))) (a b : Value) : ((W.setCell ⟨L, 0, none⟩ a).setCell ⟨L, 1, none⟩ b).heap[L]? = some (.cells #[a, b] 35 (0, 0)) := by
  rw [blk_set (blk_set h 0 a) 1 b]
  simp only [List.setIfInBounds_toArray, List.set_cons_zero, List.set_cons_succ]
theorem flt_acts (W : World) (L : Nat) (a b : Value) : Acts (fun k => k = L) W ((W.setCell ⟨L, 0, none⟩ a).setCell ⟨L, 1, none⟩ b) := (acts_set (B := L) W 0 a).trans (acts_set (B := L) _ 1 b) (fun _ h => .inl h)
def fltV (r : RS) : Value := .agg #[.int .i64 r.fk, .int .i64 r.fat]
theorem Bytes.blk {n0 : Nat} {W : World} {v : Value} {xs : List Int} {g cap : Nat} (h : Bytes n0 W v xs g cap) (k : Nat) (hk : v.ownBlock = some k) : k = g := by
  rw [h.val] at hk
  exact (Option.some.inj hk).symm
theorem box_cell (W : World) (u : Value) (t : TypeId) : (W.alloc (.cells #[u] t)).cell? ⟨W.heap.size, 0, none⟩ = some u := by
  have h := cell_one_new W u t 0 u rfl
  rw [add_plain] at h
  exact h
theorem box_cell2 (W : World) (a b : Addr) (v w u : Value) (t : TypeId) : (((W.setCell a v).setCell b w).alloc (.cells #[u] t)).cell? ⟨W.heap.size, 0, none⟩ = some u := by
  have h := box_cell ((W.setCell a v).setCell b w) u t
  rw [show ((W.setCell a v).setCell b w).heap.size = W.heap.size by simp] at h
  exact h
/-- It stands so that it can go on. -/
def Fine (M : Nat) (r : RS) : Prop := 0 ≤ r.offset ∧ r.offset ≤ M ∧ 0 ≤ r.mark.held ∧ r.mark.held ≤ 2 ∧ r.utf < 8
theorem feedS_len (s : SS) (c : Int) : (feedS s c).2.length ≤ 3 + 1 := by
  unfold feedS
  split
  · simp
  split
  · simp
  split
  · simp
  · simp [bomMark]; omega
theorem feedS_len3 (s : SS) (c : Int) (h2 : s.held ≤ 2) : (feedS s c).2.length ≤ 3 := by
  unfold feedS
  split
  · simp
  split
  · simp
  split
  · simp
  · simp [bomMark]; omega
theorem closeS_len (s : SS) (h2 : s.held ≤ 2) : (closeS s).2.length ≤ 3 := by
  simp [closeS, bomMark]; omega
theorem stepU_lt (i : Nat) (b : Int) : 0 ≤ (stepU i b).1 ∧ (stepU i b).1 < 8 := by
  unfold stepU stepIn
  split
  · rename_i s hs
    have hm := List.mem_of_find?_eq_some hs
    have : ∀ i, i < 8 → ∀ s ∈ utfTab.getD i [], 0 ≤ s.2.2 ∧ s.2.2 < 8 := by decide
    by_cases hi : i < 8
    · exact this i hi s hm
    · rw [List.getD_eq_getElem?_getD, List.getElem?_eq_none (by simp [utfTab]; omega)] at hm; cases hm
  · exact ⟨Int.le_refl _, by show (0 : Int) < 8; decide⟩
/-- What an event leaves. -/
theorem eventR_keeps (r : RS) (ev : Ev) (f a : Int) : (eventR r ev f a).1.mark = r.mark ∧ (eventR r ev f a).1.utf = r.utf ∧ (eventR r ev f a).1.closed = r.closed ∧
    ((eventR r ev f a).2 = true → (eventR r ev f a).1.offset = r.offset ∧ (eventR r ev f a).1.fk = r.fk ∧ (eventR r ev f a).1.fat = r.fat) ∧ ((eventR r ev f a).2 = false → (eventR r ev f a).1.fk ≠ 0) := by
  unfold eventR
  split
  · split
    · exact ⟨rfl, rfl, rfl, fun _ => ⟨rfl, rfl, rfl⟩, fun h => by cases h⟩
    · rename_i h
      exact ⟨rfl, rfl, rfl, (fun h => by cases h), fun _ => h⟩
  · rename_i h
    exact ⟨rfl, rfl, rfl, (fun h => by cases h), fun _ => h⟩
theorem takeL_keeps {a : Int} {n : Nat} : ∀ (xs : List Int) (i : Nat) (r : RS), (takeL a n i xs r).1.mark = r.mark ∧ (takeL a n i xs r).1.utf = r.utf ∧ (takeL a n i xs r).1.closed = r.closed ∧
    ((takeL a n i xs r).2 = true → (takeL a n i xs r).1.offset = r.offset ∧ (takeL a n i xs r).1.fk = r.fk ∧ (takeL a n i xs r).1.fat = r.fat) ∧ ((takeL a n i xs r).2 = false → (takeL a n i xs r).1.fk ≠ 0)
  | [], i, r => ⟨rfl, rfl, rfl, fun _ => ⟨rfl, rfl, rfl⟩, fun h => by cases h⟩
  | c :: cs, i, r => by
    obtain ⟨h1, h2, h3, h4, h5⟩ := eventR_keeps { r with state := (scanS r.de r.qu r.en r.state c).2.1 } (scanS r.de r.qu r.en r.state c).1 (scanS r.de r.qu r.en r.state c).2.2 (a - n + 1 + i)
    unfold takeL
    split
    · rename_i ht
      obtain ⟨g1, g2, g3, g4, g5⟩ := takeL_keeps cs (i + 1) (eventR { r with state := (scanS r.de r.qu r.en r.state c).2.1 } (scanS r.de r.qu r.en r.state c).1 (scanS r.de r.qu r.en r.state c).2.2 (a - n + 1 + i)).1
      exact ⟨g1.trans h1, g2.trans h2, g3.trans h3, fun h => ⟨(g4 h).1.trans (h4 ht).1, (g4 h).2.1.trans (h4 ht).2.1, (g4 h).2.2.trans (h4 ht).2.2⟩, g5⟩
    · rename_i ht
      exact ⟨h1, h2, h3, (fun h => by cases h), fun _ => h5 (by simpa using ht)⟩
/-- The text ends in the middle, or a byte doesn't go on: what is kept back is ahead of it. -/
def cutR (r : RS) (k : Int) : RS :=
  if (takeL (r.offset - 1) (closeS r.mark).2.length 0 (closeS r.mark).2 { r with mark := (closeS r.mark).1 }).2 = true
  then wrongR (takeL (r.offset - 1) (closeS r.mark).2.length 0 (closeS r.mark).2 { r with mark := (closeS r.mark).1 }).1 k r.offset
  else (takeL (r.offset - 1) (closeS r.mark).2.length 0 (closeS r.mark).2 { r with mark := (closeS r.mark).1 }).1
/-- One byte more; does it go on? -/
def stepR (r : RS) (c : Int) : RS × Bool :=
  if (stepU r.utf c).2 = true then takeL r.offset (feedS r.mark c).2.length 0 (feedS r.mark c).2 { r with utf := (stepU r.utf c).1.toNat, offset := r.offset + 1, mark := (feedS r.mark c).1 }
  else (cutR r 3, false)
def feedL : List Int → RS → RS
  | [], r => r
  | c :: cs, r => if (stepR r c).2 = true then feedL cs (stepR r c).1 else (stepR r c).1
def feedB (xs : List Int) (r : RS) : RS := if r.closed = true ∨ r.fk ≠ 0 then r else feedL xs r
theorem Fine.step {M : Nat} {r : RS} (h : Fine M r) (c : Int) (ht : (stepR r c).2 = true) : Fine (M + 1) (stepR r c).1 := by
  unfold stepR at ht ⊢
  split
  · rename_i hu
    rw [if_pos hu] at ht
    obtain ⟨h1, h2, h3, h4, h5⟩ := takeL_keeps (a := r.offset) (n := (feedS r.mark c).2.length) (feedS r.mark c).2 0 { r with utf := (stepU r.utf c).1.toNat, offset := r.offset + 1, mark := (feedS r.mark c).1 }
    have hs := stepU_lt r.utf c
    have hf := feedS_held r.mark c h.2.2.1 h.2.2.2.1
    have ho := (h4 ht).1
    obtain ⟨f1, f2, f3, f4, f5⟩ := h
    refine ⟨?_, ?_, ?_, ?_, ?_⟩
    · rw [ho]; show 0 ≤ r.offset + 1; omega
    · rw [ho]; show r.offset + 1 ≤ _; omega
    · rw [h1]; exact hf.1
    · rw [h1]; exact hf.2
    · rw [h2]; show (stepU r.utf c).1.toNat < 8; omega
  · rename_i hu
    rw [if_neg hu] at ht; cases ht
theorem Small.step {N : Nat} {r : RS} (h : Small N r) (hh : r.mark.held ≤ 2) (c : Int) : Small (N + 8) (stepR r c).1 := by
  unfold stepR
  split
  · exact (Small.take (a := r.offset) (n := (feedS r.mark c).2.length) (feedS r.mark c).2 0 N { r with utf := (stepU r.utf c).1.toNat, offset := r.offset + 1, mark := (feedS r.mark c).1 } h).mono (by have := feedS_len3 r.mark c hh; omega)
  · have hc := (Small.take (a := r.offset - 1) (n := (closeS r.mark).2.length) (closeS r.mark).2 0 N { r with mark := (closeS r.mark).1 } h).mono (N' := N + 8) (by have := closeS_len r.mark hh; omega)
    show Small _ (cutR r 3)
    unfold cutR
    split
    · exact hc
    · exact hc
/-- A piece that is handed over. -/
def BArg (x : RV) (W : World) (v : Value) (xs : List Int) : Prop := ∃ A cap, v = .slice A xs.length cap ∧ ∀ (i : Nat) (y : Int), xs[i]? = some y → ∃ g, A = some ⟨g, 0, none⟩ ∧ g < W.heap.size ∧ ¬ RC x g ∧ W.cell? ⟨g, i, none⟩ = some (.int .u8 y)
set_option maxRecDepth 100000 in
set_option maxHeartbeats 8000000 in
theorem rfeed_calls (n0 : Nat) (x : RV) (r : RS) (xs : List Int) (v : Value) (N M : Nat) (W : World) (h : RAt n0 x r W) (hU : Utf n0 W) (hN : Small N r) (hNb : N + 8 * xs.length + 10 ≤ 2147483648) (hM : r.closed = true ∨ r.fk ≠ 0 ∨ Fine M r) (hMb : M + xs.length ≤ 1000000000) (hv : BArg x W v xs) :
    Calls Tryd.prog 9 #[.pointer (some ⟨x.R, 0, none⟩), v] W (RTo n0 x W (feedB xs r) (fltV (feedB xs r))) := by
  obtain ⟨W1, hW1⟩ : ∃ W1, W.alloc (.cells #[.int .i64 0, .int .i64 0] 35) = W1 := ⟨_, rfl⟩
  have hx : W1.heap[W.heap.size]? = some (.cells #[.int .i64 0, .int .i64 0] 35 (0, 0)) := by rw [← hW1]; simpa using heap_alloc_new W (.cells #[.int .i64 0, .int .i64 0] 35)
  have hA1 : Acts (fun _ => False) W W1 := by rw [← hW1]; exact Acts.alloc _ _ _
  have h1 := h.acts hA1
  have hlt := h.lt
  have hLR : ¬ RC x W.heap.size := fun e => by have := h.rc_lt _ e; omega
  have hgt : W.heap.size < W1.heap.size := (Array.getElem?_eq_some_iff.1 hx).1
  -- what the end does
  have HEnd : Hid (∀ r' x' w', RGo n0 x W1 r' x' w' → w'.heap[W.heap.size]? = some (.cells #[.int .i64 0, .int .i64 0] 35 (0, 0)) ∧ (∀ a b : Value, RGo n0 x W r' x' ((w'.setCell ⟨W.heap.size, 0, none⟩ a).setCell ⟨W.heap.size, 1, none⟩ b) ∧ ((w'.setCell ⟨W.heap.size, 0, none⟩ a).setCell ⟨W.heap.size, 1, none⟩ b).heap[W.heap.size]? = some (.cells #[a, b] 35 (0, 0)))) := by
    intro r' x' w' hg
    have hxw : w'.heap[W.heap.size]? = some (.cells #[.int .i64 0, .int .i64 0] 35 (0, 0)) := (hg.acts.same _ hgt hLR).trans hx
    refine ⟨hxw, fun a b => ⟨?_, flt_stored hxw a b⟩⟩
    have hb : RGo n0 x W r' x' w' := RGo.trans ⟨h1, hA1.weaken (fun _ _ h => h.elim), RNew.refl _ _⟩ hg
    exact ⟨hb.it.far hxw (by decide) (flt_acts _ _ _ _), hb.acts.trans (flt_acts _ _ _ _) (fun j e => .inr (by omega)), hb.new⟩
  obtain ⟨A, cap, rfl, hcell⟩ := hv
  obtain ⟨n, hn⟩ : ∃ n, xs.length = n := ⟨_, rfl⟩
  have n1 : W.heap.size ≠ x.R := by omega
  have n2 : x.R ≠ W.heap.size := by omega
  have c8 := (blk_cell h1.obj 8).trans rfl
  have c9 := (blk_cell h1.obj 9).trans rfl
  have c10 := (blk_cell h1.obj 10).trans rfl
  simp only [RS.cells] at c8 c9 c10
  have x0 := (blk_cell hx 0).trans rfl
  have x1 := (blk_cell hx 1).trans rfl
  have y0 := blk_frozen hx 0
  have y1 := blk_frozen hx 1
  by_cases hst : r.closed = true ∨ r.fk ≠ 0
  · have e : feedB xs r = r := if_pos hst
    rw [e]
    have hE := HEnd.out r x W1 (RGo.refl h1)
    have hfin := (hE.2 (.int .i64 r.fk) (.int .i64 r.fat))
    obtain ⟨R, S, B, fv, rv, qv⟩ := x
    dsimp only at *
    clear HEnd hE hcell hLR e
    cases hcl : r.closed with
    | true =>
      rw [hcl] at c10
      clear hst
      go_enter Tryd.func9, Tryd.ntmps9
      go_wp2
      refine wp_scope_straight ?_
      go_wp2
      refine bodyPost_ret (results_cell_row rfl _ _ W.heap.size 35 #[.int .i64 r.fk, .int .i64 r.fat] (0, 0) _ rfl hfin.2 Tryd.underlying35 rfl (by kernel_rfl)) rfl ?_
      exact ⟨rfl, _, hfin.1⟩
    | false =>
      rw [hcl] at c10
      have hk : ¬ r.fk = 0 := by rw [hcl] at hst; simpa using hst
      clear hst
      go_enter Tryd.func9, Tryd.ntmps9
      go_wp2
      refine wp_scope_straight ?_
      go_wp2
      refine bodyPost_ret (results_cell_row rfl _ _ W.heap.size 35 #[.int .i64 r.fk, .int .i64 r.fat] (0, 0) _ rfl hfin.2 Tryd.underlying35 rfl (by kernel_rfl)) rfl ?_
      exact ⟨rfl, _, hfin.1⟩
  · have e : feedB xs r = feedL xs r := if_neg hst
    rw [e]
    have hcl : r.closed = false := by cases hc : r.closed <;> simp [hc] at hst ⊢
    have hfk : r.fk = 0 := by
      by_cases hz : r.fk = 0
      · exact hz
      · exact absurd (Or.inr hz) hst
    rw [hcl] at c10
    rw [hfk] at c8
    clear hst e
    obtain ⟨tot, htot⟩ : ∃ tot, feedL xs r = tot := ⟨_, rfl⟩
    rw [htot]
    have HT0 : Hid (feedL (xs.drop 0) r = tot) := htot
    have HG0 : Hid (RGo n0 x W1 r x W1) := RGo.refl h1
    have HN0 : Hid (Small (N + 8 * 0) r) := hN
    have HM0 : Hid (Fine (M + 0) r) := hM.elim (fun h => by rw [hcl] at h; cases h) (fun h => h.elim (fun h => absurd hfk h) id)
    have HU : Hid (Utf n0 W1) := hU.acts hA1 (fun _ h => h.elim)
    have HC : Hid (∀ (i : Nat) (y : Int), xs[i]? = some y → ∃ g, A = some ⟨g, 0, none⟩ ∧ g < W.heap.size ∧ ¬ RC x g ∧ W1.cell? ⟨g, i, none⟩ = some (.int .u8 y)) := fun i y hi => by
      obtain ⟨g, h2, h3, h4, h5⟩ := hcell i y hi
      exact ⟨g, h2, h3, h4, (cell_same (hA1.same g h3 (fun h => h))).trans h5⟩
    have HL : Hid (xs.length = n) := hn
    have HA1 : Hid (Acts (fun _ => False) W W1) := hA1
    have HLow : Hid (∀ k, RC x k → n0 ≤ k) := h1.low
    rw [hn] at hNb hMb ⊢
    clear hcell htot hN hn h hU h1 hA1 hM hLR hgt
    obtain ⟨R, S, B, fv, rv, qv⟩ := x
    dsimp only at *
    go_enter Tryd.func9, Tryd.ntmps9
    go_wp2
    refine wp_scope_straight ?_
    go_wp2
    refine wp_label ?_
    go_wp2
    go_loopw [28] (fun y wl => ∃ (i : Nat) (x' : RV) (r' : RS), i ≤ n ∧ y = .int .i64 i ∧ Hid (RGo n0 ⟨R, S, B, fv, rv, qv⟩ W1 r' x' wl) ∧ Hid (feedL (xs.drop i) r' = tot) ∧ Hid (Small (N + 8 * i) r') ∧ Hid (Fine (M + i) r')) (fun y _ => n - (intOf y).toNat)
    case atStart => exact ⟨0, _, _, Nat.zero_le _, rfl, HG0, HT0, HN0, HM0⟩
    case round =>
      obtain ⟨i, x', r', hi, rfl, HG, HT, HN, HM⟩ := hrel
      by_cases hlt0 : i < n
      · obtain ⟨c, hc⟩ : ∃ c, xs[i]? = some c := ⟨_, List.getElem?_eq_getElem (by rw [HL.out]; exact hlt0)⟩
        obtain ⟨g, rfl, hgl, hgR, hcc⟩ := HC.out i c hc
        have hg0 := HG.out
        have hcw : wr.cell? ⟨g, i, none⟩ = some (.int .u8 c) := (cell_same (hg0.acts.same g (by have := hg0.acts.size; have := Acts.size HA1.out; omega) hgR)).trans hcc
        have hRR := hg0.new.R
        obtain ⟨R', S', B', fv', rv', qv'⟩ := x'
        dsimp only at hRR
        have hRR2 := hRR.symm
        clear hRR
        subst hRR2
        have hobj := hg0.it.obj
        dsimp only at hobj
        have c3 := (blk_cell hobj 3).trans rfl
        have c5 := (blk_cell hobj 5).trans rfl
        have c7 := (blk_cell hobj 7).trans rfl
        simp only [RS.cells] at c3 c5 c7
        have hF := HM.out
        obtain ⟨o1, o2, m1, m2, hu8⟩ := hF
        have hstep := step_calls n0 r'.utf c wr (HU.out.acts hg0.acts HLow.out) hu8
        have hd : xs.drop i = c :: xs.drop (i + 1) := by
          obtain ⟨hi1, rfl⟩ := List.getElem?_eq_some_iff.1 hc
          exact List.drop_eq_getElem_cons hi1
        have HT2 : Hid (tot = if (stepR r' c).2 = true then feedL (xs.drop (i + 1)) (stepR r' c).1 else (stepR r' c).1) := by
          have := HT.out
          rw [hd, feedL] at this
          exact this.symm
        have HNs : Hid (Small (N + 8 * (i + 1)) (stepR r' c).1) := Small.step (N := N + 8 * i) HN.out m2 c
        have HMs : Hid ((stepR r' c).2 = true → Fine (M + (i + 1)) (stepR r' c).1) := fun h => Fine.step (M := M + i) HM.out c h
        obtain ⟨u, ok, hSU⟩ : ∃ (u : Nat) (ok : Bool), stepU r'.utf c = ((u : Int), ok) := ⟨(stepU r'.utf c).1.toNat, (stepU r'.utf c).2, by rw [Int.toNat_of_nonneg (stepU_lt _ _).1]⟩
        rw [hSU] at hstep
        dsimp only at hstep
        have hw1 : wrap64 (r'.offset - 1) = r'.offset - 1 := w64 (by omega) (by omega)
        have hw2 : wrap64 (r'.offset + 1) = r'.offset + 1 := w64 (by omega) (by omega)
        cases ok with
        | false =>
          obtain ⟨r6, b6, hT6⟩ : ∃ r6 b6, takeL (r'.offset - 1) (closeS r'.mark).2.length 0 (closeS r'.mark).2 { r' with mark := (closeS r'.mark).1 } = (r6, b6) := ⟨_, _, rfl⟩
          have hcut : tot = if b6 = true then wrongR r6 3 r'.offset else r6 := by
            have := HT2.out
            simp only [stepR, hSU, cutR, hT6] at this
            simpa using this
          clear HT2 hcc hd HNs HMs hSU HT
          have hN6 := HN.out
          cases b6 with
          | false =>
            rw [if_neg (by decide)] at hcut
            subst hcut
            go_wp2_with (first
              | (go_at_call 25; (with_reducible refine hstep.mono ?_); rintro e w1 ⟨rfl, hA⟩; have hg1 := RGo.more HG.out hA; have d3 := (blk_cell hg1.it.obj 3).trans rfl; simp only [RS.cells] at d3)
              | (go_at_call 27; (with_reducible refine (close_calls S' r'.mark w1 hg1.it.st m1 m2).mono ?_); rintro e w2 ⟨v', g', cap', rfl, hB, hS, hA2⟩; have hg2 := hg1.trans (hg1.it.strip hS hA2); have ht := rtake_calls n0 _ _ (r'.offset - 1) _ v' _ (N + 8 * i) w2 hg2.it hN6 (by have := closeS_len r'.mark m2; omega) (.inr ⟨_, _, hB⟩) (fun k hk e => by have h3 := hg1.it.rc_lt k e; have h4 := hB.new; have h5 := hB.blk k hk; omega) (closeS_len r'.mark m2) (by omega); rw [hT6] at ht; dsimp only at ht)
              | (go_at_call 26; (with_reducible refine ht.mono ?_); rintro e w5 ⟨rfl, ⟨R5, S5, B5, fv5, rv5, qv5⟩, hg5⟩; have hR5 := hg5.new.R.symm; dsimp only at hR5; subst hR5; have hgf := hg2.trans hg5; have hE := HEnd.out _ _ _ hgf; have l0 := (blk_cell hE.1 0).trans rfl; have l1 := (blk_cell hE.1 1).trans rfl; have k0 := blk_frozen hE.1 0; have k1 := blk_frozen hE.1 1; have d8 := (blk_cell hgf.it.obj 8).trans rfl; have d9 := (blk_cell hgf.it.obj 9).trans rfl; simp only [RS.cells] at d8 d9))
            refine bodyPost_ret (results_cell_row rfl _ _ W.heap.size 35 #[.int .i64 tot.fk, .int .i64 tot.fat] (0, 0) _ rfl (hE.2 _ _).2 Tryd.underlying35 rfl (by kernel_rfl)) rfl ?_
            exact ⟨rfl, _, (hE.2 _ _).1⟩
          | true =>
            rw [if_pos rfl] at hcut
            subst hcut
            go_wp2_with (first
              | (go_at_call 25; (with_reducible refine hstep.mono ?_); rintro e w1 ⟨rfl, hA⟩; have hg1 := RGo.more HG.out hA; have d3 := (blk_cell hg1.it.obj 3).trans rfl; simp only [RS.cells] at d3)
              | (go_at_call 27; (with_reducible refine (close_calls S' r'.mark w1 hg1.it.st m1 m2).mono ?_); rintro e w2 ⟨v', g', cap', rfl, hB, hS, hA2⟩; have hg2 := hg1.trans (hg1.it.strip hS hA2); have ht := rtake_calls n0 _ _ (r'.offset - 1) _ v' _ (N + 8 * i) w2 hg2.it hN6 (by have := closeS_len r'.mark m2; omega) (.inr ⟨_, _, hB⟩) (fun k hk e => by have h3 := hg1.it.rc_lt k e; have h4 := hB.new; have h5 := hB.blk k hk; omega) (closeS_len r'.mark m2) (by omega); rw [hT6] at ht; dsimp only at ht)
              | (go_at_call 26; (with_reducible refine ht.mono ?_); rintro e w5 ⟨rfl, ⟨R5, S5, B5, fv5, rv5, qv5⟩, hg5⟩; have hR5 := hg5.new.R.symm; dsimp only at hR5; subst hR5; have hg6 := hg2.trans hg5)
              | (go_at_call 28; (with_reducible refine (wrong_calls n0 _ _ 3 r'.offset w5 hg6.it).mono ?_); rintro e w6 ⟨rfl, x6, hg7⟩; have hgf := hg6.trans hg7; have hR6 := hg7.new.R; obtain ⟨R6, S6, B6, fv6, rv6, qv6⟩ := x6; have hR7 := hR6.symm; clear hR6; dsimp only at hR7; subst hR7; have hE := HEnd.out _ _ _ hgf; have l0 := (blk_cell hE.1 0).trans rfl; have l1 := (blk_cell hE.1 1).trans rfl; have k0 := blk_frozen hE.1 0; have k1 := blk_frozen hE.1 1; have d8 := (blk_cell hgf.it.obj 8).trans rfl; have d9 := (blk_cell hgf.it.obj 9).trans rfl; simp only [RS.cells] at d8 d9))
            refine bodyPost_ret (results_cell_row rfl _ _ W.heap.size 35 #[.int .i64 (wrongR r6 3 r'.offset).fk, .int .i64 (wrongR r6 3 r'.offset).fat] (0, 0) _ rfl (hE.2 _ _).2 Tryd.underlying35 rfl (by kernel_rfl)) rfl ?_
            exact ⟨rfl, _, (hE.2 _ _).1⟩
        | true =>
          obtain ⟨r6, b6, hT6⟩ : ∃ r6 b6, takeL r'.offset (feedS r'.mark c).2.length 0 (feedS r'.mark c).2 { r' with utf := u, offset := r'.offset + 1, mark := (feedS r'.mark c).1 } = (r6, b6) := ⟨_, _, rfl⟩
          have hSR : stepR r' c = (r6, b6) := by
            simp only [stepR, hSU, Int.toNat_natCast]
            rw [if_pos trivial]
            exact hT6
          rw [hSR] at HT2 HNs HMs
          have HT3 : Hid (tot = if b6 = true then feedL (xs.drop (i + 1)) r6 else r6) := HT2
          clear HT2 hcc hd hSU HT hSR
          have hN6 := HN.out
          have hl6 := feedS_len3 r'.mark c m2
          cases b6 with
          | false =>
            have hcut := HT3.out
            rw [if_neg (by decide)] at hcut
            subst hcut
            clear HT3 HNs HMs
            go_wp2_with (first
              | (go_at_call 25; (with_reducible refine hstep.mono ?_); rintro e w1 ⟨rfl, hA⟩; have hg1 := RGo.more HG.out hA; have hg2 := (hg1.set (r' := { r' with utf := u }) 5 (.int .i64 u) rfl rfl rfl rfl).set (r' := { r' with utf := u, offset := r'.offset + 1 }) 7 (.int .i64 (r'.offset + 1)) rfl rfl rfl rfl; dsimp only at hg2; have d3 := (blk_cell hg1.it.obj 3).trans rfl; have d5 := (blk_cell hg1.it.obj 5).trans rfl; have d7 := (blk_cell hg1.it.obj 7).trans rfl; have f5 := blk_frozen hg1.it.obj 5; have f7 := blk_frozen hg1.it.obj 7; simp only [RS.cells] at d3 d5 d7; have HG2 : Hid (RGo n0 _ W1 _ _ _) := hg2; clear hg2 hg1)
              | (go_at_call 29; have hg3 := RGo.more HG2.out (Acts.alloc _ _ (.cells #[.int .u8 c] 5)); have hS2 := HG2.out.it.st.lt; (with_reducible refine (feed_calls S' r'.mark _ hg3.it.st m1 m2 w1.heap.size c (box_cell2 w1 _ _ _ _ _ _) (fun e => by rw [← e] at hS2; simp at hS2)).mono ?_); rintro e w2 ⟨v', rfl, hH, hS, hA2⟩; have hg4 := hg3.trans (hg3.it.strip hS hA2); have ht := rtake_calls n0 _ _ r'.offset _ v' _ (N + 8 * i) w2 hg4.it hN6 (by omega) hH (fun k hk e => by have h3 := hg3.it.rc_lt k e; rcases hH with ⟨_, h4⟩ | ⟨g4, cap4, h4⟩; (· rw [h4] at hk; cases hk); have h5 := h4.new; have h6 := h4.blk k hk; omega) hl6 (by omega); rw [hT6] at ht; dsimp only at ht; clear hS2 hg3)
              | (go_at_call 26; (with_reducible refine ht.mono ?_); rintro e w5 ⟨rfl, ⟨R5, S5, B5, fv5, rv5, qv5⟩, hg5⟩; have hR5 := hg5.new.R.symm; dsimp only at hR5; subst hR5; have hgf := hg4.trans hg5; have hE := HEnd.out _ _ _ hgf; have l0 := (blk_cell hE.1 0).trans rfl; have l1 := (blk_cell hE.1 1).trans rfl; have k0 := blk_frozen hE.1 0; have k1 := blk_frozen hE.1 1; have d8 := (blk_cell hgf.it.obj 8).trans rfl; have d9 := (blk_cell hgf.it.obj 9).trans rfl; simp only [RS.cells] at d8 d9))
            refine bodyPost_ret (results_cell_row rfl _ _ W.heap.size 35 #[.int .i64 tot.fk, .int .i64 tot.fat] (0, 0) _ rfl (hE.2 _ _).2 Tryd.underlying35 rfl (by kernel_rfl)) rfl ?_
            exact ⟨rfl, _, (hE.2 _ _).1⟩
          | true =>
            have HT4 : Hid (feedL (xs.drop (i + 1)) r6 = tot) := by
              have := HT3.out
              rw [if_pos rfl] at this
              exact this.symm
            have HMt : Hid (Fine (M + (i + 1)) r6) := HMs.out rfl
            clear HT3 HMs
            go_wp2_with (first
              | (go_at_call 25; (with_reducible refine hstep.mono ?_); rintro e w1 ⟨rfl, hA⟩; have hg1 := RGo.more HG.out hA; have hg2 := (hg1.set (r' := { r' with utf := u }) 5 (.int .i64 u) rfl rfl rfl rfl).set (r' := { r' with utf := u, offset := r'.offset + 1 }) 7 (.int .i64 (r'.offset + 1)) rfl rfl rfl rfl; dsimp only at hg2; have d3 := (blk_cell hg1.it.obj 3).trans rfl; have d5 := (blk_cell hg1.it.obj 5).trans rfl; have d7 := (blk_cell hg1.it.obj 7).trans rfl; have f5 := blk_frozen hg1.it.obj 5; have f7 := blk_frozen hg1.it.obj 7; simp only [RS.cells] at d3 d5 d7; have HG2 : Hid (RGo n0 _ W1 _ _ _) := hg2; clear hg2 hg1)
              | (go_at_call 29; have hg3 := RGo.more HG2.out (Acts.alloc _ _ (.cells #[.int .u8 c] 5)); have hS2 := HG2.out.it.st.lt; (with_reducible refine (feed_calls S' r'.mark _ hg3.it.st m1 m2 w1.heap.size c (box_cell2 w1 _ _ _ _ _ _) (fun e => by rw [← e] at hS2; simp at hS2)).mono ?_); rintro e w2 ⟨v', rfl, hH, hS, hA2⟩; have hg4 := hg3.trans (hg3.it.strip hS hA2); have ht := rtake_calls n0 _ _ r'.offset _ v' _ (N + 8 * i) w2 hg4.it hN6 (by omega) hH (fun k hk e => by have h3 := hg3.it.rc_lt k e; rcases hH with ⟨_, h4⟩ | ⟨g4, cap4, h4⟩; (· rw [h4] at hk; cases hk); have h5 := h4.new; have h6 := h4.blk k hk; omega) hl6 (by omega); rw [hT6] at ht; dsimp only at ht; clear hS2 hg3)
              | (go_at_call 26; (with_reducible refine ht.mono ?_); rintro e w5 ⟨rfl, ⟨R5, S5, B5, fv5, rv5, qv5⟩, hg5⟩; have hR5 := hg5.new.R.symm; dsimp only at hR5; subst hR5; have HG5 : Hid (RGo n0 _ W1 _ _ _) := hg4.trans hg5; clear hg5 hg4))
            go_roundw
            case rel => exact ⟨i + 1, _, _, by omega, by go_num, HG5, HT4, HNs, HMt⟩
            case measure => simp [intOf]; omega
      · obtain rfl : i = n := by omega
        have hT := HT.out
        rw [List.drop_eq_nil_of_le (by rw [HL.out]; exact Nat.le_refl _), feedL] at hT
        subst hT
        have hgf := HG.out
        have hRR := hgf.new.R
        obtain ⟨R', S', B', fv', rv', qv'⟩ := x'
        dsimp only at hRR
        have hRR2 := hRR.symm
        clear hRR
        subst hRR2
        have hE := HEnd.out _ _ _ hgf
        have l0 := (blk_cell hE.1 0).trans rfl
        have l1 := (blk_cell hE.1 1).trans rfl
        have k0 := blk_frozen hE.1 0
        have k1 := blk_frozen hE.1 1
        have d8 := (blk_cell hgf.it.obj 8).trans rfl
        have d9 := (blk_cell hgf.it.obj 9).trans rfl
        simp only [RS.cells] at d8 d9
        clear hgf
        go_wp2
        refine bodyPost_ret (results_cell_row rfl _ _ W.heap.size 35 #[.int .i64 r'.fk, .int .i64 r'.fat] (0, 0) _ rfl (hE.2 _ _).2 Tryd.underlying35 rfl (by kernel_rfl)) rfl ?_
        exact ⟨rfl, _, (hE.2 _ _).1⟩
end Go.Proofs.YtmignbhpofmgeaaDoor.Top
namespace Go.Proofs.YtmignbhpofmgeaaDoor.Top
open Go.RowKit Go.Proofs.YtmignbhpofmgeaaDoorW.PrintWords Go.Proofs.YtmignbhpofmgeaaDoorW.PrintLast Go.Proofs.YtmignbhpofmgeaaDoorW.PrintMore Go.Proofs.YtmignbhpofmgeaaDoor.Iter
set_option linter.unusedVariables false
set_option linter.unusedSimpArgs false
def initM (F Fs R : Int) (U : Bool) : MS := ⟨F, Fs, R, U, [], [], 0, 0, 0, 0⟩
set_option maxRecDepth 100000 in
set_option maxHeartbeats 4000000 in
theorem fnew_calls (F Fs R : Int) (U : Bool) (W : World) (hk : PTopSticky.dialect_CheckLimits.f F Fs R U = some 0) :
    Calls Tryd.prog 23 #[.agg #[.int .i64 F, .int .i64 Fs, .int .i64 R, .bool U]] W (fun e w' => ∃ B, e = .returned (.tuple #[.pointer (some ⟨B, 0, none⟩), .int .i64 0]) ∧ W.heap.size ≤ B ∧ MkAt B (initM F Fs R U) (.slice none 0 0) (.slice none 0 0) w' ∧ Acts (fun _ => False) W w') := by
  obtain ⟨W1, hW1⟩ : ∃ W1, W.alloc (.cells #[.int .i64 F, .int .i64 Fs, .int .i64 R, .bool U] 25) = W1 := ⟨_, rfl⟩
  have hx : W1.heap[W.heap.size]? = some (.cells #[.int .i64 F, .int .i64 Fs, .int .i64 R, .bool U] 25 (0, 0)) := by rw [← hW1]; simpa using heap_alloc_new W (.cells #[.int .i64 F, .int .i64 Fs, .int .i64 R, .bool U] 25)
  have hA1 : Acts (fun _ => False) W W1 := by rw [← hW1]; exact Acts.alloc _ _ _
  have x0 := (blk_cell hx 0).trans rfl
  have x1 := (blk_cell hx 1).trans rfl
  have x2 := (blk_cell hx 2).trans rfl
  have x3 := (blk_cell hx 3).trans rfl
  have hc := PTopSticky.dialect_CheckLimits.calls F Fs R U 0 W1 hk
  go_enter Tryd.func23, Tryd.ntmps23
  go_wp2_with (go_at_call 41; (with_reducible refine hc.mono ?_); rintro e w2 ⟨rfl, hb⟩; have hA2 : Acts (fun _ => False) W1 w2 := Acts.of_below hb; have hx2 := (hA2.same _ (blk_lt hx) (fun h => h)).trans hx; have y0 := (blk_cell hx2 0).trans rfl; have y1 := (blk_cell hx2 1).trans rfl; have y2 := (blk_cell hx2 2).trans rfl; have y3 := (blk_cell hx2 3).trans rfl)
  go_ret2
  have hA := hA1.trans hA2 (fun _ h => .inl h)
  refine ⟨w2.heap.size, rfl, hA.size, ⟨heap_alloc_new w2 (.cells ((initM F Fs R U).cells (.slice none 0 0) (.slice none 0 0)) 96), World.ownsRow_nil _ _ _ _, World.ownsRow_nil _ _ _ _⟩, hA.trans (Acts.alloc (fun _ => False) _ _) (fun _ h => .inl h)⟩
theorem bnew_calls (W : World) : Calls Tryd.prog 24 #[] W (fun e w' => ∃ S, e = .returned (.pointer (some ⟨S, 0, none⟩)) ∧ W.heap.size ≤ S ∧ SAt S ⟨0, false, false, false⟩ w' ∧ Acts (fun _ => False) W w') :=
  (PTopSticky.bom_New.calls 0 false false false W W (Below.refl _ _) rfl).mono fun _ _ ⟨S, h1, h2, _, h4⟩ => ⟨S, h1, h2.ge, h2.1, Acts.of_below h4⟩
def initR (de qu en F Fs R : Int) (U : Bool) : RS := ⟨de, qu, en, ⟨0, false, false, false⟩, initM F Fs R U, 0, 0, 0, 0, 0, false, [], 0⟩
set_option maxRecDepth 100000 in
set_option maxHeartbeats 8000000 in
theorem rnew_calls (de qu en F Fs Rl : Int) (U : Bool) (W : World) (hc : PTopSticky.dialect_Check.f de qu en = some 0) (hk : PTopSticky.dialect_CheckLimits.f F Fs Rl U = some 0) :
    Calls Tryd.prog 8 #[.agg #[.int .u8 de, .int .u8 qu, .int .i64 en], .agg #[.int .i64 F, .int .i64 Fs, .int .i64 Rl, .bool U]] W (fun e w' => ∃ x : RV, e = .returned (.tuple #[.pointer (some ⟨x.R, 0, none⟩), .int .i64 0]) ∧ RAt W.heap.size x (initR de qu en F Fs Rl U) w' ∧ Acts (fun _ => False) W w') := by
  obtain ⟨W1, hW1⟩ : ∃ W1, (W.alloc (.cells #[.int .u8 de, .int .u8 qu, .int .i64 en] 23)).alloc (.cells #[.int .i64 F, .int .i64 Fs, .int .i64 Rl, .bool U] 25) = W1 := ⟨_, rfl⟩
  have hA1 : Acts (fun _ => False) W W1 := by rw [← hW1]; exact (Acts.alloc (fun _ => False) _ _).trans (Acts.alloc (fun _ => False) _ _) (fun _ h => .inl h)
  have hx : W1.heap[W.heap.size]? = some (.cells #[.int .u8 de, .int .u8 qu, .int .i64 en] 23 (0, 0)) := by rw [← hW1]; exact blk_alloc (by simpa using heap_alloc_new W (.cells #[.int .u8 de, .int .u8 qu, .int .i64 en] 23)) _
  have hy : W1.heap[W.heap.size + 1]? = some (.cells #[.int .i64 F, .int .i64 Fs, .int .i64 Rl, .bool U] 25 (0, 0)) := by rw [← hW1]; simpa using heap_alloc_new (W.alloc (.cells #[.int .u8 de, .int .u8 qu, .int .i64 en] 23)) (.cells #[.int .i64 F, .int .i64 Fs, .int .i64 Rl, .bool U] 25)
  have x0 := (blk_cell hx 0).trans rfl
  have x1 := (blk_cell hx 1).trans rfl
  have x2 := (blk_cell hx 2).trans rfl
  have hcc := PTopSticky.dialect_Check.calls de qu en 0 W1 hc
  go_enter Tryd.func8, Tryd.ntmps8
  go_wp2_with (first
    | (go_at_call 22; ((with_reducible refine hcc.mono ?_); rintro e w2 ⟨rfl, hb⟩; have hA2 : Acts (fun _ => False) W1 w2 := Acts.of_below hb; have hy2 := (hA2.same _ (blk_lt hy) (fun h => h)).trans hy; have y0 := (blk_cell hy2 0).trans rfl; have y1 := (blk_cell hy2 1).trans rfl; have y2 := (blk_cell hy2 2).trans rfl; have y3 := (blk_cell hy2 3).trans rfl))
    | (go_at_call 23; ((with_reducible refine (fnew_calls F Fs Rl U _ hk).mono ?_); rintro e w3 ⟨B, rfl, hBn, hMB, hA3⟩; have hx3 := (hA3.same _ (by have := blk_lt hx; have := hA2.size; omega) (fun h => h)).trans ((hA2.same _ (blk_lt hx) (fun h => h)).trans hx))))
  refine start_ (n := 7) (S := fun w' => w'.heap[W.heap.size]? = some (.cells #[.int .u8 de, .int .u8 qu, .int .i64 en] 23 (0, 0))) (ds := []) #[false, false, false, false, false, false, false] (by kernel_rfl) rfl rfl (hx3) (fun hHeld => ?_)
  refine take_ (i := 0) (N := some 22) (v := ?_) (a' := ?_) #[true, false, false, false, false, false, false] rfl rfl (by kernel_rfl) (fun _ _ _ h => h) (Or.inl ⟨by rfl, ?_⟩) hHeld ?_ ?_
  rotate_left
  · intro w' s0
    have y0 := (blk_cell s0 0).trans rfl
    have y1 := (blk_cell s0 1).trans rfl
    have y2 := (blk_cell s0 2).trans rfl
    clear s0
    go_simp
    with_reducible rfl
  rotate_left
  · simp only [Act.put, List.setIfInBounds_toArray, List.set_cons_zero, List.set_cons_succ]
    rfl
  refine pure_ (i := 2) (N := some 24) (v := ?_) (a' := ?_) #[true, false, true, false, false, false, false] rfl rfl (by kernel_rfl) (fun _ _ _ h => h) (Or.inl ⟨by rfl, ?_⟩) ?_ ?_
  rotate_left
  · intro w'
    go_simp
    with_reducible rfl
  rotate_left
  · simp only [Act.put, List.setIfInBounds_toArray, List.set_cons_zero, List.set_cons_succ]
    rfl
  refine one_ (i := 1) (N := some 23) #[true, true, true, false, false, false, false] rfl rfl (by kernel_rfl) (by decide) (fun K hK => ?_)
  refine goes_ Tryd.func24 (by kernel_rfl) rfl #[] (by rfl) rfl rfl (by simp only [List.map_toArray, List.map_nil]) ?_
  with_reducible refine ((bnew_calls w3.drew)).mono ?_
  rintro e w4 ⟨S, rfl, hSn, hSA, hA4⟩
  refine ⟨_, rfl, ?_⟩
  refine hK.out _ _ ((hA4.same _ (blk_lt hx3) (fun h => h)).trans hx3) (fun hHeld => ?_)
  clear hK K
  refine norm_ (a' := ?_) ?_ ?_
  rotate_left
  · show Act.put _ (some 23) _ = _
    simp only [Act.put, List.setIfInBounds_toArray, List.set_cons_zero, List.set_cons_succ]
    rfl
  refine pure_ (i := 3) (N := some 25) (v := ?_) (a' := ?_) #[true, true, true, true, false, false, false] rfl rfl (by kernel_rfl) (fun _ _ _ h => h) (Or.inl ⟨by rfl, ?_⟩) ?_ ?_
  rotate_left
  · intro w'
    go_simp
    with_reducible rfl
  rotate_left
  · simp only [Act.put, List.setIfInBounds_toArray, List.set_cons_zero, List.set_cons_succ]
    rfl
  refine one_ (i := 4) (N := some 26) #[true, true, true, true, true, false, false] rfl rfl (by kernel_rfl) (by decide) (fun K hK => ?_)
  refine box_step ?hg (N := 26) ?hd (cs := #[.int .u8 de, .int .u8 qu, .int .i64 en, .pointer (some ⟨S, 0, none⟩), .pointer (some ⟨B, 0, none⟩), .int .i64 0, .int .i64 0, .int .i64 0, .int .i64 0, .int .i64 0, .bool false, .slice none 0 0, .int .i64 0]) (t := 69) ?hr ?_; (case hd => rfl); (case hg => rfl); (case hr => first | (go_simp; done) | (go_simp; rfl))
  intro R hg w5 hbox hb
  refine hK.out _ _ ((hb.block _ (blk_lt hHeld)).trans hHeld) (fun hHeld => ?_)
  clear hK K
  refine norm_ (a' := ?_) ?_ ?_
  rotate_left
  · show Act.put _ (some 26) _ = _
    simp only [Act.put, List.setIfInBounds_toArray, List.set_cons_zero, List.set_cons_succ]
    rfl
  refine pure_ (i := 5) (N := some 4) (v := ?_) (a' := ?_) #[true, true, true, true, true, true, false] rfl rfl (by kernel_rfl) (fun _ _ _ h => h) (Or.inl ⟨by rfl, ?_⟩) ?_ ?_
  rotate_left
  · intro w'
    go_simp
    with_reducible rfl
  rotate_left
  · simp only [Act.put, List.setIfInBounds_toArray, List.set_cons_zero, List.set_cons_succ]
    rfl
  refine pure_ (i := 6) (N := some 5) (v := ?_) (a' := ?_) #[true, true, true, true, true, true, true] rfl rfl (by kernel_rfl) (fun _ _ _ h => h) (Or.inl ⟨by rfl, ?_⟩) ?_ ?_
  rotate_left
  · intro w'
    go_simp
    with_reducible rfl
  rotate_left
  · simp only [Act.put, List.setIfInBounds_toArray, List.set_cons_zero, List.set_cons_succ]
    rfl
  refine done_ (by kernel_rfl) ?_
  clear hHeld
  subst hg
  go_wp2
  go_ret2
  have hM4 := hMB.acts ((Acts.drew (fun _ => False) w3).trans hA4 (fun _ h => .inl h)) (fun _ _ h => h)
  have hA5 : Acts (fun _ => False) w4 w5 := Acts.of_below hb
  have hM5 := hM4.acts hA5 (fun _ _ h => h)
  have hS5 := hSA.keep (hA5.same S hSA.lt (fun h => h))
  have hAW3 := (hA1.trans hA2 (fun _ h => .inl h)).trans hA3 (fun _ h => .inl h)
  have hAW := ((hAW3.trans (Acts.drew (fun _ => False) w3) (fun _ h => .inl h)).trans hA4 (fun _ h => .inl h)).trans hA5 (fun _ h => .inl h)
  refine ⟨⟨w4.heap.size, S, B, .slice none 0 0, .slice none 0 0, .slice none 0 0⟩, rfl, ⟨hbox, hM5, hS5, ⟨[], World.ownsRow_nil _ _ _ _, rfl, fun i v l hi => by simp at hi⟩, fun k hk => ?_⟩, hAW⟩
  have s1 := hAW3.size
  have s2 := (hA1.trans hA2 (fun _ h => .inl h)).size
  have s3 : w3.heap.size ≤ w4.heap.size := hA4.size
  have s4 : w3.heap.size ≤ S := hSn
  rcases hk with rfl | rfl | (rfl | hk | hk) | hk
  · show W.heap.size ≤ w4.heap.size; omega
  · omega
  · omega
  · cases hk
  · cases hk
  · cases hk
end Go.Proofs.YtmignbhpofmgeaaDoor.Top
namespace Go.Proofs.YtmignbhpofmgeaaDoor.Top
open Go.RowKit Go.Proofs.YtmignbhpofmgeaaDoorW.PrintWords Go.Proofs.YtmignbhpofmgeaaDoorW.PrintLast Go.Proofs.YtmignbhpofmgeaaDoorW.PrintMore Go.Proofs.YtmignbhpofmgeaaDoor.Iter
set_option linter.unusedVariables false
set_option linter.unusedSimpArgs false
/-- A Maker at B, and the records that were handed out, in the variable at O. -/
structure WAt (O B : Nat) (m : MS) (ls : List (List ByteArray)) (fv rv qv : Value) (W : World) : Prop where
  mak : MkAt B m fv rv W
  out : W.heap[O]? = some (.cells #[qv] 44 (0, 0))
  que : ∃ rows, W.ownsRow 0 61 1 qv ls.length rows ∧ RowsAt rv W rows ls
def WC (O B : Nat) (fv rv qv : Value) (k : Nat) : Prop := k = O ∨ MC B fv rv k ∨ qv.ownBlock = some k
structure WGo (O B : Nat) (fv rv qv : Value) (W : World) (m' : MS) (ls' : List (List ByteArray)) (fv' rv' qv' : Value) (W' : World) : Prop where
  it : WAt O B m' ls' fv' rv' qv' W'
  acts : Acts (WC O B fv rv qv) W W'
  fnew : NewOr W fv fv'
  rnew : NewOr W rv rv'
  qnew : NewOr W qv qv'
theorem WGo.refl {O B : Nat} {m : MS} {ls : List (List ByteArray)} {fv rv qv : Value} {W : World} (h : WAt O B m ls fv rv qv W) : WGo O B fv rv qv W m ls fv rv qv W := ⟨h, Acts.refl _ _, NewOr.refl _ _, NewOr.refl _ _, NewOr.refl _ _⟩
theorem WGo.trans {O B : Nat} {m1 m2 : MS} {l1 l2 : List (List ByteArray)} {fv rv qv f1 r1 q1 f2 r2 q2 : Value} {W W1 W2 : World} (h : WGo O B fv rv qv W m1 l1 f1 r1 q1 W1) (k : WGo O B f1 r1 q1 W1 m2 l2 f2 r2 q2 W2) : WGo O B fv rv qv W m2 l2 f2 r2 q2 W2 :=
  ⟨k.it, h.acts.trans k.acts (fun j hj => by
    rcases hj with rfl | (rfl | hj | hj) | hj
    · exact .inl (.inl rfl)
    · exact .inl (.inr (.inl (.inl rfl)))
    · exact (h.fnew j hj).elim (fun e => .inl (.inr (.inl (.inr (.inl e))))) .inr
    · exact (h.rnew j hj).elim (fun e => .inl (.inr (.inl (.inr (.inr e))))) .inr
    · exact (h.qnew j hj).elim (fun e => .inl (.inr (.inr e))) .inr), h.fnew.trans k.fnew h.acts.size, h.rnew.trans k.rnew h.acts.size, h.qnew.trans k.qnew h.acts.size⟩
theorem WAt.lt {O B : Nat} {m : MS} {ls : List (List ByteArray)} {fv rv qv : Value} {W : World} (h : WAt O B m ls fv rv qv W) : O < W.heap.size := blk_lt h.out
theorem WAt.row_free {O B : Nat} {m : MS} {ls : List (List ByteArray)} {fv rv qv : Value} {W : World} (h : WAt O B m ls fv rv qv W) {v : Value} {n : Nat} {ys : List Value} (hv : W.ownsRow 0 9 1 v n ys) (ha : ∀ k, v.ownBlock = some k → rv.ownBlock ≠ some k) (k : Nat) (hk : v.ownBlock = some k) : ¬ WC O B fv rv qv k := by
  obtain ⟨rows, hq, _⟩ := h.que
  rintro (rfl | (rfl | h1 | h1) | h1)
  · exact row_ne hv h.out (by decide) hk
  · exact row_ne hv h.mak.obj (by decide) hk
  · exact rows_apart hv h.mak.frow (by decide) k hk h1
  · exact ha k hk h1
  · exact rows_apart hv hq (by decide) k hk h1
theorem WAt.rows_keep {O B : Nat} {m : MS} {ls : List (List ByteArray)} {fv rv qv : Value} {W W' : World} (h : WAt O B m ls fv rv qv W) (ha : Acts (WC O B fv rv qv) W W') {rv' : Value} (hn : NewOr W rv rv') {rows : List Value} {rs : List (List ByteArray)} (hr : RowsAt rv W rows rs) : RowsAt rv' W' rows rs :=
  ⟨hr.1, fun i v l hi hl => by
    obtain ⟨h1, h2⟩ := hr.2 i v l hi hl
    exact ⟨owns_keep h1 (fun k hk => ha.same k (row_lt h1 k hk) (h.row_free h1 h2 k hk)), fun k hk hk' => (hn k hk').elim (h2 k hk) (fun hl => by have := row_lt h1 k hk; omega)⟩⟩
theorem WAt.acts {O B : Nat} {m : MS} {ls : List (List ByteArray)} {fv rv qv : Value} {W W' : World} (h : WAt O B m ls fv rv qv W) (ha : Acts (fun _ => False) W W') : WAt O B m ls fv rv qv W' := by
  obtain ⟨rows, hq, hr⟩ := h.que
  have hk : ∀ k, k < W.heap.size → W'.heap[k]? = W.heap[k]? := fun k hk => ha.same k hk (fun h => h)
  exact ⟨h.mak.acts ha (fun _ _ h => h), (hk _ h.lt).trans h.out, ⟨rows, owns_keep hq (fun k e => hk k (row_lt hq k e)), h.rows_keep (ha.weaken (fun _ _ h => h.elim)) (NewOr.refl _ _) hr⟩⟩
theorem WGo.more {O B : Nat} {m1 : MS} {l1 : List (List ByteArray)} {fv rv qv f1 r1 q1 : Value} {W W1 W2 : World} (h : WGo O B fv rv qv W m1 l1 f1 r1 q1 W1) (ha : Acts (fun _ => False) W1 W2) : WGo O B fv rv qv W m1 l1 f1 r1 q1 W2 :=
  ⟨h.it.acts ha, h.acts.trans ha (fun _ h => h.elim), h.fnew, h.rnew, h.qnew⟩
/-- The Maker has gone on. -/
theorem WAt.maker {O B : Nat} {m : MS} {ls : List (List ByteArray)} {fv rv qv : Value} {W W' : World} (h : WAt O B m ls fv rv qv W) {m' : MS} {fv' rv' : Value} (hg : MGo B fv rv W m' fv' rv' W') : WGo O B fv rv qv W m' ls fv' rv' qv W' := by
  obtain ⟨rows, hq, hr⟩ := h.que
  have ha : Acts (WC O B fv rv qv) W W' := hg.acts.weaken (fun k _ e => .inr (.inl e))
  have hO : ¬ MC B fv rv O := fun e => e.elim (fun e => blk_ne h.out h.mak.obj (by decide) e) (fun e => e.elim (row_ne h.mak.frow h.out (by decide)) (row_ne h.mak.rrow h.out (by decide)))
  have hQ : ∀ k, qv.ownBlock = some k → ¬ MC B fv rv k := fun k hk e => e.elim (fun e => row_ne hq h.mak.obj (by decide) (e ▸ hk)) (fun e => e.elim (rows_apart hq h.mak.frow (by decide) k hk) (rows_apart hq h.mak.rrow (by decide) k hk))
  exact ⟨⟨hg.it, (hg.acts.same _ h.lt hO).trans h.out, ⟨rows, owns_keep hq (fun k e => hg.acts.same k (row_lt hq k e) (hQ k e)), h.rows_keep ha hg.rnew hr⟩⟩, ha, hg.fnew, hg.rnew, NewOr.refl _ _⟩
theorem WAt.push {O B : Nat} {m : MS} {ls : List (List ByteArray)} {fv rv qv : Value} {W W2 : World} {o : Obj} (h : WAt O B m ls fv rv qv W) {qv' out : Value} {l : List ByteArray} {rows : List Value} (hq : W.ownsRow 0 61 1 qv ls.length rows) (hr : RowsAt rv W rows ls)
    (hown : W2.ownsRow 0 61 1 qv' (ls.length + 1) (rows ++ [out])) (hg : (W.alloc o).grownBy W2 qv.ownBlock)
    (hat : qv'.ownBlock = qv.ownBlock ∨ qv'.ownBlock = some (W.alloc o).heap.size) (hl : W.ownsRow 0 9 1 out l.length (l.map Value.string)) (hf : ∀ k, out.ownBlock = some k → rv.ownBlock ≠ some k) :
    WGo O B fv rv qv W m (ls ++ [l]) fv rv qv' (W2.setCell ⟨O, 0, none⟩ qv') := by
  have hA := grown_acts hg
  have nq : qv.ownBlock ≠ some O := row_ne hq h.out (by decide)
  have hO2 : W2.heap[O]? = some (.cells #[qv] 44 (0, 0)) := (hA.same O h.lt nq).trans h.out
  have m1 : qv'.ownBlock ≠ some O := row_ne hown hO2 (by decide)
  have hA2 : Acts (WC O B fv rv qv) W (W2.setCell ⟨O, 0, none⟩ qv') := (hA.weaken (fun k _ e => .inr (.inr e))).trans (acts_set (B := O) _ 0 qv') (fun j hj => .inl (.inl hj))
  have hk : ∀ k, k < W.heap.size → k ≠ O → qv.ownBlock ≠ some k → (W2.setCell ⟨O, 0, none⟩ qv').heap[k]? = W.heap[k]? := fun k h1 h2 h3 => (Below.heap_setCell W2 _ _ k h2).trans (hA.same k h1 h3)
  refine ⟨⟨?_, ?_, ⟨rows ++ [out], ?_, ?_, ?_⟩⟩, hA2, NewOr.refl _ _, NewOr.refl _ _, at_new hat⟩
  · refine h.mak.keep (fun k hk' => ?_)
    rcases hk' with rfl | e | e
    · exact hk _ h.mak.lt (blk_ne h.mak.obj h.out (by decide)) (row_ne hq h.mak.obj (by decide))
    · exact hk k (row_lt h.mak.frow k e) (fun e' => row_ne h.mak.frow h.out (by decide) (e' ▸ e)) (rows_apart h.mak.frow hq (by decide) k e)
    · exact hk k (row_lt h.mak.rrow k e) (fun e' => row_ne h.mak.rrow h.out (by decide) (e' ▸ e)) (rows_apart h.mak.rrow hq (by decide) k e)
  · rw [blk_set hO2]; rfl
  · have : W2.ownsRow 0 61 1 qv' (ls ++ [l]).length (rows ++ [out]) := by simpa using hown
    exact owns_keep this (fun k e => Below.heap_setCell W2 _ _ k (fun e' => m1 (by rw [e]; exact congrArg some e')))
  · simp [hr.1]
  · intro i v l' hi hl'
    by_cases hlt : i < rows.length
    · rw [List.getElem?_append_left hlt] at hi
      rw [List.getElem?_append_left (by rw [← hr.1]; exact hlt)] at hl'
      exact (h.rows_keep hA2 (NewOr.refl _ _) hr).2 i v l' hi hl'
    · have hi2 : i = rows.length := by
        have := (List.getElem?_eq_some_iff.1 hi).1; simp at this; omega
      subst hi2
      rw [List.getElem?_append_right (Nat.le_refl _)] at hi
      rw [List.getElem?_append_right (by rw [hr.1]; exact Nat.le_refl _)] at hl'
      simp at hi
      simp [hr.1] at hl'
      subst hi hl'
      exact ⟨owns_keep hl (fun k e => hA2.same k (row_lt hl k e) (h.row_free hl hf k e)), hf⟩
set_option maxRecDepth 100000 in
set_option maxHeartbeats 2000000 in
theorem yield_calls (O B : Nat) (m : MS) (ls : List (List ByteArray)) (fv rv qv : Value) (l : List ByteArray) (oa : Option Addr) (oc : Nat) (W : World) (h : WAt O B m ls fv rv qv W) (hb : ls.length + 1 ≤ 2147483648) (hl : W.ownsRow 0 9 1 (.slice oa l.length oc) l.length (l.map Value.string)) (hf : ∀ k, (Value.slice oa l.length oc).ownBlock = some k → rv.ownBlock ≠ some k) :
    Calls Tryd.prog 39 #[.slice oa l.length oc, .pointer (some ⟨O, 0, none⟩)] W (fun e w' => e = .returned (.bool true) ∧ ∃ qv', WGo O B fv rv qv W m (ls ++ [l]) fv rv qv' w') := by
  obtain ⟨rows, hq, hr⟩ := h.que
  obtain ⟨qa, qc, rfl⟩ := slice_len hq
  obtain ⟨i0, hi, hz0, hz1, hz2⟩ := info_parts elem61
  have c0 := (blk_cell h.out 0).trans rfl
  go_enter Tryd.func39, Tryd.ntmps39
  go_wp2_with (at_builtin; refine wpList_append_own_at _ rfl _ _ 44 rfl 0 61 i0 (.slice none 0 0) 1 24 Tryd.underlying44 hi hz0 hz1 hz2 rfl (by decide) _ ls.length _ rfl (World.ownsRow.alloc hq _) ⟨W.heap.size, 0, none⟩ 1 1 [.slice oa l.length oc] rfl rfl (cell_one_new W _ _) (by simp [Value.oneCell']) (by simp [maxLen]; omega) (by omega) (by simp) ?_; intro v' w3 hown hgrow hnil hat; obtain ⟨g, cap, rfl⟩ := ownsRow_succ hown; have hO3 := ((grown_acts hgrow).same O h.lt (row_ne hq h.out (by decide))).trans h.out; have c1 := (blk_cell hO3 0).trans rfl; have f1 := blk_frozen hO3 0)
  go_ret
  exact ⟨rfl, _, h.push hq hr hown hgrow hat hl hf⟩
theorem WAt.after {O B : Nat} {m : MS} {ls : List (List ByteArray)} {fv rv qv : Value} {W W' : World} (h : WAt O B m ls fv rv qv W) (ha : Acts (MC B fv rv) W W') : W'.heap[O]? = some (.cells #[qv] 44 (0, 0)) ∧ ∃ rows, W'.ownsRow 0 61 1 qv ls.length rows ∧ RowsAt rv W' rows ls := by
  obtain ⟨rows, hq, hr⟩ := h.que
  have ha2 : Acts (WC O B fv rv qv) W W' := ha.weaken (fun k _ e => .inr (.inl e))
  have hO : ¬ MC B fv rv O := fun e => e.elim (fun e => blk_ne h.out h.mak.obj (by decide) e) (fun e => e.elim (row_ne h.mak.frow h.out (by decide)) (row_ne h.mak.rrow h.out (by decide)))
  have hQ : ∀ k, qv.ownBlock = some k → ¬ MC B fv rv k := fun k hk e => e.elim (fun e => row_ne hq h.mak.obj (by decide) (e ▸ hk)) (fun e => e.elim (rows_apart hq h.mak.frow (by decide) k hk) (rows_apart hq h.mak.rrow (by decide) k hk))
  exact ⟨(ha.same _ h.lt hO).trans h.out, rows, owns_keep hq (fun k e => ha.same k (row_lt hq k e) (hQ k e)), h.rows_keep ha2 (NewOr.refl _ _) hr⟩
theorem rows_far {rv : Value} {W W' : World} {rows : List Value} {rs : List (List ByteArray)} {L : Nat} {cs : Array Value} (hr : RowsAt rv W rows rs) (hL : W.heap[L]? = some (.cells cs 35 (0, 0))) (ha : Acts (fun k => k = L) W W') : RowsAt rv W' rows rs :=
  ⟨hr.1, fun i v l hi hl => by
    obtain ⟨h1, h2⟩ := hr.2 i v l hi hl
    exact ⟨owns_keep h1 (fun k e => ha.same k (row_lt h1 k e) (fun e' => row_ne h1 hL (by decide) (e' ▸ e))), h2⟩⟩
theorem load35 (w : World) (g : Nat) (a b : Value) (hg : w.heap[g]? = some (.cells #[a, b] 35 (0, 0))) : (loadVar 35 ⟨g, 0, none⟩).run Tryd.prog w = .ok (.agg #[a, b]) w := run_loadVar_row w g 35 35 #[a, b] (0, 0) _ hg Tryd.underlying35 rfl (by kernel_rfl)
theorem results_cell_tmp35 {fn : Func} {p u : Tmp} (h : fn.results = #[.cell p 35, .tmp u]) (tmps : Array Value) (w : World) (g : Nat) (a b : Value)
    (hp : tmps.getD p undef = .pointer (some ⟨g, 0, none⟩)) (hg : w.heap[g]? = some (.cells #[a, b] 35 (0, 0))) :
    (results fn tmps).run Tryd.prog w = .ok (.tuple #[.agg #[a, b], tmps.getD u undef]) w := by
  have hp' : tmps[p]?.getD undef = .pointer (some ⟨g, 0, none⟩) := by simpa using hp
  simp [results, h, hp', asAddr, load35 w g a b hg]
theorem results_tmp_cell35 {fn : Func} {p u : Tmp} (h : fn.results = #[.tmp u, .cell p 35]) (tmps : Array Value) (w : World) (g : Nat) (a b : Value)
    (hp : tmps.getD p undef = .pointer (some ⟨g, 0, none⟩)) (hg : w.heap[g]? = some (.cells #[a, b] 35 (0, 0))) :
    (results fn tmps).run Tryd.prog w = .ok (.tuple #[tmps.getD u undef, .agg #[a, b]]) w := by
  have hp' : tmps[p]?.getD undef = .pointer (some ⟨g, 0, none⟩) := by simpa using hp
  simp [results, h, hp', asAddr, load35 w g a b hg]
set_option maxRecDepth 100000 in
set_option maxHeartbeats 4000000 in
theorem end_calls (B : Nat) (m : MS) (fv rv : Value) (at_ : Int) (fn : Value) (W : World) (h : MkAt B m fv rv W) (hF : m.F ≤ 2147483648) (hn : m.record.length + 1 ≤ 2147483648) (hst : m.stopped = 0) :
    Calls Tryd.prog 50 #[.pointer (some ⟨B, 0, none⟩), .int .i64 0, .int .i64 0, .int .i64 at_, fn] W (fun e w' => e = .returned (.tuple #[.agg #[.int .i64 0, .int .i64 0], .bool true]) ∧ Acts (MC B fv rv) W w') := by
  obtain ⟨W1, hW1⟩ : ∃ W1, W.alloc (.cells #[.int .i64 0, .int .i64 0] 35) = W1 := ⟨_, rfl⟩
  have hx : W1.heap[W.heap.size]? = some (.cells #[.int .i64 0, .int .i64 0] 35 (0, 0)) := by rw [← hW1]; simpa using heap_alloc_new W (.cells #[.int .i64 0, .int .i64 0] 35)
  have hA1 : Acts (fun _ => False) W W1 := by rw [← hW1]; exact Acts.alloc _ _ _
  have h1 := h.acts hA1 (fun _ _ h => h)
  have hT : takeM m ⟨false, false, false, false, false, 0⟩ = ({ m with stopped := 0 }, [], false, 0) := by simp [takeM, take1, gatherM, gather3, gather2, gather1, hst]
  have hsc := fun w => sclose_calls 0 w
  have hS : closeSc 0 = (⟨false, false, false, false, false, 0⟩, 0) := rfl
  rw [hS] at hsc
  dsimp only [Ev.cells] at hsc
  have hnM : ¬ MC B fv rv W.heap.size := fun e => by
    rcases e with e | e | e
    · have := h.lt; omega
    · have := row_lt h.frow _ e; omega
    · have := row_lt h.rrow _ e; omega
  go_enter Tryd.func50, Tryd.ntmps50
  go_wp2_with (first
    | (go_at_call 30; (with_reducible refine (hsc _).mono ?_); rintro e w2 ⟨rfl, hA2⟩; have hA3 := hA2.trans (Acts.alloc (fun _ => False) w2 (.cells #[.bool false, .bool false, .bool false, .bool false, .bool false, .int .u8 0] 77)) (fun _ h => .inl h); have htk := take_calls B m ⟨false, false, false, false, false, 0⟩ fv rv _ (h1.acts hA3 (fun _ _ h => h)) hF hn; unfold TkTo at htk; rw [hT] at htk; dsimp only [Ev.cells] at htk)
    | (go_at_call 44; (with_reducible refine htk.mono ?_); rintro e w4 ⟨out, fv', rv', rfl, hg, hout, _, _⟩; clear htk; have hA5 : Acts (MC B fv rv) W1 w4 := (hA3.weaken (fun _ _ h => h.elim)).trans hg.acts (fun _ h => .inl h); have hx4 := (hA5.same _ (blk_lt hx) hnM).trans hx; have l0 := (blk_cell hx4 0).trans rfl; have l1 := (blk_cell hx4 1).trans rfl; have k0 := blk_frozen hx4 0; have k1 := blk_frozen hx4 1))
  refine bodyPost_ret (results_cell_tmp35 rfl _ _ W.heap.size (.int .i64 0) (.int .i64 0) rfl (flt_stored hx4 _ _)) rfl ?_
  exact ⟨rfl, ((hA1.weaken (fun _ _ h => h.elim)).trans hA5 (fun _ h => .inl h)).trans (flt_acts _ _ _ _) (fun j e => .inr (by omega))⟩
def txt : List Int := [97, 44, 34, 98, 34, 10]
/-- Where the walk stands behind so many bytes. -/
def stA : Nat → Int × MS × List (List ByteArray)
  | 0 => (0, initM 9 9 9 false, [])
  | i + 1 => ((scanS 44 34 1 (stA i).1 (txt.getD i 0)).2.1, (takeM (stA i).2.1 (scanS 44 34 1 (stA i).1 (txt.getD i 0)).1).1,
      if (takeM (stA i).2.1 (scanS 44 34 1 (stA i).1 (txt.getD i 0)).1).2.2.1 = true then (stA i).2.2 ++ [(takeM (stA i).2.1 (scanS 44 34 1 (stA i).1 (txt.getD i 0)).1).2.1] else (stA i).2.2)
theorem tab_utf : ∀ i, i < 6 → stepU 0 (txt.getD i 0) = (0, true) := by decide
theorem tab_scan (i : Nat) (h : i < 6) : (scanS 44 34 1 (stA i).1 (txt.getD i 0)).2.2 = 0 := by
  rcases i with _ | _ | _ | _ | _ | _ | i <;> first | omega | kernel_rfl
theorem tab_take (i : Nat) (h : i < 6) : (takeM (stA i).2.1 (scanS 44 34 1 (stA i).1 (txt.getD i 0)).1).2.2.2 = 0 := by
  rcases i with _ | _ | _ | _ | _ | _ | i <;> first | omega | kernel_rfl
theorem tab_small (i : Nat) (h : i ≤ 6) : (stA i).2.1.F = 9 ∧ Nat.ble (stA i).2.1.record.length 10 = true ∧ Nat.ble (stA i).2.2.length 10 = true := by
  rcases i with _ | _ | _ | _ | _ | _ | _ | i <;> first | omega | (refine ⟨?_, ?_, ?_⟩ <;> kernel_rfl)
theorem tab_end : (stA 6).1 = 0 ∧ (stA 6).2.1.stopped = 0 ∧ (stA 6).2.2.map (List.map (fun b => b.data.toList)) = [[[97], [98]]] := by
  refine ⟨?_, ?_, ?_⟩ <;> kernel_rfl
theorem tab_at (i : Nat) (h : i < 6) (w : World) : (Instr.index 9 (.string ⟨#[97, 44, 34, 98, 34, 10]⟩) (.int .i64 i)).run Tryd.prog w = .ok (.int .u8 (txt.getD i 0)) w := by
  rw [run_index_string (P := Tryd.prog) w 9 _ .i64 i (by kernel_rfl)]
  rcases i with _ | _ | _ | _ | _ | _ | i <;> first | omega | rfl
set_option maxRecDepth 100000 in
set_option maxHeartbeats 8000000 in
theorem wwalk_calls (n0 O : Nat) (W : World) (hU : Utf n0 W) (hO : W.heap[O]? = some (.cells #[.slice none 0 0] 44 (0, 0))) (hOn : n0 ≤ O) :
    Calls Tryd.prog 38 #[.agg #[.int .u8 44, .int .u8 34, .int .i64 1], .agg #[.int .i64 9, .int .i64 9, .int .i64 9, .bool false], .string ⟨#[97, 44, 34, 98, 34, 10]⟩, .func (.func 39) #[] #[.pointer (some ⟨O, 0, none⟩)]] W
      (fun e w' => e = .returned (.tuple #[.agg #[.int .i64 0, .int .i64 0], .bool true]) ∧ (∃ rv qv rows, w'.heap[O]? = some (.cells #[qv] 44 (0, 0)) ∧ w'.ownsRow 0 61 1 qv (stA 6).2.2.length rows ∧ RowsAt rv w' rows (stA 6).2.2) ∧ Acts (fun k => k = O) W w') := by
  obtain ⟨W1, hW1⟩ : ∃ W1, ((W.alloc (.cells #[.int .u8 44, .int .u8 34, .int .i64 1] 23)).alloc (.cells #[.int .i64 9, .int .i64 9, .int .i64 9, .bool false] 25)).alloc (.cells #[.int .i64 0, .int .i64 0] 35) = W1 := ⟨_, rfl⟩
  have hA1 : Acts (fun _ => False) W W1 := by rw [← hW1]; exact ((Acts.alloc (fun _ => False) _ _).trans (Acts.alloc (fun _ => False) _ _) (fun _ h => .inl h)).trans (Acts.alloc (fun _ => False) _ _) (fun _ h => .inl h)
  have hx : W1.heap[W.heap.size]? = some (.cells #[.int .u8 44, .int .u8 34, .int .i64 1] 23 (0, 0)) := by rw [← hW1]; exact blk_alloc (blk_alloc (by simpa using heap_alloc_new W (.cells #[.int .u8 44, .int .u8 34, .int .i64 1] 23)) _) _
  have hy : W1.heap[W.heap.size + 1]? = some (.cells #[.int .i64 9, .int .i64 9, .int .i64 9, .bool false] 25 (0, 0)) := by rw [← hW1]; exact blk_alloc (by simpa using heap_alloc_new (W.alloc (.cells #[.int .u8 44, .int .u8 34, .int .i64 1] 23)) (.cells #[.int .i64 9, .int .i64 9, .int .i64 9, .bool false] 25)) _
  have hz : W1.heap[W.heap.size + 2]? = some (.cells #[.int .i64 0, .int .i64 0] 35 (0, 0)) := by rw [← hW1]; simpa using heap_alloc_new ((W.alloc (.cells #[.int .u8 44, .int .u8 34, .int .i64 1] 23)).alloc (.cells #[.int .i64 9, .int .i64 9, .int .i64 9, .bool false] 25)) (.cells #[.int .i64 0, .int .i64 0] 35)
  have x0 := (blk_cell hx 0).trans rfl
  have x1 := (blk_cell hx 1).trans rfl
  have x2 := (blk_cell hx 2).trans rfl
  have hOl := blk_lt hO
  have hcc := PTopSticky.dialect_Check.calls 44 34 1 0 W1 (by kernel_rfl)
  go_enter Tryd.func38, Tryd.ntmps38
  go_wp2
  refine wp_scope_straight ?_
  go_wp2_with (first
    | (go_at_call 22; ((with_reducible refine hcc.mono ?_); rintro e w2 ⟨rfl, hb⟩; have hA2 : Acts (fun _ => False) W1 w2 := Acts.of_below hb; clear hb; have hy2 := (hA2.same _ (blk_lt hy) (fun h => h)).trans hy; have y0 := (blk_cell hy2 0).trans rfl; have y1 := (blk_cell hy2 1).trans rfl; have y2 := (blk_cell hy2 2).trans rfl; have y3 := (blk_cell hy2 3).trans rfl))
    | (go_at_call 23; ((with_reducible refine (fnew_calls 9 9 9 false _ (by kernel_rfl)).mono ?_); rintro e w3 ⟨B, rfl, hBn, hMB, hA3⟩))
    | (go_at_call 49; ((with_reducible refine (PTopSticky.bom_Strip.calls _ ⟨#[97, 44, 34, 98, 34, 10]⟩ false _ (by kernel_rfl)).mono ?_); rintro e w4 ⟨rfl, hdr⟩)))
  refine wp_label ?_
  obtain ⟨nd, rfl⟩ := hdr.out
  have hA4 : Acts (fun _ => False) w3 (w3.drewN nd) := Acts.drewN _ _ _
  have hA14 := (hA2.trans hA3 (fun _ h => .inl h)).trans hA4 (fun _ h => .inl h)
  have hA04 := hA1.trans hA14 (fun _ h => .inl h)
  obtain ⟨w4, hw4⟩ : ∃ w4, w3.drewN nd = w4 := ⟨_, rfl⟩
  rw [hw4] at hA4 hA14 hA04 ⊢
  have hW0 : WAt O B (initM 9 9 9 false) [] (.slice none 0 0) (.slice none 0 0) (.slice none 0 0) w4 := ⟨hMB.acts hA4 (fun _ _ h => h), (hA04.same _ hOl (fun h => h)).trans hO, ⟨[], World.ownsRow_nil _ _ _ _, rfl, fun i v l hi => by simp at hi⟩⟩
  have HG0 : Hid (WGo O B (.slice none 0 0) (.slice none 0 0) (.slice none 0 0) w4 (stA 0).2.1 (stA 0).2.2 (.slice none 0 0) (.slice none 0 0) (.slice none 0 0) w4) := WGo.refl hW0
  have hxD := (hA14.same _ (blk_lt hx) (fun h => h)).trans hx
  have hzL := (hA14.same _ (blk_lt hz) (fun h => h)).trans hz
  have hBs : W.heap.size + 2 < B := by have := blk_lt hz; have := hA2.size; omega
  have hnD : ¬ WC O B (.slice none 0 0) (.slice none 0 0) (.slice none 0 0) W.heap.size := by
    rintro (e | (e | e | e) | e)
    · omega
    · omega
    · cases e
    · cases e
    · cases e
  have hnL : ¬ WC O B (.slice none 0 0) (.slice none 0 0) (.slice none 0 0) (W.heap.size + 2) := by
    rintro (e | (e | e | e) | e)
    · omega
    · omega
    · cases e
    · cases e
    · cases e
  have hUw : Utf n0 w4 := hU.acts hA04 (fun _ h => h.elim)
  have hUn : ∀ k, WC O B (.slice none 0 0) (.slice none 0 0) (.slice none 0 0) k → n0 ≤ k := by
    rintro k (rfl | (rfl | e | e) | e)
    · exact hOn
    · have := hU.1; omega
    · cases e
    · cases e
    · cases e
  have HU : Hid (Utf n0 w4) := hUw
  have HUn : Hid (∀ k, WC O B (.slice none 0 0) (.slice none 0 0) (.slice none 0 0) k → n0 ≤ k) := hUn
  have HD : Hid (w4.heap[W.heap.size]? = some (.cells #[.int .u8 44, .int .u8 34, .int .i64 1] 23 (0, 0))) := hxD
  have HL : Hid (w4.heap[W.heap.size + 2]? = some (.cells #[.int .i64 0, .int .i64 0] 35 (0, 0))) := hzL
  have HA04 : Hid (Acts (fun _ => False) W w4) := hA04
  clear hU hO hA1 hx hy hz x0 x1 x2 hcc hA2 hA3 hA4 hA14 hA04 hy2 y0 y1 y2 y3 hMB hw4 hW0 hxD hzL hUw hUn hdr
  go_wp2
  go_loopw [52, 16, 17] (fun y u s wl => ∃ (i : Nat) (fv rv qv : Value), i ≤ 6 ∧ y = .int .i64 i ∧ u = .int .i64 0 ∧ s = .int .i64 (stA i).1 ∧ Hid (WGo O B (.slice none 0 0) (.slice none 0 0) (.slice none 0 0) w4 (stA i).2.1 (stA i).2.2 fv rv qv wl)) (fun y _ _ _ => 6 - (intOf y).toNat)
  case atStart => exact ⟨0, _, _, _, Nat.zero_le _, rfl, rfl, rfl, HG0⟩
  case round =>
    obtain ⟨i, fv, rv, qv, hi, rfl, rfl, rfl, HG⟩ := hrel
    by_cases hlt0 : i < 6
    · obtain ⟨c, hc⟩ : ∃ c, txt.getD i 0 = c := ⟨_, rfl⟩
      obtain ⟨st, m, ls, hA⟩ : ∃ st m ls, stA i = (st, m, ls) := ⟨_, _, _, rfl⟩
      have t1 := tab_utf i hlt0
      have t2 := tab_scan i hlt0
      have t3 := tab_take i hlt0
      have t4 := tab_small i hi
      have hidx := tab_at i hlt0
      rw [hA, hc] at t2 t3
      rw [hc] at t1 hidx
      rw [hA] at t4 HG ⊢
      dsimp only at t2 t3 t4 HG ⊢
      obtain ⟨e0, e1, e2, e3, e4, e5, nx, f, hS⟩ : ∃ e0 e1 e2 e3 e4 e5 nx f, scanS 44 34 1 st c = (⟨e0, e1, e2, e3, e4, e5⟩, nx, f) := ⟨_, _, _, _, _, _, _, _, rfl⟩
      rw [hS] at t2 t3
      dsimp only at t2 t3
      subst t2
      obtain ⟨m', l, ok, k, hT⟩ : ∃ m' l ok k, takeM m ⟨e0, e1, e2, e3, e4, e5⟩ = (m', l, ok, k) := ⟨_, _, _, _, rfl⟩
      rw [hT] at t3
      dsimp only at t3
      subst t3
      have hst : stA (i + 1) = (nx, m', if ok = true then ls ++ [l] else ls) := by
        rw [stA, hA, hc]
        dsimp only
        rw [hS]
        dsimp only
        rw [hT]
      have HT : Hid (takeM m ⟨e0, e1, e2, e3, e4, e5⟩ = (m', l, ok, 0)) := hT
      have HSt : Hid (stA (i + 1) = (nx, m', if ok = true then ls ++ [l] else ls)) := hst
      have hsc := fun w => scan_calls 44 34 1 st c w
      rw [hS] at hsc
      dsimp only [Ev.cells] at hsc
      have hg0 := HG.out
      have hstep := step_calls n0 0 c wr (HU.out.acts hg0.acts HUn.out) (by decide)
      rw [t1, show ((0 : Nat) : Int) = 0 from rfl] at hstep
      dsimp only at hstep
      have hxw := (hg0.acts.same _ (blk_lt HD.out) hnD).trans HD.out
      obtain ⟨t5, t6, t7⟩ := t4
      have t6' := Nat.le_of_ble_eq_true t6
      have t7' := Nat.le_of_ble_eq_true t7
      clear hg0 hS hT hst hA t1 t6 t7 hc
      go_wp2_with (go_at_call 25; ((with_reducible refine hstep.mono ?_); rintro e w1 ⟨rfl, hA25⟩; have hxr := (hA25.same _ (blk_lt hxw) (fun h => h)).trans hxw))
      refine start_ (n := 14) (S := fun w' => w'.heap[W.heap.size]? = some (.cells #[.int .u8 44, .int .u8 34, .int .i64 1] 23 (0, 0))) (ds := [11]) #[false, false, false, false, false, false, false, false, false, false, false, false, false, false] (by kernel_rfl) rfl rfl hxr (fun hHeld => ?_)
      refine take_ (i := 0) (N := some 72) (v := ?_) (a' := ?_) #[true, false, false, false, false, false, false, false, false, false, false, false, false, false] rfl rfl (by kernel_rfl) (fun _ _ _ h => h) (Or.inl ⟨by rfl, ?_⟩) hHeld ?_ ?_
      rotate_left
      · intro w' s0
        have y0 := (blk_cell s0 0).trans rfl
        have y1 := (blk_cell s0 1).trans rfl
        have y2 := (blk_cell s0 2).trans rfl
        clear s0
        go_simp
        with_reducible rfl
      rotate_left
      · simp only [Act.put, List.setIfInBounds_toArray, List.set_cons_zero, List.set_cons_succ]
        rfl
      refine pure_ (i := 1) (N := some 73) (v := ?_) (a' := ?_) #[true, true, false, false, false, false, false, false, false, false, false, false, false, false] rfl rfl (by kernel_rfl) (fun _ _ _ h => h) (Or.inl ⟨by rfl, ?_⟩) ?_ ?_
      rotate_left
      · intro w'
        go_simp
        with_reducible rfl
      rotate_left
      · simp only [Act.put, List.setIfInBounds_toArray, List.set_cons_zero, List.set_cons_succ]
        rfl
      refine pure_ (i := 2) (N := some 74) (v := ?_) (a' := ?_) #[true, true, true, false, false, false, false, false, false, false, false, false, false, false] rfl rfl (by kernel_rfl) (fun _ _ _ h => h) (Or.inl ⟨by rfl, ?_⟩) ?_ ?_
      rotate_left
      · intro w'
        go_simp
        with_reducible rfl
      rotate_left
      · simp only [Act.put, List.setIfInBounds_toArray, List.set_cons_zero, List.set_cons_succ]
        rfl
      refine pure_ (i := 3) (N := some 75) (v := ?_) (a' := ?_) #[true, true, true, true, false, false, false, false, false, false, false, false, false, false] rfl rfl (by kernel_rfl) (fun _ _ _ h => h) (Or.inl ⟨by rfl, ?_⟩) ?_ ?_
      rotate_left
      · intro w'
        go_simp
        with_reducible rfl
      rotate_left
      · simp only [Act.put, List.setIfInBounds_toArray, List.set_cons_zero, List.set_cons_succ]
        rfl
      refine pure_ (i := 4) (N := some 76) (v := ?_) (a' := ?_) #[true, true, true, true, true, false, false, false, false, false, false, false, false, false] rfl rfl (by kernel_rfl) (fun _ _ _ h => h) (Or.inl ⟨by rfl, ?_⟩) ?_ ?_
      rotate_left
      · intro w'
        go_simp
        with_reducible rfl
      rotate_left
      · simp only [Act.put, List.setIfInBounds_toArray, List.set_cons_zero, List.set_cons_succ]
        rfl
      refine join_ (σ := Nat) 3 #[true, true, true, true, true, true, true, true, true, true, true, false, false, false] (fun s_ => [(77, .tuple #[.agg #[.bool e0, .bool e1, .bool e2, .bool e3, .bool e4, .int .u8 e5], .int .i64 nx, .int .i64 0]), (21, .pointer (some ⟨s_, 0, none⟩)), (71, .tuple #[.agg #[.bool e0, .bool e1, .bool e2, .bool e3, .bool e4, .int .u8 e5], .int .i64 nx, .int .i64 0]), (78, .agg #[.bool e0, .bool e1, .bool e2, .bool e3, .bool e4, .int .u8 e5]), (79, .int .i64 nx), (80, .int .i64 0)]) (fun s_ w' => Acts (fun _ => False) w1 w' ∧ w'.heap[s_]? = some (.cells #[.bool false, .bool false, .bool false, .bool false, .bool false, .int .u8 0] 77 (0, 0)) ∧ w1.heap.size ≤ s_) ?_ ?_
      rotate_left
      · intro hCont
        refine two_ (i := 5) (j := 10) (Ni := some 77) (Nj := some 21) #[true, true, true, true, true, true, false, false, false, false, false, false, false, false] #[true, true, true, true, true, false, false, false, false, false, true, false, false, false] rfl rfl rfl rfl (by kernel_rfl) (by decide) (by decide) (fun K hK => ?_) (fun K hK => ?_)
        · skip
          refine goes_ Tryd.func42 (by kernel_rfl) rfl #[.agg #[.int .u8 44, .int .u8 34, .int .i64 1], .int .i64 st, .int .u8 c] (by rfl) rfl rfl (by simp only [List.map_toArray, List.map_cons, List.map_nil]; rfl) ?_
          with_reducible refine (hsc _).mono ?_
          rintro e w2 ⟨rfl, hA1⟩
          refine ⟨_, rfl, ?_⟩
          refine hK.out _ _ ((hA1.same _ (blk_lt hxr) (fun h => h)).trans hxr) (fun hHeld => ?_)
          clear hK K
          refine norm_ (a' := ?_) ?_ ?_
          rotate_left
          · show Act.put _ (some 77) _ = _
            simp only [Act.put, List.setIfInBounds_toArray, List.set_cons_zero, List.set_cons_succ]
            rfl
          refine pure_ (i := 6) (N := some 71) (v := ?_) (a' := ?_) #[true, true, true, true, true, true, true, false, false, false, false, false, false, false] rfl rfl (by kernel_rfl) (fun _ _ _ h => h) (Or.inl ⟨by rfl, ?_⟩) ?_ ?_
          rotate_left
          · intro w'
            go_simp
            with_reducible rfl
          rotate_left
          · simp only [Act.put, List.setIfInBounds_toArray, List.set_cons_zero, List.set_cons_succ]
            rfl
          refine pure_ (i := 7) (N := some 78) (v := ?_) (a' := ?_) #[true, true, true, true, true, true, true, true, false, false, false, false, false, false] rfl rfl (by kernel_rfl) (fun _ _ _ h => h) (Or.inl ⟨by rfl, ?_⟩) ?_ ?_
          rotate_left
          · intro w'
            go_simp
            with_reducible rfl
          rotate_left
          · simp only [Act.put, List.setIfInBounds_toArray, List.set_cons_zero, List.set_cons_succ]
            rfl
          refine pure_ (i := 8) (N := some 79) (v := ?_) (a' := ?_) #[true, true, true, true, true, true, true, true, true, false, false, false, false, false] rfl rfl (by kernel_rfl) (fun _ _ _ h => h) (Or.inl ⟨by rfl, ?_⟩) ?_ ?_
          rotate_left
          · intro w'
            go_simp
            with_reducible rfl
          rotate_left
          · simp only [Act.put, List.setIfInBounds_toArray, List.set_cons_zero, List.set_cons_succ]
            rfl
          refine pure_ (i := 9) (N := some 80) (v := ?_) (a' := ?_) #[true, true, true, true, true, true, true, true, true, true, false, false, false, false] rfl rfl (by kernel_rfl) (fun _ _ _ h => h) (Or.inl ⟨by rfl, ?_⟩) ?_ ?_
          rotate_left
          · intro w'
            go_simp
            with_reducible rfl
          rotate_left
          · simp only [Act.put, List.setIfInBounds_toArray, List.set_cons_zero, List.set_cons_succ]
            rfl
          refine one_ (i := 10) (N := some 21) #[true, true, true, true, true, true, true, true, true, true, true, false, false, false] rfl rfl (by kernel_rfl) (by decide) (fun K hK => ?_)
          refine box_step ?hg (N := 21) ?hd (cs := #[.bool false, .bool false, .bool false, .bool false, .bool false, .int .u8 0]) (t := 77) ?hr ?_; (case hd => rfl); (case hg => rfl); (case hr => first | (go_simp; done) | (go_simp; rfl))
          intro s1 hg w3 hbox hb
          have hA2 : Acts (fun _ => False) w1 w3 := (Acts.drew (fun _ => False) w1).trans (hA1.trans (C' := fun _ => False) (Acts.of_below hb) (fun _ h => .inl h)) (fun _ h => .inl h)
          refine hK.out _ _ ((hA2.same _ (blk_lt hxr) (fun h => h)).trans hxr) (fun hHeld => ?_)
          clear hK K
          refine norm_ (a' := ?_) ?_ ?_
          rotate_left
          · show Act.put _ (some 21) _ = _
            simp only [Act.put, List.setIfInBounds_toArray, List.set_cons_zero, List.set_cons_succ]
            rfl
          exact norm_ (by simp only [putAll, Act.put, List.setIfInBounds_toArray, List.set_cons_zero, List.set_cons_succ]) (hCont s1 _ ⟨hA2, hbox, by rw [hg]; exact hA1.size⟩)
        · skip
          refine box_step ?hg (N := 21) ?hd (cs := #[.bool false, .bool false, .bool false, .bool false, .bool false, .int .u8 0]) (t := 77) ?hr ?_; (case hd => rfl); (case hg => rfl); (case hr => first | (go_simp; done) | (go_simp; rfl))
          intro s1 hg w2 hbox hb
          have hA1 : Acts (fun _ => False) w1 w2 := (Acts.drew (fun _ => False) w1).trans (C' := fun _ => False) (Acts.of_below hb) (fun _ h => .inl h)
          refine hK.out _ _ ((hA1.same _ (blk_lt hxr) (fun h => h)).trans hxr) (fun hHeld => ?_)
          clear hK K
          refine norm_ (a' := ?_) ?_ ?_
          rotate_left
          · show Act.put _ (some 21) _ = _
            simp only [Act.put, List.setIfInBounds_toArray, List.set_cons_zero, List.set_cons_succ]
            rfl
          refine one_ (i := 5) (N := some 77) #[true, true, true, true, true, true, false, false, false, false, true, false, false, false] rfl rfl (by kernel_rfl) (by decide) (fun K hK => ?_)
          refine goes_ Tryd.func42 (by kernel_rfl) rfl #[.agg #[.int .u8 44, .int .u8 34, .int .i64 1], .int .i64 st, .int .u8 c] (by rfl) rfl rfl (by simp only [List.map_toArray, List.map_cons, List.map_nil]; rfl) ?_
          with_reducible refine (hsc _).mono ?_
          rintro e w3 ⟨rfl, hA2⟩
          refine ⟨_, rfl, ?_⟩
          have hA3 : Acts (fun _ => False) w1 w3 := hA1.trans hA2 (fun _ h => .inl h)
          refine hK.out _ _ ((hA3.same _ (blk_lt hxr) (fun h => h)).trans hxr) (fun hHeld => ?_)
          clear hK K
          refine norm_ (a' := ?_) ?_ ?_
          rotate_left
          · show Act.put _ (some 77) _ = _
            simp only [Act.put, List.setIfInBounds_toArray, List.set_cons_zero, List.set_cons_succ]
            rfl
          refine pure_ (i := 6) (N := some 71) (v := ?_) (a' := ?_) #[true, true, true, true, true, true, true, false, false, false, true, false, false, false] rfl rfl (by kernel_rfl) (fun _ _ _ h => h) (Or.inl ⟨by rfl, ?_⟩) ?_ ?_
          rotate_left
          · intro w'
            go_simp
            with_reducible rfl
          rotate_left
          · simp only [Act.put, List.setIfInBounds_toArray, List.set_cons_zero, List.set_cons_succ]
            rfl
          refine pure_ (i := 7) (N := some 78) (v := ?_) (a' := ?_) #[true, true, true, true, true, true, true, true, false, false, true, false, false, false] rfl rfl (by kernel_rfl) (fun _ _ _ h => h) (Or.inl ⟨by rfl, ?_⟩) ?_ ?_
          rotate_left
          · intro w'
            go_simp
            with_reducible rfl
          rotate_left
          · simp only [Act.put, List.setIfInBounds_toArray, List.set_cons_zero, List.set_cons_succ]
            rfl
          refine pure_ (i := 8) (N := some 79) (v := ?_) (a' := ?_) #[true, true, true, true, true, true, true, true, true, false, true, false, false, false] rfl rfl (by kernel_rfl) (fun _ _ _ h => h) (Or.inl ⟨by rfl, ?_⟩) ?_ ?_
          rotate_left
          · intro w'
            go_simp
            with_reducible rfl
          rotate_left
          · simp only [Act.put, List.setIfInBounds_toArray, List.set_cons_zero, List.set_cons_succ]
            rfl
          refine pure_ (i := 9) (N := some 80) (v := ?_) (a' := ?_) #[true, true, true, true, true, true, true, true, true, true, true, false, false, false] rfl rfl (by kernel_rfl) (fun _ _ _ h => h) (Or.inl ⟨by rfl, ?_⟩) ?_ ?_
          rotate_left
          · intro w'
            go_simp
            with_reducible rfl
          rotate_left
          · simp only [Act.put, List.setIfInBounds_toArray, List.set_cons_zero, List.set_cons_succ]
            rfl
          exact norm_ (by simp only [putAll, Act.put, List.setIfInBounds_toArray, List.set_cons_zero, List.set_cons_succ]) (hCont s1 _ ⟨hA3, (hA2.same s1 (blk_lt hbox) (fun h => h)).trans hbox, by rw [hg]; exact Nat.le_refl w1.heap.size⟩)
      rintro s2 w2 ⟨hA2, hs2, hge⟩
      have y0 := (blk_cell hs2 0).trans rfl
      have z0 := blk_frozen hs2 0
      have y1 := (blk_cell hs2 1).trans rfl
      have z1 := blk_frozen hs2 1
      have y2 := (blk_cell hs2 2).trans rfl
      have z2 := blk_frozen hs2 2
      have y3 := (blk_cell hs2 3).trans rfl
      have z3 := blk_frozen hs2 3
      have y4 := (blk_cell hs2 4).trans rfl
      have z4 := blk_frozen hs2 4
      have y5 := (blk_cell hs2 5).trans rfl
      have z5 := blk_frozen hs2 5
      obtain ⟨w3, hw3⟩ : ∃ w3, ((((((w2.setCell ⟨s2, 0, none⟩ (.bool e0)).setCell ⟨s2, 1, none⟩ (.bool e1)).setCell ⟨s2, 2, none⟩ (.bool e2)).setCell ⟨s2, 3, none⟩ (.bool e3)).setCell ⟨s2, 4, none⟩ (.bool e4)).setCell ⟨s2, 5, none⟩ (.int .u8 e5)) = w3 := ⟨_, rfl⟩
      have hx3 : w3.heap[s2]? = some (.cells #[.bool e0, .bool e1, .bool e2, .bool e3, .bool e4, .int .u8 e5] 77 (0, 0)) := by rw [← hw3]; exact ev_stored hs2 rfl _ _ _ _ _ _
      have hA3 : Acts (fun _ => False) w1 w3 := by rw [← hw3]; exact hA2.trans (ev_stored_acts w2 s2 _ _ _ _ _ _) (fun j e => .inr (by omega))
      refine norm_ (a' := ?_) ?_ ?_
      rotate_left
      · simp only [putAll, Act.put, List.setIfInBounds_toArray, List.set_cons_zero, List.set_cons_succ]
        rfl
      refine last_ (i := 11) (N := none) #[true, true, true, true, true, true, true, true, true, true, true, true, false, false] rfl rfl (by kernel_rfl) (by decide) (fun K hK => ?_)
      refine skip_ (w1 := w3) (by rfl) rfl ?_ ?_
      · rw [← hw3]
        go_simp
      refine hK.out _ _ ?_
      clear hK K hHeld
      refine pure_ (i := 12) (N := some 22) (v := ?_) (a' := ?_) #[true, true, true, true, true, true, true, true, true, true, true, true, true, false] rfl rfl (by kernel_rfl) (fun _ _ _ h => h) (Or.inl ⟨by rfl, ?_⟩) ?_ ?_
      rotate_left
      · intro w'
        go_simp
        with_reducible rfl
      rotate_left
      · simp only [Act.put, List.setIfInBounds_toArray, List.set_cons_zero, List.set_cons_succ]
        rfl
      refine pure_ (i := 13) (N := some 23) (v := ?_) (a' := ?_) #[true, true, true, true, true, true, true, true, true, true, true, true, true, true] rfl rfl (by kernel_rfl) (fun _ _ _ h => h) (Or.inl ⟨by rfl, ?_⟩) ?_ ?_
      rotate_left
      · intro w'
        go_simp
        with_reducible rfl
      rotate_left
      · simp only [Act.put, List.setIfInBounds_toArray, List.set_cons_zero, List.set_cons_succ]
        rfl
      refine done_ (by kernel_rfl) ?_
      have hgo3 := WGo.more HG.out (hA25.trans hA3 (fun _ h => .inl h))
      have htk := take_calls B m ⟨e0, e1, e2, e3, e4, e5⟩ fv rv w3 hgo3.it.mak (by omega) (by omega)
      unfold TkTo at htk
      rw [HT.out] at htk
      dsimp only [Ev.cells] at htk
      have x0 := (blk_cell hx3 0).trans rfl
      have x1 := (blk_cell hx3 1).trans rfl
      have x2 := (blk_cell hx3 2).trans rfl
      have x3 := (blk_cell hx3 3).trans rfl
      have x4 := (blk_cell hx3 4).trans rfl
      have x5 := (blk_cell hx3 5).trans rfl
      have HG3 : Hid (WGo O B (.slice none 0 0) (.slice none 0 0) (.slice none 0 0) w4 _ _ _ _ _ w3) := hgo3
      clear hw3 hs2 hA2 hA3 hx3 hsc y0 y1 y2 y3 y4 y5 z0 z1 z2 z3 z4 z5 hgo3 hxr hxw
      cases ok with
      | false =>
        go_wp2_with (first
          | (go_at_call 44; ((with_reducible refine htk.mono ?_); rintro e w5 ⟨out, fv', rv', rfl, hg, hout, hno, hfree⟩; have HG5 : Hid (WGo O B (.slice none 0 0) (.slice none 0 0) (.slice none 0 0) w4 _ _ _ _ _ w5) := HG3.out.trans (HG3.out.it.maker hg); clear htk hg hout hno hfree)))
        have hst2 := HSt.out
        go_roundw
        case rel => exact ⟨i + 1, _, _, _, by omega, by go_num, rfl, by rw [hst2], by rw [hst2]; exact HG5⟩
        case measure => simp [intOf]; omega
      | true =>
        go_wp2_with (first
          | (go_at_call 44; ((with_reducible refine htk.mono ?_); rintro e w5 ⟨out, fv', rv', rfl, hg, hout, hno, hfree⟩; obtain ⟨oa, oc, rfl⟩ := slice_len hout; have HG5 : Hid (WGo O B (.slice none 0 0) (.slice none 0 0) (.slice none 0 0) w4 _ _ _ _ _ w5) := HG3.out.trans (HG3.out.it.maker hg); have hyc := yield_calls O B _ _ _ _ _ l oa oc w5 HG5.out.it (by omega) hout hfree; clear htk hg hout hno hfree))
          | (go_at_call 39; ((with_reducible refine hyc.mono ?_); rintro e w6 ⟨rfl, qv6, hg6⟩; have HG6 : Hid (WGo O B (.slice none 0 0) (.slice none 0 0) (.slice none 0 0) w4 _ _ _ _ _ w6) := HG5.out.trans hg6; clear hyc hg6)))
        have hst2 := HSt.out
        go_roundw
        case rel => exact ⟨i + 1, _, _, _, by omega, by go_num, rfl, by rw [hst2], by rw [hst2]; exact HG6⟩
        case measure => simp [intOf]; omega
    · obtain rfl : i = 6 := by omega
      have hg0 := HG.out
      obtain ⟨z1, z2, z3⟩ := tab_end
      obtain ⟨t5, t6, t7⟩ := tab_small 6 (Nat.le_refl _)
      have t6' := Nat.le_of_ble_eq_true t6
      have hend := end_calls B (stA 6).2.1 fv rv 6 (.func (.func 39) #[] #[.pointer (some ⟨O, 0, none⟩)]) wr hg0.it.mak (by omega) (by omega) z2
      have hzr := (hg0.acts.same _ (blk_lt HL.out) hnL).trans HL.out
      rw [z1]
      have hlM : ¬ MC B fv rv (W.heap.size + 2) := fun e => by
        have hL2 := blk_lt HL.out
        rcases e with e | e | e
        · omega
        · rcases hg0.fnew _ e with e' | e'
          · cases e'
          · omega
        · rcases hg0.rnew _ e with e' | e'
          · cases e'
          · omega
      have Hg0 : Hid (WGo O B (.slice none 0 0) (.slice none 0 0) (.slice none 0 0) w4 _ _ _ _ _ wr) := hg0
      clear hg0 HG z1 z2 z3 t5 t6 t7 t6'
      go_wp2_with (go_at_call 50; ((with_reducible refine hend.mono ?_); rintro e w7 ⟨rfl, hA7⟩; have hz7 := (hA7.same _ (blk_lt hzr) hlM).trans hzr; have l0 := (blk_cell hz7 0).trans rfl; have l1 := (blk_cell hz7 1).trans rfl; have k0 := blk_frozen hz7 0; have k1 := blk_frozen hz7 1))
      rw [Exit.noGoto_ret]
      refine bodyPost_ret (results_cell_tmp35 rfl _ _ (W.heap.size + 2) (.int .i64 0) (.int .i64 0) ?_ ?_) ?_ ?_
      · rfl
      · exact flt_stored hz7 _ _
      · rfl
      have hg0 := Hg0.out
      obtain ⟨o1, rows, o2, o3⟩ := hg0.it.after hA7
      have hAL := flt_acts w7 (W.heap.size + 2) (.int .i64 0) (.int .i64 0)
      refine ⟨rfl, ⟨rv, qv, rows, (hAL.same _ (blk_lt o1) (by omega)).trans o1, owns_keep o2 (fun k e => hAL.same k (row_lt o2 k e) (fun e' => row_ne o2 hz7 (by decide) (e' ▸ e))), rows_far o3 hz7 hAL⟩, ?_⟩
      have hs4 := HA04.out.size
      have hAll : Acts (fun k => k = O) W wr := (HA04.out.weaken (fun _ _ h => h.elim)).trans hg0.acts (fun j hj => by
        rcases hj with e | (e | e | e) | e
        · exact .inl e
        · exact .inr (by omega)
        · cases e
        · cases e
        · cases e)
      exact (hAll.trans hA7 (fun j hj => by
        rcases hj with e | e | e
        · exact .inr (by omega)
        · rcases hg0.fnew _ e with e' | e'
          · cases e'
          · exact .inr (by omega)
        · rcases hg0.rnew _ e with e' | e'
          · cases e'
          · exact .inr (by omega))).trans hAL (fun j e => .inr (by omega))
end Go.Proofs.YtmignbhpofmgeaaDoor.Top
namespace Go.Proofs.YtmignbhpofmgeaaDoor.Top
open Go.RowKit Go.Proofs.YtmignbhpofmgeaaDoorW.PrintWords Go.Proofs.YtmignbhpofmgeaaDoorW.PrintLast Go.Proofs.YtmignbhpofmgeaaDoorW.PrintMore Go.Proofs.YtmignbhpofmgeaaDoor.Iter
set_option linter.unusedVariables false
set_option linter.unusedSimpArgs false
theorem tab_ls : (stA 6).2.2 = [[⟨#[97]⟩, ⟨#[98]⟩]] := by kernel_rfl
theorem owns_cell {W : World} {base e n : Nat} {v : Value} {xs : List Value} (h : W.ownsRow base e 1 v n xs) (i : Nat) (x : Value) (hx : xs[i]? = some x) : ∃ g cap, v = .slice (some ⟨g, 0, none⟩) n cap ∧ W.cell? ⟨g, i, none⟩ = some x ∧ g < W.heap.size := by
  have hl : xs.length = n := by have := h.1; omega
  have hi : i < xs.length := (List.getElem?_eq_some_iff.1 hx).1
  rcases h.2 with ⟨_, h0⟩ | ⟨g, cap, cur, rfl, h1, h2, h3, h4, h5, h6⟩
  · omega
  · refine ⟨g, cap, rfl, ?_, blk_lt h2⟩
    rw [blk_cell h2 i, ← Array.getElem?_toList, ← List.getElem?_take_of_lt (i := i) (j := n * 1) (by omega), h6, hx]
set_option maxRecDepth 100000 in
set_option maxHeartbeats 8000000 in
theorem parse_calls (n0 : Nat) (W : World) (hU : Utf n0 W) :
    Calls Tryd.prog 21 #[.agg #[.int .u8 44, .int .u8 34, .int .i64 1], .agg #[.int .i64 9, .int .i64 9, .int .i64 9, .bool false], .string ⟨#[97, 44, 34, 98, 34, 10]⟩] W
      (fun e w' => ∃ qv, e = .returned (.tuple #[qv, .agg #[.int .i64 0, .int .i64 0]]) ∧ (∃ rv rows, w'.ownsRow 0 61 1 qv (stA 6).2.2.length rows ∧ RowsAt rv w' rows (stA 6).2.2) ∧ Acts (fun _ => False) W w') := by
  obtain ⟨W1, hW1⟩ : ∃ W1, (((W.alloc (.cells #[.int .u8 44, .int .u8 34, .int .i64 1] 23)).alloc (.cells #[.int .i64 9, .int .i64 9, .int .i64 9, .bool false] 25)).alloc (.cells #[.int .i64 0, .int .i64 0] 35)).alloc (.cells #[.slice none 0 0] 44) = W1 := ⟨_, rfl⟩
  have hA1 : Acts (fun _ => False) W W1 := by rw [← hW1]; exact (((Acts.alloc (fun _ => False) _ _).trans (Acts.alloc (fun _ => False) _ _) (fun _ h => .inl h)).trans (Acts.alloc (fun _ => False) _ _) (fun _ h => .inl h)).trans (Acts.alloc (fun _ => False) _ _) (fun _ h => .inl h)
  have hx : W1.heap[W.heap.size]? = some (.cells #[.int .u8 44, .int .u8 34, .int .i64 1] 23 (0, 0)) := by rw [← hW1]; exact blk_alloc (blk_alloc (blk_alloc (by simpa using heap_alloc_new W (.cells #[.int .u8 44, .int .u8 34, .int .i64 1] 23)) _) _) _
  have hy : W1.heap[W.heap.size + 1]? = some (.cells #[.int .i64 9, .int .i64 9, .int .i64 9, .bool false] 25 (0, 0)) := by rw [← hW1]; exact blk_alloc (blk_alloc (by simpa using heap_alloc_new (W.alloc (.cells #[.int .u8 44, .int .u8 34, .int .i64 1] 23)) (.cells #[.int .i64 9, .int .i64 9, .int .i64 9, .bool false] 25)) _) _
  have hz : W1.heap[W.heap.size + 2]? = some (.cells #[.int .i64 0, .int .i64 0] 35 (0, 0)) := by rw [← hW1]; exact blk_alloc (by simpa using heap_alloc_new ((W.alloc (.cells #[.int .u8 44, .int .u8 34, .int .i64 1] 23)).alloc (.cells #[.int .i64 9, .int .i64 9, .int .i64 9, .bool false] 25)) (.cells #[.int .i64 0, .int .i64 0] 35)) _
  have hO : W1.heap[W.heap.size + 3]? = some (.cells #[.slice none 0 0] 44 (0, 0)) := by rw [← hW1]; simpa using heap_alloc_new (((W.alloc (.cells #[.int .u8 44, .int .u8 34, .int .i64 1] 23)).alloc (.cells #[.int .i64 9, .int .i64 9, .int .i64 9, .bool false] 25)).alloc (.cells #[.int .i64 0, .int .i64 0] 35)) (.cells #[.slice none 0 0] 44)
  have x0 := (blk_cell hx 0).trans rfl
  have x1 := (blk_cell hx 1).trans rfl
  have x2 := (blk_cell hx 2).trans rfl
  have y0 := (blk_cell hy 0).trans rfl
  have y1 := (blk_cell hy 1).trans rfl
  have y2 := (blk_cell hy 2).trans rfl
  have y3 := (blk_cell hy 3).trans rfl
  have hwc := wwalk_calls n0 (W.heap.size + 3) W1 (hU.acts hA1 (fun _ h => h.elim)) hO (by have := hU.1; omega)
  go_enter Tryd.func21, Tryd.ntmps21
  go_wp2_with (first
    | (go_at_call 38; ((with_reducible refine hwc.mono ?_); rintro e w2 ⟨rfl, ⟨rv, qv, rows, hO2, hq, hr⟩, hA2⟩)))
  have hs1 := blk_lt hO
  have hs2 := hA2.size
  have hA3 : Acts (fun _ => False) w2 (w2.alloc (.cells #[.int .i64 0, .int .i64 0] 35)) := Acts.alloc _ _ _
  have hL3 : (w2.alloc (.cells #[.int .i64 0, .int .i64 0] 35)).heap[w2.heap.size]? = some (.cells #[.int .i64 0, .int .i64 0] 35 (0, 0)) := by simpa using heap_alloc_new w2 (.cells #[.int .i64 0, .int .i64 0] 35)
  have hO3 := (hA3.same _ (blk_lt hO2) (fun h => h)).trans hO2
  have hz2 := (hA2.same _ (blk_lt hz) (by omega)).trans hz
  have hz3 := (hA3.same _ (blk_lt hz2) (fun h => h)).trans hz2
  have l0 := (blk_cell hz3 0).trans rfl
  have l1 := (blk_cell hz3 1).trans rfl
  have k0 := blk_frozen hz3 0
  have k1 := blk_frozen hz3 1
  obtain ⟨w4, hw4⟩ : ∃ w4, w2.alloc (.cells #[.int .i64 0, .int .i64 0] 35) = w4 := ⟨_, rfl⟩
  rw [hw4] at hA3 hL3 hO3 hz3 l0 l1 k0 k1 ⊢
  have hL5 := flt_stored hz3 (.int .i64 0) (.int .i64 0)
  have hA5 := flt_acts w4 (W.heap.size + 2) (.int .i64 0) (.int .i64 0)
  obtain ⟨w5, hw5⟩ : ∃ w5, (w4.drew.setCell ⟨W.heap.size + 2, 0, none⟩ (.int .i64 0)).setCell ⟨W.heap.size + 2, 1, none⟩ (.int .i64 0) = w5 := ⟨_, rfl⟩
  have hA5 : Acts (fun k => k = W.heap.size + 2) w4 w5 := by rw [← hw5]; exact (Acts.drew (fun k => k = W.heap.size + 2) w4).trans (flt_acts w4.drew _ _ _) (fun _ h => .inl h)
  have hL5 : w5.heap[W.heap.size + 2]? = some (.cells #[.int .i64 0, .int .i64 0] 35 (0, 0)) := by rw [← hw5]; exact flt_stored (W := w4.drew) hz3 _ _
  refine start_ (n := 4) (S := fun w' => w'.heap[W.heap.size + 3]? = some (.cells #[qv] 44 (0, 0)) ∧ w'.heap[w2.heap.size]? = some (.cells #[.int .i64 0, .int .i64 0] 35 (0, 0))) (ds := [3]) #[false, false, false, false] (by kernel_rfl) rfl rfl (⟨hO3, hL3⟩) (fun hHeld => ?_)
  refine take_ (i := 0) (N := some 19) (v := ?_) (a' := ?_) #[true, false, false, false] rfl rfl (by kernel_rfl) (fun _ _ _ h => h) (Or.inl ⟨by rfl, ?_⟩) hHeld ?_ ?_
  rotate_left
  · intro w' s0
    obtain ⟨s1, s2⟩ := s0
    have y0 := (blk_cell s1 0).trans rfl
    clear s1 s2
    go_simp
    with_reducible rfl
  rotate_left
  · simp only [Act.put, List.setIfInBounds_toArray, List.set_cons_zero, List.set_cons_succ]
    rfl
  refine take_ (i := 1) (N := some 20) (v := ?_) (a' := ?_) #[true, true, false, false] rfl rfl (by kernel_rfl) (fun _ _ _ h => h) (Or.inl ⟨by rfl, ?_⟩) hHeld ?_ ?_
  rotate_left
  · intro w' s0
    obtain ⟨s1, s2⟩ := s0
    have y0 := (blk_cell s2 0).trans rfl
    have y1 := (blk_cell s2 1).trans rfl
    clear s1 s2
    go_simp
    with_reducible rfl
  rotate_left
  · simp only [Act.put, List.setIfInBounds_toArray, List.set_cons_zero, List.set_cons_succ]
    rfl
  refine pure_ (i := 2) (N := some 6) (v := ?_) (a' := ?_) #[true, true, true, false] rfl rfl (by kernel_rfl) (fun _ _ _ h => h) (Or.inl ⟨by rfl, ?_⟩) ?_ ?_
  rotate_left
  · intro w'
    go_simp
    with_reducible rfl
  rotate_left
  · simp only [Act.put, List.setIfInBounds_toArray, List.set_cons_zero, List.set_cons_succ]
    rfl
  refine last_ (i := 3) (N := none) #[true, true, true, true] rfl rfl (by kernel_rfl) (by decide) (fun K hK => ?_)
  refine skip_ (w1 := w5) (by rfl) rfl ?_ ?_
  · rw [← hw5]
    go_simp
  refine hK.out _ _ ?_
  clear hK K
  refine done_ (by kernel_rfl) ?_
  clear hHeld
  go_wp2
  refine bodyPost_ret (results_tmp_cell35 rfl _ _ (W.heap.size + 2) (.int .i64 0) (.int .i64 0) ?_ ?_) ?_ ?_
  · rfl
  · exact hL5
  · rfl
  have hq3 : w4.ownsRow 0 61 1 qv (stA 6).2.2.length rows := owns_keep hq (fun k e => hA3.same k (row_lt hq k e) (fun h => h))
  have hr3 : RowsAt rv w4 rows (stA 6).2.2 := ⟨hr.1, fun i v l hi hl => by
    obtain ⟨h1, h2⟩ := hr.2 i v l hi hl
    exact ⟨owns_keep h1 (fun k e => hA3.same k (row_lt h1 k e) (fun h => h)), h2⟩⟩
  exact ⟨_, rfl, ⟨rv, rows, owns_keep hq3 (fun k e => hA5.same k (row_lt hq3 k e) (fun e' => row_ne hq3 hz3 (by decide) (e' ▸ e))), rows_far hr3 hz3 hA5⟩, ((hA1.trans hA2 (fun j e => .inr (by omega))).trans hA3 (fun _ h => .inl h)).trans hA5 (fun j e => .inr (by omega))⟩
set_option maxRecDepth 100000 in
set_option maxHeartbeats 8000000 in
theorem alive_calls (n0 : Nat) (W : World) (hU : Utf n0 W) : Calls Tryd.prog 7 #[] W (fun e w' => e = .returned (.bool true) ∧ Acts (fun _ => False) W w') := by
  have hpc := parse_calls n0 W hU
  go_enter Tryd.func7, Tryd.ntmps7
  go_wp2_with (first
    | (go_at_call 21; ((with_reducible refine hpc.mono ?_); rintro e w2 ⟨qv, rfl, ⟨rv, rows, hq, hr⟩, hA2⟩; have hls := tab_ls; rw [hls] at hq hr; obtain ⟨v, hv⟩ : ∃ v, rows[0]? = some v := ⟨_, List.getElem?_eq_getElem (by rw [hr.1]; exact Nat.zero_lt_one)⟩; obtain ⟨g, cap, rfl, hc, hg⟩ := owns_cell hq 0 v hv; have hrow := (hr.2 0 v _ hv rfl).1; obtain ⟨g2, cap2, rfl, hc2, hg2⟩ := owns_cell hrow 1 (.string ⟨#[98]⟩) rfl; have hg' : g ≠ w2.heap.size := (by omega); have hg2' : g2 ≠ w2.heap.size := (by omega))))
  go_ret
  exact ⟨rfl, hA2.trans (Acts.alloc (fun _ => False) _ _) (fun _ h => .inl h)⟩
end Go.Proofs.YtmignbhpofmgeaaDoor.Top
namespace Go.Proofs.YtmignbhpofmgeaaDoor.Top
open Go.RowKit Go.Proofs.YtmignbhpofmgeaaDoorW.PrintWords Go.Proofs.YtmignbhpofmgeaaDoorW.PrintLast Go.Proofs.YtmignbhpofmgeaaDoorW.PrintMore Go.Proofs.YtmignbhpofmgeaaDoor.Iter
set_option linter.unusedVariables false
set_option linter.unusedSimpArgs false
/-- A byte that may part or quote fields, as the reference asks it. -/
def okB (b : Int) : Bool := decide (0 ≤ b) && decide (b ≤ 127) && decide (b ≠ 10) && decide (b ≠ 13)
def quillpenref01_Right.f (a0_0 : Int) (a0_1 : Int) (a0_2 : Int) : Option Bool := some (okB a0_0 && okB a0_1 && (decide (a0_0 ≠ a0_1) && (decide (a0_2 = 1) || (decide (a0_2 = 2) || decide (a0_2 = 3)))))
theorem okB_parts {b : Int} (h : okB b = false) : b < 0 ∨ (¬ b < 0 ∧ 127 < b) ∨ (¬ b < 0 ∧ ¬ 127 < b ∧ (b == 10) = true) ∨ (¬ b < 0 ∧ ¬ 127 < b ∧ (b == 10) = false ∧ (b == 13) = true) := by
  unfold okB at h
  by_cases h1 : b < 0
  · exact .inl h1
  by_cases h2 : 127 < b
  · exact .inr (.inl ⟨h1, h2⟩)
  by_cases h3 : b = 10
  · exact .inr (.inr (.inl ⟨h1, h2, by simp [h3]⟩))
  by_cases h4 : b = 13
  · exact .inr (.inr (.inr ⟨h1, h2, by simp [h3], by simp [h4]⟩))
  · exfalso
    have a : decide (0 ≤ b) = true := by simp; omega
    have c : decide (b ≤ 127) = true := by simp; omega
    simp [a, c, h3, h4] at h
theorem okB_whole {b : Int} (h : okB b = true) : ¬ b < 0 ∧ ¬ 127 < b ∧ (b == 10) = false ∧ (b == 13) = false := by
  unfold okB at h
  simp at h
  obtain ⟨⟨⟨h1, h2⟩, h3⟩, h4⟩ := h
  exact ⟨by omega, by omega, by simp [h3], by simp [h4]⟩
set_option maxHeartbeats 1000000 in
set_option maxRecDepth 100000 in
theorem right_no1 (d0 d1 d2 : Int) (w : World) (h : okB d0 = false) :
    Calls Tryd.prog 16 #[.agg #[.int .i64 d0, .int .i64 d1, .int .i64 d2]] w fun e w' => e = .returned (.bool false) ∧ Below w.heap.size w w' := by
  have i0 : ∀ x y w, (Instr.index 85 (.agg #[.int .i64 x, .int .i64 y]) (.int .i64 0)).run Tryd.prog w = .ok (.int .i64 x) w := fun _ _ _ => by kernel_rfl
  have i1 : ∀ x y w, (Instr.index 85 (.agg #[.int .i64 x, .int .i64 y]) (.int .i64 1)).run Tryd.prog w = .ok (.int .i64 y) w := fun _ _ _ => by kernel_rfl
  rcases okB_parts h with h1 | ⟨h1, h2⟩ | ⟨h1, h2, h3⟩ | ⟨h1, h2, h3, h4⟩ <;> clear h
  all_goals
    go_enter Tryd.func16, Tryd.ntmps16
    go_wp2
    refine wp_loop_rounds 1 ?_
    rw [rounds_succ]
    go_wp2
    go_ret
    exact ⟨rfl, (Below.refl _ _).alloc (Nat.le_refl _) _⟩
set_option maxHeartbeats 1000000 in
set_option maxRecDepth 100000 in
theorem right_no2 (d0 d1 d2 : Int) (w : World) (hy : okB d0 = true) (h : okB d1 = false) :
    Calls Tryd.prog 16 #[.agg #[.int .i64 d0, .int .i64 d1, .int .i64 d2]] w fun e w' => e = .returned (.bool false) ∧ Below w.heap.size w w' := by
  have i0 : ∀ x y w, (Instr.index 85 (.agg #[.int .i64 x, .int .i64 y]) (.int .i64 0)).run Tryd.prog w = .ok (.int .i64 x) w := fun _ _ _ => by kernel_rfl
  have i1 : ∀ x y w, (Instr.index 85 (.agg #[.int .i64 x, .int .i64 y]) (.int .i64 1)).run Tryd.prog w = .ok (.int .i64 y) w := fun _ _ _ => by kernel_rfl
  obtain ⟨y1, y2, y3, y4⟩ := okB_whole hy
  rcases okB_parts h with h1 | ⟨h1, h2⟩ | ⟨h1, h2, h3⟩ | ⟨h1, h2, h3, h4⟩ <;> clear h hy
  all_goals
    go_enter Tryd.func16, Tryd.ntmps16
    go_wp2
    refine wp_loop_rounds 2 ?_
    rw [rounds_succ]
    go_wp2
    rw [rounds_succ]
    go_wp2
    go_ret
    exact ⟨rfl, (Below.refl _ _).alloc (Nat.le_refl _) _⟩
set_option maxHeartbeats 1000000 in
set_option maxRecDepth 100000 in
theorem right_yes (d0 d1 d2 : Int) (w : World) (hy : okB d0 = true) (hz : okB d1 = true) :
    Calls Tryd.prog 16 #[.agg #[.int .i64 d0, .int .i64 d1, .int .i64 d2]] w fun e w' => e = .returned (.bool (decide (d0 ≠ d1) && (decide (d2 = 1) || (decide (d2 = 2) || decide (d2 = 3))))) ∧ Below w.heap.size w w' := by
  have i0 : ∀ x y w, (Instr.index 85 (.agg #[.int .i64 x, .int .i64 y]) (.int .i64 0)).run Tryd.prog w = .ok (.int .i64 x) w := fun _ _ _ => by kernel_rfl
  have i1 : ∀ x y w, (Instr.index 85 (.agg #[.int .i64 x, .int .i64 y]) (.int .i64 1)).run Tryd.prog w = .ok (.int .i64 y) w := fun _ _ _ => by kernel_rfl
  obtain ⟨y1, y2, y3, y4⟩ := okB_whole hy
  obtain ⟨z1, z2, z3, z4⟩ := okB_whole hz
  clear hy hz
  by_cases e0 : d0 = d1
  · have e1 : (d0 != d1) = false := by simp [e0]
    rw [show (decide (d0 ≠ d1) && (decide (d2 = 1) || (decide (d2 = 2) || decide (d2 = 3)))) = false from by simp [e0]]
    clear e0
    go_enter Tryd.func16, Tryd.ntmps16
    go_wp2
    refine wp_loop_rounds 3 ?_
    rw [rounds_succ]
    go_wp2
    rw [rounds_succ]
    go_wp2
    rw [rounds_succ]
    go_wp2
    go_ret
    exact ⟨rfl, (Below.refl _ _).alloc (Nat.le_refl _) _⟩
  have e1 : (d0 != d1) = true := by simp [e0]
  by_cases g1 : d2 = 1
  · have k1 : (d2 == 1) = true := by simp [g1]
    rw [show (decide (d0 ≠ d1) && (decide (d2 = 1) || (decide (d2 = 2) || decide (d2 = 3)))) = true from by simp [e0, g1]]
    clear e0 g1
    go_enter Tryd.func16, Tryd.ntmps16
    go_wp2
    refine wp_loop_rounds 3 ?_
    rw [rounds_succ]
    go_wp2
    rw [rounds_succ]
    go_wp2
    rw [rounds_succ]
    go_wp2
    go_ret
    exact ⟨rfl, (Below.refl _ _).alloc (Nat.le_refl _) _⟩
  have k1 : (d2 == 1) = false := by simp [g1]
  by_cases g2 : d2 = 2
  · have k2 : (d2 == 2) = true := by simp [g2]
    rw [show (decide (d0 ≠ d1) && (decide (d2 = 1) || (decide (d2 = 2) || decide (d2 = 3)))) = true from by simp [e0, g2]]
    clear e0 g1 g2
    go_enter Tryd.func16, Tryd.ntmps16
    go_wp2
    refine wp_loop_rounds 3 ?_
    rw [rounds_succ]
    go_wp2
    rw [rounds_succ]
    go_wp2
    rw [rounds_succ]
    go_wp2
    go_ret
    exact ⟨rfl, (Below.refl _ _).alloc (Nat.le_refl _) _⟩
  have k2 : (d2 == 2) = false := by simp [g2]
  by_cases g3 : d2 = 3
  · have k3 : (d2 == 3) = true := by simp [g3]
    rw [show (decide (d0 ≠ d1) && (decide (d2 = 1) || (decide (d2 = 2) || decide (d2 = 3)))) = true from by simp [e0, g3]]
    clear e0 g1 g2 g3
    go_enter Tryd.func16, Tryd.ntmps16
    go_wp2
    refine wp_loop_rounds 3 ?_
    rw [rounds_succ]
    go_wp2
    rw [rounds_succ]
    go_wp2
    rw [rounds_succ]
    go_wp2
    go_ret
    exact ⟨rfl, (Below.refl _ _).alloc (Nat.le_refl _) _⟩
  · have k3 : (d2 == 3) = false := by simp [g3]
    rw [show (decide (d0 ≠ d1) && (decide (d2 = 1) || (decide (d2 = 2) || decide (d2 = 3)))) = false from by simp [g1, g2, g3]]
    clear e0 g1 g2 g3
    go_enter Tryd.func16, Tryd.ntmps16
    go_wp2
    refine wp_loop_rounds 3 ?_
    rw [rounds_succ]
    go_wp2
    rw [rounds_succ]
    go_wp2
    rw [rounds_succ]
    go_wp2
    go_ret
    exact ⟨rfl, (Below.refl _ _).alloc (Nat.le_refl _) _⟩
theorem quillpenref01_Right.calls (a0_0 : Int) (a0_1 : Int) (a0_2 : Int) (r : Bool) (w : World) (h : quillpenref01_Right.f a0_0 a0_1 a0_2 = some r) :
    Calls Tryd.prog 16 #[.agg #[.int .i64 a0_0, .int .i64 a0_1, .int .i64 a0_2]] w fun e w' => e = .returned (.bool r) ∧ Below w.heap.size w w' := by
  obtain rfl := Option.some.inj h
  cases h0 : okB a0_0 with
  | false => simpa using right_no1 a0_0 a0_1 a0_2 w h0
  | true =>
    cases h1 : okB a0_1 with
    | false => simpa using right_no2 a0_0 a0_1 a0_2 w h0 h1
    | true =>
      have := right_yes a0_0 a0_1 a0_2 w h0 h1
      rw [Bool.true_and, Bool.true_and]
      exact this
def okN (n : Int) : Bool := decide (1 ≤ n) && decide (n ≤ 2147483648)
theorem okN_whole {n : Int} (h : okN n = true) : ¬ n < 1 ∧ ¬ 2147483648 < n := by
  unfold okN at h
  simp at h
  omega
def rightB (de qu en F Fs R : Int) : Bool := (okB (wrap64 de) && okB (wrap64 qu) && (decide (wrap64 de ≠ wrap64 qu) && (decide (en = 1) || (decide (en = 2) || decide (en = 3))))) && (okN F && okN Fs && okN R)
end Go.Proofs.YtmignbhpofmgeaaDoor.Top
namespace Go.Proofs.YtmignbhpofmgeaaDoor.Top
open Go.RowKit Go.Proofs.YtmignbhpofmgeaaDoorW.PrintWords Go.Proofs.YtmignbhpofmgeaaDoorW.PrintLast Go.Proofs.YtmignbhpofmgeaaDoorW.PrintMore Go.Proofs.YtmignbhpofmgeaaDoor.Iter
set_option linter.unusedVariables false
set_option linter.unusedSimpArgs false
/-- The end of the text. -/
def closeR (r : RS) : RS := if r.closed = true ∨ r.fk ≠ 0 then { r with closed := true } else if r.utf ≠ 0 then cutR { r with closed := true } 12 else (eventR { r with closed := true } (closeSc r.state).1 (closeSc r.state).2 r.offset).1
set_option maxRecDepth 100000 in
set_option maxHeartbeats 8000000 in
theorem rclose_calls (n0 : Nat) (x : RV) (r : RS) (N M : Nat) (W : World) (h : RAt n0 x r W) (hN : Small N r) (hNb : N + 10 ≤ 2147483648) (hM : r.closed = true ∨ r.fk ≠ 0 ∨ Fine M r) (hMb : M ≤ 1000000000) :
    Calls Tryd.prog 12 #[.pointer (some ⟨x.R, 0, none⟩)] W (RTo n0 x W (closeR r) (fltV (closeR r))) := by
  obtain ⟨W1, hW1⟩ : ∃ W1, W.alloc (.cells #[.int .i64 0, .int .i64 0] 35) = W1 := ⟨_, rfl⟩
  have hx : W1.heap[W.heap.size]? = some (.cells #[.int .i64 0, .int .i64 0] 35 (0, 0)) := by rw [← hW1]; simpa using heap_alloc_new W (.cells #[.int .i64 0, .int .i64 0] 35)
  have hA1 : Acts (fun _ => False) W W1 := by rw [← hW1]; exact Acts.alloc _ _ _
  have h1 := h.acts hA1
  have hlt := h.lt
  have hLR : ¬ RC x W.heap.size := fun e => by have := h.rc_lt _ e; omega
  have hgt : W.heap.size < W1.heap.size := (Array.getElem?_eq_some_iff.1 hx).1
  have HEnd : Hid (∀ r' x' w', RGo n0 x W1 r' x' w' → w'.heap[W.heap.size]? = some (.cells #[.int .i64 0, .int .i64 0] 35 (0, 0)) ∧ (∀ a b : Value, RGo n0 x W r' x' ((w'.setCell ⟨W.heap.size, 0, none⟩ a).setCell ⟨W.heap.size, 1, none⟩ b) ∧ ((w'.setCell ⟨W.heap.size, 0, none⟩ a).setCell ⟨W.heap.size, 1, none⟩ b).heap[W.heap.size]? = some (.cells #[a, b] 35 (0, 0)))) := by
    intro r' x' w' hg
    have hxw : w'.heap[W.heap.size]? = some (.cells #[.int .i64 0, .int .i64 0] 35 (0, 0)) := (hg.acts.same _ hgt hLR).trans hx
    refine ⟨hxw, fun a b => ⟨?_, flt_stored hxw a b⟩⟩
    have hb : RGo n0 x W r' x' w' := RGo.trans ⟨h1, hA1.weaken (fun _ _ h => h.elim), RNew.refl _ _⟩ hg
    exact ⟨hb.it.far hxw (by decide) (flt_acts _ _ _ _), hb.acts.trans (flt_acts _ _ _ _) (fun j e => .inr (by omega)), hb.new⟩
  have n1 : W.heap.size ≠ x.R := by omega
  have n2 : x.R ≠ W.heap.size := by omega
  have hg1 := (RGo.refl h1).set (r' := { r with closed := true }) 10 (.bool true) rfl rfl rfl rfl
  have c3 := (blk_cell h1.obj 3).trans rfl
  have c5 := (blk_cell h1.obj 5).trans rfl
  have c6 := (blk_cell h1.obj 6).trans rfl
  have c7 := (blk_cell h1.obj 7).trans rfl
  have c8 := (blk_cell h1.obj 8).trans rfl
  have c9 := (blk_cell h1.obj 9).trans rfl
  have c10 := (blk_cell h1.obj 10).trans rfl
  have f10 := blk_frozen h1.obj 10
  simp only [RS.cells] at c3 c5 c6 c7 c8 c9 c10
  have x0 := (blk_cell hx 0).trans rfl
  have x1 := (blk_cell hx 1).trans rfl
  have y0 := blk_frozen hx 0
  have y1 := blk_frozen hx 1
  by_cases hst : r.closed = true ∨ r.fk ≠ 0
  · have e : closeR r = { r with closed := true } := if_pos hst
    rw [e]
    have hE := HEnd.out _ x _ hg1
    have hfin := (hE.2 (.int .i64 r.fk) (.int .i64 r.fat))
    obtain ⟨R, S, B, fv, rv, qv⟩ := x
    dsimp only at *
    clear HEnd hE hLR e hM
    cases hcl : r.closed with
    | true =>
      rw [hcl] at c10
      clear hst
      go_enter Tryd.func12, Tryd.ntmps12
      go_wp2
      refine bodyPost_ret (results_cell_row rfl _ _ W.heap.size 35 #[.int .i64 r.fk, .int .i64 r.fat] (0, 0) _ rfl hfin.2 Tryd.underlying35 rfl (by kernel_rfl)) rfl ?_
      exact ⟨rfl, _, hfin.1⟩
    | false =>
      rw [hcl] at c10
      have hk : ¬ r.fk = 0 := by rw [hcl] at hst; simpa using hst
      clear hst
      go_enter Tryd.func12, Tryd.ntmps12
      go_wp2
      refine bodyPost_ret (results_cell_row rfl _ _ W.heap.size 35 #[.int .i64 r.fk, .int .i64 r.fat] (0, 0) _ rfl hfin.2 Tryd.underlying35 rfl (by kernel_rfl)) rfl ?_
      exact ⟨rfl, _, hfin.1⟩
  · have hcl : r.closed = false := by cases hc : r.closed <;> simp [hc] at hst ⊢
    have hfk : r.fk = 0 := by
      by_cases hz : r.fk = 0
      · exact hz
      · exact absurd (Or.inr hz) hst
    have e : closeR r = if r.utf ≠ 0 then cutR { r with closed := true } 12 else (eventR { r with closed := true } (closeSc r.state).1 (closeSc r.state).2 r.offset).1 := if_neg hst
    rw [hcl] at c10
    rw [hfk] at c8
    have hF : Fine M r := hM.elim (fun h => absurd (Or.inl h) hst) (fun h => h.elim (fun h => absurd hfk h) id)
    obtain ⟨o1, o2, m1, m2, hu8⟩ := hF
    have hw1 : wrap64 (r.offset - 1) = r.offset - 1 := w64 (by omega) (by omega)
    have d3 := (blk_cell hg1.it.obj 3).trans rfl
    have d5 := (blk_cell hg1.it.obj 5).trans rfl
    have d6 := (blk_cell hg1.it.obj 6).trans rfl
    have d7 := (blk_cell hg1.it.obj 7).trans rfl
    simp only [RS.cells] at d3 d5 d6 d7
    obtain ⟨R, S, B, fv, rv, qv⟩ := x
    dsimp only at *
    clear hst hM h h1 hLR hA1 hgt
    by_cases hu : r.utf = 0
    · rw [if_neg (by simp [hu])] at e
      rw [e]
      obtain ⟨e0, e1, e2, e3, e4, e5, f, hS⟩ : ∃ e0 e1 e2 e3 e4 e5 f, closeSc r.state = (⟨e0, e1, e2, e3, e4, e5⟩, f) := ⟨_, _, _, _, _, _, _, rfl⟩
      obtain ⟨r5, b, hE5⟩ : ∃ r5 b, eventR { r with closed := true } ⟨e0, e1, e2, e3, e4, e5⟩ f r.offset = (r5, b) := ⟨_, _, rfl⟩
      have hsc := fun w => sclose_calls r.state w
      rw [hS] at hsc ⊢
      dsimp only [Ev.cells] at hsc ⊢
      rw [hE5]
      dsimp only
      have hu' : (r.utf : Int) = 0 := by omega
      rw [hu'] at c5 d5
      have HE5 : Hid (eventR { r with closed := true } ⟨e0, e1, e2, e3, e4, e5⟩ f r.offset = (r5, b)) := hE5
      clear hE5 hS e hu hu'
      have HG1 : Hid (RGo n0 _ W1 _ _ _) := hg1
      clear hg1
      go_enter Tryd.func12, Tryd.ntmps12
      go_wp2_with (first
        | (go_at_call 30; (with_reducible refine (hsc _).mono ?_); rintro e w2 ⟨rfl, hA2⟩; have hg2 := RGo.more HG1.out hA2; have hg3 := hg2.more (Acts.alloc _ _ (.cells #[.bool e0, .bool e1, .bool e2, .bool e3, .bool e4, .int .u8 e5] 77)); have hec := event_calls n0 _ _ ⟨e0, e1, e2, e3, e4, e5⟩ f r.offset _ hg3.it hN.1 (by have := hN.2.1; dsimp only; omega) (by have := hN.2.2; dsimp only; omega); rw [HE5.out] at hec; dsimp only [Ev.cells] at hec; clear hg2)
        | (go_at_call 31; (with_reducible refine hec.mono ?_); rintro e w5 ⟨rfl, ⟨R5, S5, B5, fv5, rv5, qv5⟩, hg5⟩; have hR5 := hg5.new.R.symm; dsimp only at hR5; subst hR5; have hgf := RGo.trans hg3 hg5; clear hec hg3 hg5; have hE := HEnd.out _ _ _ hgf; have l0 := (blk_cell hE.1 0).trans rfl; have l1 := (blk_cell hE.1 1).trans rfl; have k0 := blk_frozen hE.1 0; have k1 := blk_frozen hE.1 1; have d8 := (blk_cell hgf.it.obj 8).trans rfl; have d9 := (blk_cell hgf.it.obj 9).trans rfl; simp only [RS.cells] at d8 d9))
      refine bodyPost_ret (results_cell_row rfl _ _ W.heap.size 35 #[.int .i64 r5.fk, .int .i64 r5.fat] (0, 0) _ rfl (hE.2 _ _).2 Tryd.underlying35 rfl (by kernel_rfl)) rfl ?_
      exact ⟨rfl, _, (hE.2 _ _).1⟩
    · rw [if_pos hu] at e
      rw [e]
      obtain ⟨r6, b6, hT6⟩ : ∃ r6 b6, takeL (r.offset - 1) (closeS r.mark).2.length 0 (closeS r.mark).2 { r with closed := true, mark := (closeS r.mark).1 } = (r6, b6) := ⟨_, _, rfl⟩
      have hcut : cutR { r with closed := true } 12 = if b6 = true then wrongR r6 12 r.offset else r6 := by
        unfold cutR
        dsimp only
        rw [hT6]
      rw [hcut]
      have hu' : ¬ (r.utf : Int) = 0 := by omega
      clear hcut e
      cases b6 with
      | false =>
        rw [if_neg (by decide)]
        go_enter Tryd.func12, Tryd.ntmps12
        go_wp2_with (first
          | (go_at_call 27; (with_reducible refine (close_calls S r.mark _ hg1.it.st m1 m2).mono ?_); rintro e w2 ⟨v', g', cap', rfl, hB, hS, hA2⟩; have hg2 := hg1.trans (hg1.it.strip hS hA2); have ht := rtake_calls n0 _ _ (r.offset - 1) _ v' _ N w2 hg2.it hN (by have := closeS_len r.mark m2; omega) (.inr ⟨_, _, hB⟩) (fun k hk e => by have h3 := hg1.it.rc_lt k e; have h4 := hB.new; have h5 := hB.blk k hk; omega) (closeS_len r.mark m2) (by omega); rw [hT6] at ht; dsimp only at ht)
          | (go_at_call 26; (with_reducible refine ht.mono ?_); rintro e w5 ⟨rfl, ⟨R5, S5, B5, fv5, rv5, qv5⟩, hg5⟩; have hR5 := hg5.new.R.symm; dsimp only at hR5; subst hR5; have hgf := hg2.trans hg5; have hE := HEnd.out _ _ _ hgf; have l0 := (blk_cell hE.1 0).trans rfl; have l1 := (blk_cell hE.1 1).trans rfl; have k0 := blk_frozen hE.1 0; have k1 := blk_frozen hE.1 1; have d8 := (blk_cell hgf.it.obj 8).trans rfl; have d9 := (blk_cell hgf.it.obj 9).trans rfl; simp only [RS.cells] at d8 d9))
        refine bodyPost_ret (results_cell_row rfl _ _ W.heap.size 35 #[.int .i64 r6.fk, .int .i64 r6.fat] (0, 0) _ rfl (hE.2 _ _).2 Tryd.underlying35 rfl (by kernel_rfl)) rfl ?_
        exact ⟨rfl, _, (hE.2 _ _).1⟩
      | true =>
        rw [if_pos rfl]
        go_enter Tryd.func12, Tryd.ntmps12
        go_wp2_with (first
          | (go_at_call 27; (with_reducible refine (close_calls S r.mark _ hg1.it.st m1 m2).mono ?_); rintro e w2 ⟨v', g', cap', rfl, hB, hS, hA2⟩; have hg2 := hg1.trans (hg1.it.strip hS hA2); have ht := rtake_calls n0 _ _ (r.offset - 1) _ v' _ N w2 hg2.it hN (by have := closeS_len r.mark m2; omega) (.inr ⟨_, _, hB⟩) (fun k hk e => by have h3 := hg1.it.rc_lt k e; have h4 := hB.new; have h5 := hB.blk k hk; omega) (closeS_len r.mark m2) (by omega); rw [hT6] at ht; dsimp only at ht)
          | (go_at_call 26; (with_reducible refine ht.mono ?_); rintro e w5 ⟨rfl, ⟨R5, S5, B5, fv5, rv5, qv5⟩, hg5⟩; have hR5 := hg5.new.R.symm; dsimp only at hR5; subst hR5; have hg6 := hg2.trans hg5)
          | (go_at_call 28; (with_reducible refine (wrong_calls n0 _ _ 12 r.offset w5 hg6.it).mono ?_); rintro e w6 ⟨rfl, x6, hg7⟩; have hgf := hg6.trans hg7; have hR6 := hg7.new.R; obtain ⟨R6, S6, B6, fv6, rv6, qv6⟩ := x6; have hR7 := hR6.symm; clear hR6; dsimp only at hR7; subst hR7; have hE := HEnd.out _ _ _ hgf; have l0 := (blk_cell hE.1 0).trans rfl; have l1 := (blk_cell hE.1 1).trans rfl; have k0 := blk_frozen hE.1 0; have k1 := blk_frozen hE.1 1; have d8 := (blk_cell hgf.it.obj 8).trans rfl; have d9 := (blk_cell hgf.it.obj 9).trans rfl; simp only [RS.cells] at d8 d9))
        refine bodyPost_ret (results_cell_row rfl _ _ W.heap.size 35 #[.int .i64 (wrongR r6 12 r.offset).fk, .int .i64 (wrongR r6 12 r.offset).fat] (0, 0) _ rfl (hE.2 _ _).2 Tryd.underlying35 rfl (by kernel_rfl)) rfl ?_
        exact ⟨rfl, _, (hE.2 _ _).1⟩
end Go.Proofs.YtmignbhpofmgeaaDoor.Top
namespace Go.Proofs.YtmignbhpofmgeaaDoor.Top
open Go.RowKit Go.Proofs.YtmignbhpofmgeaaDoorW.PrintWords Go.Proofs.YtmignbhpofmgeaaDoorW.PrintLast Go.Proofs.YtmignbhpofmgeaaDoorW.PrintMore Go.Proofs.YtmignbhpofmgeaaDoor.Iter
set_option linter.unusedVariables false
set_option linter.unusedSimpArgs false
theorem right_parts {de qu en F Fs R : Int} (U : Bool) (h : rightB de qu en F Fs R = true) (hd : 0 ≤ de ∧ de ≤ 255) (hq : 0 ≤ qu ∧ qu ≤ 255) : PTopSticky.dialect_Check.f de qu en = some 0 ∧ PTopSticky.dialect_CheckLimits.f F Fs R U = some 0 ∧ F ≤ 2147483648 := by
  have e1 : wrap64 de = de := w64 (by omega) (by omega)
  have e2 : wrap64 qu = qu := w64 (by omega) (by omega)
  unfold rightB at h
  rw [e1, e2] at h
  simp only [Bool.and_eq_true, Bool.or_eq_true, decide_eq_true_eq] at h
  obtain ⟨⟨⟨h1, h2⟩, h3, h4⟩, ⟨h5, h6⟩, h7⟩ := h
  obtain ⟨a1, a2, a3, a4⟩ := okB_whole h1
  obtain ⟨b1, b2, b3, b4⟩ := okB_whole h2
  have a3' : ¬ de = 10 := by simpa using a3
  have a4' : ¬ de = 13 := by simpa using a4
  have b3' : ¬ qu = 10 := by simpa using b3
  have b4' : ¬ qu = 13 := by simpa using b4
  obtain ⟨c1, c2⟩ := okN_whole h5
  obtain ⟨d1, d2⟩ := okN_whole h6
  obtain ⟨g1, g2⟩ := okN_whole h7
  refine ⟨?_, ?_, by omega⟩
  · have p1 : PTopSticky.dialect_plain.f de = some true := by
      unfold PTopSticky.dialect_plain.f
      rw [if_pos (by omega), if_neg a4']
      simp [a3']
    have p2 : PTopSticky.dialect_plain.f qu = some true := by
      unfold PTopSticky.dialect_plain.f
      rw [if_pos (by omega), if_neg b4']
      simp [b3']
    unfold PTopSticky.dialect_Check.f
    rw [p1, p2]
    simp only [Option.bind_some, if_true]
    rw [if_neg h3, if_neg (by omega), if_neg (by omega)]
  · unfold PTopSticky.dialect_CheckLimits.f
    have m1 : ¬ mn (mn F Fs) R < 1 := by unfold mn; split <;> split <;> omega
    have m2 : ¬ mx (mx F Fs) R > 2147483648 := by unfold mx; split <;> split <;> omega
    rw [if_neg m1, if_neg m2]
theorem cutR_fk (r : RS) (k : Int) (hk : k ≠ 0) : (cutR r k).fk ≠ 0 ∧ (cutR r k).closed = r.closed := by
  obtain ⟨h1, h2, h3, h4, h5⟩ := takeL_keeps (a := r.offset - 1) (n := (closeS r.mark).2.length) (closeS r.mark).2 0 { r with mark := (closeS r.mark).1 }
  unfold cutR
  split
  · exact ⟨hk, h3⟩
  · rename_i ht
    exact ⟨h5 (by simpa using ht), h3⟩
theorem stepR_fk (r : RS) (c : Int) : ((stepR r c).2 = true → (stepR r c).1.fk = r.fk ∧ (stepR r c).1.fat = r.fat) ∧ ((stepR r c).2 = false → (stepR r c).1.fk ≠ 0) ∧ (stepR r c).1.closed = r.closed := by
  unfold stepR
  split
  · obtain ⟨h1, h2, h3, h4, h5⟩ := takeL_keeps (a := r.offset) (n := (feedS r.mark c).2.length) (feedS r.mark c).2 0 { r with utf := (stepU r.utf c).1.toNat, offset := r.offset + 1, mark := (feedS r.mark c).1 }
    exact ⟨fun h => ⟨(h4 h).2.1, (h4 h).2.2⟩, h5, h3⟩
  · exact ⟨(fun h => by cases h), (fun _ => (cutR_fk r 3 (by decide)).1), (cutR_fk r 3 (by decide)).2⟩
theorem feedL_fk : ∀ (xs : List Int) (r : RS), ((feedL xs r).fk = 0 → (feedL xs r).fat = r.fat) ∧ (feedL xs r).closed = r.closed
  | [], r => ⟨fun _ => rfl, rfl⟩
  | c :: cs, r => by
    obtain ⟨h1, h2, h3⟩ := stepR_fk r c
    unfold feedL
    split
    · rename_i ht
      obtain ⟨g1, g2⟩ := feedL_fk cs (stepR r c).1
      exact ⟨fun h => (g1 h).trans (h1 ht).2, g2.trans h3⟩
    · rename_i ht
      exact ⟨fun h => absurd h (h2 (by simpa using ht)), h3⟩
theorem feedL_small : ∀ (xs : List Int) (N M : Nat) (r : RS), Small N r → Fine M r → Small (N + 8 * xs.length) (feedL xs r)
  | [], N, M, r, h, _ => h
  | c :: cs, N, M, r, h, hf => by
    have hs := Small.step h hf.2.2.2.1 c
    unfold feedL
    split
    · rename_i ht
      exact (feedL_small cs (N + 8) (M + 1) _ hs (hf.step c ht)).mono (by simp only [List.length_cons]; omega)
    · exact hs.mono (by simp only [List.length_cons]; omega)
theorem Utf.up {n0 n1 : Nat} {W : World} (h : Utf n0 W) (h1 : n0 ≤ n1) (h2 : n1 ≤ W.heap.size) : Utf n1 W :=
  ⟨h2, fun i hi => let ⟨g, o, c, hh⟩ := h.2 i hi; ⟨g, o, c, ⟨Nat.lt_of_lt_of_le hh.low h1, hh.head, hh.cap, hh.from_, hh.to_, hh.next_⟩⟩⟩
/-- A text's bytes. -/
def bytesOf (s : ByteArray) : List Int := s.data.toList.map (fun b => (b.toNat : Int))
theorem bytesOf_len (s : ByteArray) : (bytesOf s).length = s.size := by unfold bytesOf; rw [List.length_map, Array.length_toList]; rfl
/-- The converted text is a piece. -/
theorem barg_conv {n0 : Nat} {x : RV} {r : RS} {W : World} (h : RAt n0 x r W) (s : ByteArray) : BArg x (Lib.bytesWorld W 5 s) (.slice (some ⟨W.heap.size, 0, none⟩) s.size (grownCap W s.size 0 5)) (bytesOf s) := by
  have hB := bytes_conv W s (bytesOf s) rfl
  refine ⟨_, _, by rw [bytesOf_len], fun i y hi => ⟨_, rfl, hB.lt, fun e => by have := h.rc_lt _ e; omega, hB.cell i y hi⟩⟩
end Go.Proofs.YtmignbhpofmgeaaDoor.Top
namespace Go.Proofs.YtmignbhpofmgeaaDoor.Top
open Go.RowKit Go.Proofs.YtmignbhpofmgeaaDoorW.PrintWords Go.Proofs.YtmignbhpofmgeaaDoorW.PrintLast Go.Proofs.YtmignbhpofmgeaaDoorW.PrintMore Go.Proofs.YtmignbhpofmgeaaDoor.Iter
set_option linter.unusedVariables false
set_option linter.unusedSimpArgs false
/-- What the events turn: the scanner's state, the Maker, the records. -/
structure Core where
  st : Int
  m : MS
  rows : List (List ByteArray)
def RS.core (r : RS) : Core := ⟨r.state, r.maker, r.ready⟩
/-- One byte's event, where it goes through. -/
def goE (ev : Ev) (f : Int) (nx : Int) (c : Core) : Option Core :=
  if f = 0 ∧ (takeM c.m ev).2.2.2 = 0 then some ⟨nx, (takeM c.m ev).1, if (takeM c.m ev).2.2.1 = true then c.rows ++ [(takeM c.m ev).2.1] else c.rows⟩ else none
def go1 (de qu en : Int) (c : Core) (b : Int) : Option Core := goE (scanS de qu en c.st b).1 (scanS de qu en c.st b).2.2 (scanS de qu en c.st b).2.1 c
def goC (de qu en : Int) : Core → List Int → Option Core
  | c, [] => some c
  | c, b :: bs => (go1 de qu en c b).bind fun c' => goC de qu en c' bs
theorem goC_app (de qu en : Int) : ∀ (xs ys : List Int) (c : Core), goC de qu en c (xs ++ ys) = (goC de qu en c xs).bind fun c' => goC de qu en c' ys
  | [], ys, c => rfl
  | b :: bs, ys, c => by
    rw [List.cons_append, goC, goC]
    cases go1 de qu en c b with
    | none => rfl
    | some c' => exact goC_app de qu en bs ys c'
theorem event_go (r : RS) (ev : Ev) (f nx a : Int) : ((eventR { r with state := nx } ev f a).2 = true ↔ (goE ev f nx r.core).isSome = true) ∧
    ((eventR { r with state := nx } ev f a).2 = true → goE ev f nx r.core = some (eventR { r with state := nx } ev f a).1.core ∧ (eventR { r with state := nx } ev f a).1.de = r.de ∧ (eventR { r with state := nx } ev f a).1.qu = r.qu ∧ (eventR { r with state := nx } ev f a).1.en = r.en) := by
  unfold eventR goE RS.core
  by_cases h1 : f = 0
  · by_cases h2 : (takeM r.maker ev).2.2.2 = 0
    · simp [h1, h2]
    · simp [h1, h2]
  · simp [h1]
theorem takeL_go {a : Int} {n : Nat} : ∀ (xs : List Int) (i : Nat) (r : RS), ((takeL a n i xs r).2 = true ↔ (goC r.de r.qu r.en r.core xs).isSome = true) ∧
    ((takeL a n i xs r).2 = true → goC r.de r.qu r.en r.core xs = some (takeL a n i xs r).1.core ∧ (takeL a n i xs r).1.de = r.de ∧ (takeL a n i xs r).1.qu = r.qu ∧ (takeL a n i xs r).1.en = r.en)
  | [], i, r => ⟨⟨fun _ => rfl, fun _ => rfl⟩, fun _ => ⟨rfl, rfl, rfl, rfl⟩⟩
  | c :: cs, i, r => by
    obtain ⟨e1, e2⟩ := event_go r (scanS r.de r.qu r.en r.state c).1 (scanS r.de r.qu r.en r.state c).2.2 (scanS r.de r.qu r.en r.state c).2.1 (a - n + 1 + i)
    have hg : go1 r.de r.qu r.en r.core c = goE (scanS r.de r.qu r.en r.state c).1 (scanS r.de r.qu r.en r.state c).2.2 (scanS r.de r.qu r.en r.state c).2.1 r.core := rfl
    rw [goC, hg]
    unfold takeL
    split
    · rename_i ht
      obtain ⟨h1, h2, h3, h4⟩ := e2 ht
      obtain ⟨g1, g2⟩ := takeL_go cs (i + 1) (eventR { r with state := (scanS r.de r.qu r.en r.state c).2.1 } (scanS r.de r.qu r.en r.state c).1 (scanS r.de r.qu r.en r.state c).2.2 (a - n + 1 + i)).1
      rw [h2, h3, h4] at g1 g2
      rw [h1]
      exact ⟨g1, g2⟩
    · rename_i ht
      have hn : goE (scanS r.de r.qu r.en r.state c).1 (scanS r.de r.qu r.en r.state c).2.2 (scanS r.de r.qu r.en r.state c).2.1 r.core = none := by
        cases hx : goE (scanS r.de r.qu r.en r.state c).1 (scanS r.de r.qu r.en r.state c).2.2 (scanS r.de r.qu r.en r.state c).2.1 r.core with
        | none => rfl
        | some y => exact absurd (e1.2 (by rw [hx]; rfl)) ht
      rw [hn]
      exact ⟨⟨fun h => (by cases h), fun h => (by cases h)⟩, fun h => (by cases h)⟩
/-- UTF-8, byte by byte. -/
def runU : Nat → List Int → Option Nat
  | u, [] => some u
  | u, b :: bs => if (stepU u b).2 = true then runU (stepU u b).1.toNat bs else none
theorem runU_app : ∀ (xs ys : List Int) (u : Nat), runU u (xs ++ ys) = (runU u xs).bind fun v => runU v ys
  | [], ys, u => rfl
  | b :: bs, ys, u => by
    rw [List.cons_append, runU, runU]
    split
    · exact runU_app bs ys _
    · rfl
/-- What the Stripper hands on, in all. -/
def feedSL : SS → List Int → SS × List Int
  | s, [] => (s, [])
  | s, b :: bs => ((feedSL (feedS s b).1 bs).1, (feedS s b).2 ++ (feedSL (feedS s b).1 bs).2)
/-- Feeding that goes through. -/
theorem feedL_go : ∀ (xs : List Int) (r : RS), r.fk = 0 →
    ((feedL xs r).fk = 0 ↔ (runU r.utf xs).isSome = true ∧ (goC r.de r.qu r.en r.core (feedSL r.mark xs).2).isSome = true) ∧
    ((feedL xs r).fk = 0 → runU r.utf xs = some (feedL xs r).utf ∧ goC r.de r.qu r.en r.core (feedSL r.mark xs).2 = some (feedL xs r).core ∧ (feedL xs r).mark = (feedSL r.mark xs).1)
  | [], r, h => ⟨⟨fun _ => ⟨rfl, rfl⟩, fun _ => h⟩, fun _ => ⟨rfl, rfl, rfl⟩⟩
  | b :: bs, r, h => by
    obtain ⟨f1, f2, f3⟩ := stepR_fk r b
    by_cases hu : (stepU r.utf b).2 = true
    · have hs : stepR r b = takeL r.offset (feedS r.mark b).2.length 0 (feedS r.mark b).2 { r with utf := (stepU r.utf b).1.toNat, offset := r.offset + 1, mark := (feedS r.mark b).1 } := by unfold stepR; rw [if_pos hu]
      obtain ⟨t1, t2⟩ := takeL_go (a := r.offset) (n := (feedS r.mark b).2.length) (feedS r.mark b).2 0 { r with utf := (stepU r.utf b).1.toNat, offset := r.offset + 1, mark := (feedS r.mark b).1 }
      obtain ⟨k1, k2, _, _, _⟩ := takeL_keeps (a := r.offset) (n := (feedS r.mark b).2.length) (feedS r.mark b).2 0 { r with utf := (stepU r.utf b).1.toNat, offset := r.offset + 1, mark := (feedS r.mark b).1 }
      rw [← hs] at t1 t2 k1 k2
      have hcore : ({ r with utf := (stepU r.utf b).1.toNat, offset := r.offset + 1, mark := (feedS r.mark b).1 } : RS).core = r.core := rfl
      rw [hcore] at t1 t2
      dsimp only at t1 t2 k1 k2
      have hr : runU r.utf (b :: bs) = runU (stepU r.utf b).1.toNat bs := by rw [runU, if_pos hu]
      rw [hr]
      have hfs : (feedSL r.mark (b :: bs)).2 = (feedS r.mark b).2 ++ (feedSL (feedS r.mark b).1 bs).2 := rfl
      have hfm : (feedSL r.mark (b :: bs)).1 = (feedSL (feedS r.mark b).1 bs).1 := rfl
      rw [hfs, hfm, goC_app]
      unfold feedL
      by_cases ht : (stepR r b).2 = true
      · rw [if_pos ht]
        obtain ⟨q1, q2, q3, q4⟩ := t2 ht
        obtain ⟨i1, i2⟩ := feedL_go bs (stepR r b).1 ((f1 ht).1.trans h)
        rw [q2, q3, q4, k1, k2] at i1 i2
        rw [q1, Option.bind_some]
        exact ⟨i1, i2⟩
      · rw [if_neg ht]
        have hn : goC r.de r.qu r.en r.core (feedS r.mark b).2 = none := by
          cases hx : goC r.de r.qu r.en r.core (feedS r.mark b).2 with
          | none => rfl
          | some y => exact absurd (t1.2 (by rw [hx]; rfl)) ht
        rw [hn]
        have hk := f2 (by simpa using ht)
        exact ⟨⟨fun h => absurd h hk, fun h => (by cases h.2)⟩, fun h => absurd h hk⟩
    · have hs : stepR r b = (cutR r 3, false) := by unfold stepR; rw [if_neg hu]
      have hr : runU r.utf (b :: bs) = none := by rw [runU, if_neg hu]
      unfold feedL
      rw [hs, if_neg (fun h => (by cases h)), hr]
      have hk := (cutR_fk r 3 (by decide)).1
      exact ⟨⟨fun h => absurd h hk, fun h => (by cases h.1)⟩, fun h => absurd h hk⟩
/-- The Stripper that was handed nothing. -/
def s0 : SS := ⟨0, false, false, false⟩
theorem feedSL_over : ∀ (xs : List Int) (s : SS), s.over = true → s.closed = false → feedSL s xs = (s, xs)
  | [], s, h, hc => rfl
  | b :: bs, s, h, hc => by
    have e : feedS s b = (s, [b]) := by simp [feedS, h, hc]
    rw [feedSL, e]
    dsimp only
    rw [feedSL_over bs s h hc]
    rfl
/-- What the Stripper hands on of a text: all of it, but the mark; where that is held back, nothing. -/
theorem feedSL_all (xs : List Int) : (∃ ys, xs = bomMark ++ ys ∧ (feedSL s0 xs).2 = ys) ∨ (∃ k, k ≤ 2 ∧ xs = bomMark.take k ∧ (feedSL s0 xs).2 = [] ) ∨ (¬ (∃ ys, xs = bomMark ++ ys) ∧ (feedSL s0 xs).2 = xs) := by
  have hov : ∀ had ys, feedSL ⟨0, true, had, false⟩ ys = (⟨0, true, had, false⟩, ys) := fun had ys => feedSL_over ys _ rfl rfl
  match xs with
  | [] => exact .inr (.inl ⟨0, by decide, rfl, rfl⟩)
  | a :: xs =>
    by_cases ha : a = 239
    · subst ha
      have e1 : feedS s0 239 = (⟨1, false, false, false⟩, []) := by simp [feedS, s0, bomMark]
      match xs with
      | [] => exact .inr (.inl ⟨1, by decide, rfl, by rw [feedSL, e1]; rfl⟩)
      | b :: xs =>
        by_cases hb : b = 187
        · subst hb
          have e2 : feedS ⟨1, false, false, false⟩ 187 = (⟨2, false, false, false⟩, []) := by simp [feedS, s0, bomMark]
          match xs with
          | [] => exact .inr (.inl ⟨2, by decide, rfl, by rw [feedSL, e1, feedSL, e2]; rfl⟩)
          | c :: xs =>
            by_cases hc : c = 191
            · subst hc
              have e3 : feedS ⟨2, false, false, false⟩ 191 = (⟨0, true, true, false⟩, []) := by simp [feedS, s0, bomMark]
              refine .inl ⟨xs, rfl, ?_⟩
              rw [feedSL, e1, feedSL, e2, feedSL, e3]
              dsimp only
              rw [hov]
              rfl
            · refine .inr (.inr ⟨?_, ?_⟩)
              · rintro ⟨ys, hy⟩
                simp [bomMark] at hy
                exact hc hy.1
              · have e3 : feedS ⟨2, false, false, false⟩ c = (⟨0, true, false, false⟩, [239, 187, c]) := by simp [feedS, bomMark, hc]
                rw [feedSL, e1, feedSL, e2, feedSL, e3]
                dsimp only
                rw [hov]
                rfl
        · refine .inr (.inr ⟨?_, ?_⟩)
          · rintro ⟨ys, hy⟩
            simp [bomMark] at hy
            exact hb hy.1
          · have e2 : feedS ⟨1, false, false, false⟩ b = (⟨0, true, false, false⟩, [239, b]) := by simp [feedS, bomMark, hb]
            rw [feedSL, e1, feedSL, e2]
            dsimp only
            rw [hov]
            rfl
    · refine .inr (.inr ⟨?_, ?_⟩)
      · rintro ⟨ys, hy⟩
        simp [bomMark] at hy
        exact ha hy.1
      · have e1 : feedS s0 a = (⟨0, true, false, false⟩, [a]) := by simp [feedS, s0, bomMark, ha]
        rw [feedSL, e1]
        dsimp only
        rw [hov]
        rfl
end Go.Proofs.YtmignbhpofmgeaaDoor.Top
namespace Go.Proofs.YtmignbhpofmgeaaDoor.Top
open Go.RowKit Go.Proofs.YtmignbhpofmgeaaDoorW.PrintWords Go.Proofs.YtmignbhpofmgeaaDoorW.PrintLast Go.Proofs.YtmignbhpofmgeaaDoorW.PrintMore Go.Proofs.YtmignbhpofmgeaaDoor.Iter
set_option linter.unusedVariables false
set_option linter.unusedSimpArgs false
/-- A dialect that may be. -/
def okD (de qu en : Int) : Prop := 0 ≤ de ∧ de ≤ 127 ∧ de ≠ 10 ∧ de ≠ 13 ∧ 0 ≤ qu ∧ qu ≤ 127 ∧ qu ≠ 10 ∧ qu ≠ 13 ∧ de ≠ qu ∧ (en = 1 ∨ en = 2 ∨ en = 3)
/-- A Maker without narrow limits. -/
def WM (f : List Int) (r : List ByteArray) (g c w : Int) : MS := ⟨2147483648, 2147483648, 2147483648, false, f, r, g, c, w, 0⟩
def upB (bg : Bool) (g : Int) : Int := if bg = true then g + 1 else g
theorem wrap_small {x : Int} (h1 : 0 ≤ x) (h2 : x ≤ 1000000000) : wrap64 (x + 1) = x + 1 := w64 (by omega) (by omega)
theorem tk_add (f : List Int) (r : List ByteArray) (g c w b : Int) (bg : Bool) (hf : f.length ≤ 1000000000) (h1 : 0 ≤ g) (h2 : g ≤ 1000000000) : takeM (WM f r g c w) ⟨bg, true, false, false, false, b⟩ = (WM (f ++ [b]) r (upB bg g) c w, [], false, 0) := by
  have hb : ¬ (g ≥ 2147483648) := by omega
  have hl : ¬ ((f.length : Int) ≥ 2147483648) := by omega
  cases bg <;> simp [takeM, take1, gatherM, gather3, gather2, gather1, beginM, addM, WM, upB, hb, hl, wrap_small h1 h2]
theorem tk_begin (f : List Int) (r : List ByteArray) (g c w b : Int) (bg : Bool) (h1 : 0 ≤ g) (h2 : g ≤ 1000000000) : takeM (WM f r g c w) ⟨bg, false, false, false, false, b⟩ = (WM f r (upB bg g) c w, [], false, 0) := by
  have hb : ¬ (g ≥ 2147483648) := by omega
  cases bg <;> simp [takeM, take1, gatherM, gather3, gather2, gather1, beginM, WM, upB, hb, wrap_small h1 h2]
theorem tk_field (f : List Int) (r : List ByteArray) (g c w b : Int) (bg : Bool) (hr : r.length ≤ 1000000000) (h1 : 0 ≤ g) (h2 : g ≤ 1000000000) : takeM (WM f r g c w) ⟨bg, false, true, false, false, b⟩ = (WM [] (r ++ [strOfNums f]) (upB bg g) c w, [], false, 0) := by
  have hb : ¬ (g ≥ 2147483648) := by omega
  have hl : ¬ ((r.length : Int) + 1 ≥ 2147483648) := by omega
  cases bg <;> simp [takeM, take1, gatherM, gather3, gather2, gather1, beginM, nextM, putM, uniM, WM, upB, hb, hl, wrap_small h1 h2]
theorem tk_line (f : List Int) (r : List ByteArray) (g c w b : Int) : takeM (WM f r g c w) ⟨false, false, false, true, false, b⟩ = (WM [] (r ++ [strOfNums f]) g c w, [], false, 0) := by
  simp [takeM, take1, gatherM, gather3, gather2, gather1, lineM, putM, uniM, WM]
theorem tk_whole (f : List Int) (r : List ByteArray) (g c w b : Int) (h1 : 0 ≤ c) (h2 : c ≤ 1000000000) : ∃ w', takeM (WM f r g c w) ⟨false, false, false, true, true, b⟩ = (WM [] [] g (c + 1) w', r ++ [strOfNums f], true, 0) := by
  refine ⟨if c = 0 then ((r ++ [strOfNums f]).length : Int) else w, ?_⟩
  simp [takeM, take1, gatherM, gather3, gather2, gather1, lineM, putM, uniM, handed, WM, wrap_small h1 h2]
theorem tk_rec (f : List Int) (r : List ByteArray) (g c w b : Int) (h1 : 0 ≤ c) (h2 : c ≤ 1000000000) : ∃ w', takeM (WM f r g c w) ⟨false, false, false, false, true, b⟩ = (WM f [] g (c + 1) w', r, true, 0) := by
  refine ⟨if c = 0 then (r.length : Int) else w, ?_⟩
  simp [takeM, take1, gatherM, gather3, gather2, gather1, handed, WM, wrap_small h1 h2]
theorem sc_bare {de qu en : Int} {st b : Int} (hs : st = 0 ∨ st = 1 ∨ st = 2) (h1 : b ≠ de) (h2 : b ≠ qu) (h3 : b ≠ 10) (h4 : b ≠ 13) : scanS de qu en st b = (⟨st == 0, true, false, false, false, b⟩, 2, 0) := by
  rcases hs with rfl | rfl | rfl <;> simp [scanS, PTopSticky.scan_Step.f, PTopSticky.scan_Step.j0, PTopSticky.scan_Step.j1, PTopSticky.scan_Step.j2, PTopSticky.scan_Step.j3, h1, h2, h3, h4]
theorem sc_delim {de qu en : Int} (h : okD de qu en) {st : Int} (hs : st = 0 ∨ st = 1 ∨ st = 2 ∨ st = 4) : scanS de qu en st de = (⟨st == 0, false, true, false, false, 0⟩, 1, 0) := by
  have hn : ¬ de = qu := h.2.2.2.2.2.2.2.2.1
  rcases hs with rfl | rfl | rfl | rfl <;> simp [scanS, PTopSticky.scan_Step.f, PTopSticky.scan_Step.j0, PTopSticky.scan_Step.j1, hn]
theorem sc_open {de qu en : Int} (h : okD de qu en) {st : Int} (hs : st = 0 ∨ st = 1) : scanS de qu en st qu = (⟨st == 0, false, false, false, false, 0⟩, 3, 0) := by
  obtain ⟨_, _, _, _, _, _, h1, h2, h3, _⟩ := h
  have hn : ¬ qu = de := fun e => h3 e.symm
  rcases hs with rfl | rfl <;> simp [scanS, PTopSticky.scan_Step.f, PTopSticky.scan_Step.j0, PTopSticky.scan_Step.j1, PTopSticky.scan_Step.j2, PTopSticky.scan_Step.j3, hn, h1, h2]
theorem sc_in {de qu en b : Int} (h : b ≠ qu) : scanS de qu en 3 b = (⟨false, true, false, false, false, b⟩, 3, 0) := by
  simp [scanS, PTopSticky.scan_Step.f, PTopSticky.scan_Step.j0, PTopSticky.scan_Step.j1, h]
theorem sc_inq {de qu en : Int} : scanS de qu en 3 qu = (⟨false, false, false, false, false, 0⟩, 4, 0) := by
  simp [scanS, PTopSticky.scan_Step.f, PTopSticky.scan_Step.j0]
theorem sc_two {de qu en : Int} : scanS de qu en 4 qu = (⟨false, true, false, false, false, qu⟩, 3, 0) := by
  simp [scanS, PTopSticky.scan_Step.f, PTopSticky.scan_Step.j0, PTopSticky.scan_Step.j1]
theorem sc_lf {de qu en : Int} (h : okD de qu en) (he : en ≠ 2) {st : Int} (hs : st = 1 ∨ st = 2 ∨ st = 4) : scanS de qu en st 10 = (⟨false, false, false, true, true, 0⟩, 0, 0) := by
  obtain ⟨_, _, h1, h2, _, _, h3, h4, _, _⟩ := h
  have e1 : ¬ (10 : Int) = de := fun e => h1 e.symm
  have e2 : ¬ (10 : Int) = qu := fun e => h3 e.symm
  rcases hs with rfl | rfl | rfl <;> simp [scanS, PTopSticky.scan_Step.f, PTopSticky.scan_Step.j0, PTopSticky.scan_Step.j1, PTopSticky.scan_Step.j2, PTopSticky.scan_ends.f, PTopSticky.scan_ends.j0, e1, e2, he]
theorem sc_cr {de qu : Int} (h : okD de qu 2) {st : Int} (hs : st = 1 ∨ st = 2 ∨ st = 4) : scanS de qu 2 st 13 = (⟨false, false, false, true, false, 0⟩, 5, 0) := by
  obtain ⟨_, _, h1, h2, _, _, h3, h4, _, _⟩ := h
  have e1 : ¬ (13 : Int) = de := fun e => h2 e.symm
  have e2 : ¬ (13 : Int) = qu := fun e => h4 e.symm
  rcases hs with rfl | rfl | rfl <;> simp [scanS, PTopSticky.scan_Step.f, PTopSticky.scan_Step.j0, PTopSticky.scan_Step.j1, PTopSticky.scan_Step.j2, PTopSticky.scan_ends.f, PTopSticky.scan_ends.j0, e1, e2]
theorem sc_crlf {de qu en : Int} : scanS de qu en 5 10 = (⟨false, false, false, false, true, 0⟩, 0, 0) := by
  simp [scanS, PTopSticky.scan_Step.f, PTopSticky.scan_pending.f]
end Go.Proofs.YtmignbhpofmgeaaDoor.Top
namespace Go.Proofs.YtmignbhpofmgeaaDoor.Top
open Go.RowKit Go.Proofs.YtmignbhpofmgeaaDoorW.PrintWords Go.Proofs.YtmignbhpofmgeaaDoorW.PrintLast Go.Proofs.YtmignbhpofmgeaaDoorW.PrintMore Go.Proofs.YtmignbhpofmgeaaDoor.Iter
set_option linter.unusedVariables false
set_option linter.unusedSimpArgs false
/-- A field in quotes. -/
def dupB (qu : Int) (f : List Int) : List Int := f.flatMap (fun b => if b = qu then [qu, b] else [b])
def quotedB (qu : Int) (f : List Int) : List Int := qu :: (dupB qu f ++ [qu])
/-- A field without what must be quoted. -/
def plainB (de qu : Int) (f : List Int) : Prop := ∀ b ∈ f, b ≠ de ∧ b ≠ qu ∧ b ≠ 10 ∧ b ≠ 13
theorem go1_of {de qu en : Int} {c : Core} {b : Int} {ev : Ev} {nx : Int} {m' : MS} {l : List ByteArray} {ok : Bool} (hs : scanS de qu en c.st b = (ev, nx, 0)) (ht : takeM c.m ev = (m', l, ok, 0)) : go1 de qu en c b = some ⟨nx, m', if ok = true then c.rows ++ [l] else c.rows⟩ := by
  unfold go1 goE
  rw [hs]
  dsimp only
  rw [ht]
  simp
theorem goC_cons {de qu en : Int} {c c' : Core} {b : Int} {bs : List Int} (h : go1 de qu en c b = some c') : goC de qu en c (b :: bs) = goC de qu en c' bs := by rw [goC, h]; rfl
theorem go_dup {de qu en : Int} (r : List ByteArray) (g c w : Int) (rows : List (List ByteArray)) (hg : 0 ≤ g ∧ g ≤ 1000000000) : ∀ (f fl : List Int), fl.length + f.length ≤ 1000000000 → goC de qu en ⟨3, WM fl r g c w, rows⟩ (dupB qu f) = some ⟨3, WM (fl ++ f) r g c w, rows⟩
  | [], fl, h => by simp [dupB, goC]
  | b :: bs, fl, h => by
    simp only [List.length_cons] at h
    have ih := go_dup (de := de) (qu := qu) (en := en) r g c w rows hg bs (fl ++ [b]) (by simp; omega)
    rw [List.append_assoc, List.singleton_append] at ih
    by_cases hb : b = qu
    · subst hb
      have e : dupB b (b :: bs) = b :: b :: dupB b bs := by simp [dupB]
      rw [e, goC_cons (go1_of sc_inq (tk_begin fl r g c w 0 false hg.1 hg.2)), if_neg (by decide), goC_cons (go1_of sc_two (tk_add fl r _ c w b false (by omega) (by simpa [upB] using hg.1) (by simpa [upB] using hg.2)))]
      simpa [upB] using ih
    · have e : dupB qu (b :: bs) = b :: dupB qu bs := by simp [dupB, hb]
      rw [e, goC_cons (go1_of (sc_in hb) (tk_add fl r g c w b false (by omega) hg.1 hg.2))]
      simpa [upB] using ih
theorem go_quoted {de qu en : Int} (hd : okD de qu en) (r : List ByteArray) (g c w : Int) (rows : List (List ByteArray)) (hg : 0 ≤ g ∧ g ≤ 100000000) {st : Int} (hs : st = 0 ∨ st = 1) (f : List Int) (hf : f.length ≤ 1000000000) :
    goC de qu en ⟨st, WM [] r g c w, rows⟩ (quotedB qu f) = some ⟨4, WM f r (upB (st == 0) g) c w, rows⟩ := by
  have hg2 : 0 ≤ upB (st == 0) g ∧ upB (st == 0) g ≤ 1000000000 := by unfold upB; split <;> omega
  unfold quotedB
  rw [goC_cons (go1_of (sc_open hd hs) (tk_begin [] r g c w 0 (st == 0) hg.1 (by omega))), if_neg (by decide), goC_app, go_dup r _ c w rows hg2 f [] (by simpa using hf), Option.bind_some, List.nil_append,
    goC_cons (go1_of sc_inq (tk_begin f r _ c w 0 false hg2.1 hg2.2)), if_neg (by decide)]
  simp [upB, goC]
theorem go_more {de qu en : Int} (r : List ByteArray) (g c w : Int) (rows : List (List ByteArray)) (hg : 0 ≤ g ∧ g ≤ 1000000000) : ∀ (f fl : List Int), plainB de qu f → fl.length + f.length ≤ 1000000000 → goC de qu en ⟨2, WM fl r g c w, rows⟩ f = some ⟨2, WM (fl ++ f) r g c w, rows⟩
  | [], fl, _, h => by simp [goC]
  | b :: bs, fl, hp, h => by
    simp only [List.length_cons] at h
    have ih := go_more (de := de) (qu := qu) (en := en) r g c w rows hg bs (fl ++ [b]) (fun x hx => hp x (List.mem_cons_of_mem _ hx)) (by simp; omega)
    rw [List.append_assoc, List.singleton_append] at ih
    obtain ⟨p1, p2, p3, p4⟩ := hp b (List.mem_cons_self ..)
    rw [goC_cons (go1_of (sc_bare (.inr (.inr rfl)) p1 p2 p3 p4) (tk_add fl r g c w b _ (by omega) hg.1 hg.2))]
    simpa [upB] using ih
theorem go_bare {de qu en : Int} (r : List ByteArray) (g c w : Int) (rows : List (List ByteArray)) (hg : 0 ≤ g ∧ g ≤ 100000000) {st : Int} (hs : st = 0 ∨ st = 1) (f : List Int) (hp : plainB de qu f) (hf : f.length ≤ 1000000000) (hne : f ≠ []) :
    goC de qu en ⟨st, WM [] r g c w, rows⟩ f = some ⟨2, WM f r (upB (st == 0) g) c w, rows⟩ := by
  have hg2 : 0 ≤ upB (st == 0) g ∧ upB (st == 0) g ≤ 1000000000 := by unfold upB; split <;> omega
  match f, hne with
  | b :: bs, _ =>
    obtain ⟨p1, p2, p3, p4⟩ := hp b (List.mem_cons_self ..)
    simp only [List.length_cons] at hf
    rw [goC_cons (go1_of (sc_bare (hs.elim .inl (fun h => .inr (.inl h))) p1 p2 p3 p4) (tk_add [] r g c w b _ (by simp) hg.1 (by omega))), if_neg (by decide)]
    rw [go_more r _ c w rows hg2 bs _ (fun x hx => hp x (List.mem_cons_of_mem _ hx)) (by simp; omega)]
    rfl
/-- A field as it may be written: in quotes, or plain. -/
def Wrote (de qu : Int) (f x : List Int) : Prop := x = quotedB qu f ∨ (x = f ∧ plainB de qu f)
/-- Behind a field. -/
theorem go_wrote {de qu en : Int} (hd : okD de qu en) (r : List ByteArray) (g c w : Int) (rows : List (List ByteArray)) (hg : 0 ≤ g ∧ g ≤ 100000000) {st : Int} (hs : st = 0 ∨ st = 1) (f x : List Int) (hx : Wrote de qu f x) (hf : f.length ≤ 1000000000) :
    ∃ st', goC de qu en ⟨st, WM [] r g c w, rows⟩ x = some ⟨st', WM f r (if st' = 0 then g else upB (st == 0) g) c w, rows⟩ ∧ (st' = 1 ∨ st' = 2 ∨ st' = 4 ∨ (st' = 0 ∧ st = 0 ∧ x = [])) := by
  rcases hx with rfl | ⟨rfl, hp⟩
  · exact ⟨4, by rw [go_quoted hd r g c w rows hg hs f hf]; rfl, .inr (.inr (.inl rfl))⟩
  · by_cases hne : x = []
    · subst hne
      rcases hs with rfl | rfl
      · exact ⟨0, rfl, .inr (.inr (.inr ⟨rfl, rfl, rfl⟩))⟩
      · exact ⟨1, rfl, .inl rfl⟩
    · exact ⟨2, by rw [go_bare r g c w rows hg hs x hp hf hne]; rfl, .inr (.inl rfl)⟩
def endB (en : Int) : List Int := if en = 2 then [13, 10] else [10]
/-- The end of a line. -/
theorem go_end {de qu en : Int} (hd : okD de qu en) (f : List Int) (r : List ByteArray) (g c w : Int) (rows : List (List ByteArray)) (hc : 0 ≤ c ∧ c ≤ 1000000000) {st : Int} (hs : st = 1 ∨ st = 2 ∨ st = 4) :
    ∃ w', goC de qu en ⟨st, WM f r g c w, rows⟩ (endB en) = some ⟨0, WM [] [] g (c + 1) w', rows ++ [r ++ [strOfNums f]]⟩ := by
  unfold endB
  by_cases he : en = 2
  · subst he
    rw [if_pos rfl]
    obtain ⟨w', hw⟩ := tk_rec [] (r ++ [strOfNums f]) g c w 0 hc.1 hc.2
    refine ⟨w', ?_⟩
    rw [goC_cons (go1_of (sc_cr hd hs) (tk_line f r g c w 0)), if_neg (by decide), goC_cons (go1_of sc_crlf hw)]
    rfl
  · rw [if_neg he]
    obtain ⟨w', hw⟩ := tk_whole f r g c w 0 hc.1 hc.2
    refine ⟨w', ?_⟩
    rw [goC_cons (go1_of (sc_lf hd he hs) hw)]
    rfl
end Go.Proofs.YtmignbhpofmgeaaDoor.Top
namespace Go.Proofs.YtmignbhpofmgeaaDoor.Top
open Go.RowKit Go.Proofs.YtmignbhpofmgeaaDoorW.PrintWords Go.Proofs.YtmignbhpofmgeaaDoorW.PrintLast Go.Proofs.YtmignbhpofmgeaaDoorW.PrintMore Go.Proofs.YtmignbhpofmgeaaDoor.Iter
set_option linter.unusedVariables false
set_option linter.unusedSimpArgs false
/-- What the scanner may tell of a byte without an error. -/
def Tale (st b nx : Int) (ev : Ev) : Prop :=
  (∃ bg, ev = ⟨bg, true, false, false, false, b⟩ ∧ (nx = 2 ∨ nx = 3)) ∨
  (b ≤ 127 ∧ (nx = 0 ∨ nx = 1 ∨ nx = 3 ∨ nx = 4 ∨ nx = 5 ∨ nx = 6) ∧
    ((∃ bg, ev = ⟨bg, false, true, false, false, 0⟩ ∧ nx ≠ 5) ∨ (∃ bg, ev = ⟨bg, false, false, false, false, 0⟩ ∧ nx ≠ 5) ∨
     (ev = ⟨false, false, false, true, true, 0⟩ ∧ nx ≠ 5) ∨ (ev = ⟨false, false, false, true, false, 0⟩ ∧ nx = 5) ∨ (ev = ⟨false, false, false, false, true, 0⟩ ∧ st = 5 ∧ nx ≠ 5)))
theorem scan_tale {de qu en st b : Int} (hd : okD de qu en) (hst : 0 ≤ st ∧ st ≤ 6) (h : (scanS de qu en st b).2.2 = 0) : Tale st b (scanS de qu en st b).2.1 (scanS de qu en st b).1 := by
  obtain ⟨d0, d1, d2, d3, q0, q1, q2, q3, hn, he⟩ := hd
  have hs : st = 0 ∨ st = 1 ∨ st = 2 ∨ st = 3 ∨ st = 4 ∨ st = 5 ∨ st = 6 := by omega
  have hn' : ¬ de = qu := hn
  have hn2 : ¬ qu = de := fun e => hn e.symm
  unfold Tale
  by_cases b1 : b = de
  · subst b1
    rcases hs with rfl | rfl | rfl | rfl | rfl | rfl | rfl <;> simp [scanS, PTopSticky.scan_Step.f, PTopSticky.scan_Step.j0, PTopSticky.scan_Step.j1, PTopSticky.scan_Step.j2, PTopSticky.scan_Step.j3, PTopSticky.scan_pending.f, hn', d1, d2, d3] at h ⊢
  · by_cases b2 : b = qu
    · subst b2
      rcases hs with rfl | rfl | rfl | rfl | rfl | rfl | rfl <;> simp [scanS, PTopSticky.scan_Step.f, PTopSticky.scan_Step.j0, PTopSticky.scan_Step.j1, PTopSticky.scan_Step.j2, PTopSticky.scan_Step.j3, PTopSticky.scan_pending.f, hn2, q1, q2, q3] at h ⊢
    · by_cases b3 : b = 10
      · subst b3
        rcases he with rfl | rfl | rfl <;> rcases hs with rfl | rfl | rfl | rfl | rfl | rfl | rfl <;> simp [scanS, PTopSticky.scan_Step.f, PTopSticky.scan_Step.j0, PTopSticky.scan_Step.j1, PTopSticky.scan_Step.j2, PTopSticky.scan_Step.j3, PTopSticky.scan_pending.f, PTopSticky.scan_ends.f, PTopSticky.scan_ends.j0, b1, b2] at h ⊢
      · by_cases b4 : b = 13
        · subst b4
          rcases he with rfl | rfl | rfl <;> rcases hs with rfl | rfl | rfl | rfl | rfl | rfl | rfl <;> simp [scanS, PTopSticky.scan_Step.f, PTopSticky.scan_Step.j0, PTopSticky.scan_Step.j1, PTopSticky.scan_Step.j2, PTopSticky.scan_Step.j3, PTopSticky.scan_pending.f, PTopSticky.scan_ends.f, PTopSticky.scan_ends.j0, b1, b2] at h ⊢
        · rcases hs with rfl | rfl | rfl | rfl | rfl | rfl | rfl <;> simp [scanS, PTopSticky.scan_Step.f, PTopSticky.scan_Step.j0, PTopSticky.scan_Step.j1, PTopSticky.scan_Step.j2, PTopSticky.scan_Step.j3, PTopSticky.scan_pending.f, PTopSticky.scan_ends.f, PTopSticky.scan_ends.j0, b1, b2, b3, b4] at h ⊢
/-- A byte below 128 stands between sequences. -/
theorem step_ascii {u : Nat} {b : Int} (hu : u < 8) (h0 : 0 ≤ b) (h1 : b ≤ 127) (h : (stepU u b).2 = true) : u = 0 ∧ (stepU u b).1 = 0 := by
  have hc : u = 0 ∨ u = 1 ∨ u = 2 ∨ u = 3 ∨ u = 4 ∨ u = 5 ∨ u = 6 ∨ u = 7 := by omega
  have n1 : ¬ (128 : Int) ≤ b := by omega
  have n2 : ¬ (160 : Int) ≤ b := by omega
  have n3 : ¬ (144 : Int) ≤ b := by omega
  rcases hc with rfl | rfl | rfl | rfl | rfl | rfl | rfl | rfl <;> simp [stepU, stepIn, utfTab, goesOn, h0, h1, n1, n2, n3] at h ⊢
theorem ascii_step {b : Int} (h0 : 0 ≤ b) (h1 : b ≤ 127) : stepU 0 b = (0, true) := by simp [stepU, stepIn, utfTab, goesOn, h0, h1]
theorem runU_snoc {f : List Int} {u : Nat} {b : Int} (h : runU 0 f = some u) (hs : (stepU u b).2 = true) : runU 0 (f ++ [b]) = some (stepU u b).1.toNat := by
  rw [runU_app, h, Option.bind_some, runU, if_pos hs]; rfl
/-- Bytes are bytes. -/
def By8 (f : List Int) : Prop := ∀ b ∈ f, 0 ≤ b ∧ b ≤ 255
theorem bytes_strOf {f : List Int} (h : By8 f) : Top.bytesOf (strOfNums f) = f := by
  unfold Top.bytesOf
  rw [strOfNums_data, List.map_map]
  conv => rhs; rw [← List.map_id f]
  refine List.map_congr_left fun b hb => ?_
  obtain ⟨h1, h2⟩ := h b hb
  show ((UInt8.ofNat b.toNat).toNat : Int) = b
  rw [UInt8.toNat_ofNat']
  omega
theorem bytesOf_8 (s : ByteArray) : By8 (Top.bytesOf s) := by
  intro b hb
  unfold Top.bytesOf at hb
  obtain ⟨x, _, rfl⟩ := List.mem_map.1 hb
  have := x.toNat_lt
  omega
/-- How long a record, a table can be when it is written. -/
def wtR (r : List ByteArray) : Nat := (r.map (fun x => 2 * x.size + 3)).sum
def wtT (t : List (List ByteArray)) : Nat := (t.map (fun r => wtR r + 2)).sum
theorem wtR_snoc (r : List ByteArray) (f : List Int) : wtR (r ++ [strOfNums f]) = wtR r + (2 * f.length + 3) := by
  unfold wtR
  rw [List.map_append, List.sum_append]
  simp [strOfNums_size]
theorem wtT_snoc (t : List (List ByteArray)) (r : List ByteArray) : wtT (t ++ [r]) = wtT t + (wtR r + 2) := by
  unfold wtT
  rw [List.map_append, List.sum_append]
  simp
/-- Fields that are whole sequences; records that are not empty. -/
def OkR (r : List ByteArray) : Prop := ∀ x ∈ r, runU 0 (Top.bytesOf x) = some 0
def OkT (t : List (List ByteArray)) : Prop := ∀ r ∈ t, r ≠ [] ∧ OkR r
theorem OkR.snoc {r : List ByteArray} (h : OkR r) {f : List Int} (h8 : By8 f) (hf : runU 0 f = some 0) : OkR (r ++ [strOfNums f]) := by
  intro x hx
  rcases List.mem_append.1 hx with hx | hx
  · exact h x hx
  · rw [List.mem_singleton] at hx; subst hx; rw [bytes_strOf h8]; exact hf
theorem OkT.snoc {t : List (List ByteArray)} (h : OkT t) {r : List ByteArray} (hn : r ≠ []) (hr : OkR r) : OkT (t ++ [r]) := by
  intro x hx
  rcases List.mem_append.1 hx with hx | hx
  · exact h x hx
  · rw [List.mem_singleton] at hx; subst hx; exact ⟨hn, hr⟩
/-- Behind n bytes that went through, the last sequence at u. -/
def Good (u n : Nat) (c : Core) : Prop :=
  u < 8 ∧ 0 ≤ c.st ∧ c.st ≤ 6 ∧ ∃ f r g cc w, c.m = WM f r g cc w ∧ By8 f ∧ runU 0 f = some u ∧ OkR r ∧ (c.st = 5 → r ≠ []) ∧ OkT c.rows ∧ 0 ≤ g ∧ g ≤ n ∧ 0 ≤ cc ∧ cc ≤ n ∧ f.length ≤ n ∧ r.length ≤ n ∧ wtT c.rows + wtR r + 2 * f.length ≤ 5 * n
theorem good0 (de qu en : Int) : Good 0 0 (initR de qu en 2147483648 2147483648 2147483648 false).core :=
  ⟨by decide, Int.le_refl _, by show (0 : Int) ≤ 6; decide, [], [], 0, 0, 0, rfl, (fun b hb => by cases hb), rfl, (fun b hb => by cases hb), (fun h => by cases h), (fun b hb => by cases hb), Int.le_refl _, Int.le_refl _, Int.le_refl _, Int.le_refl _, Nat.le_refl _, Nat.le_refl _, Nat.le_refl _⟩
theorem upB_le {bg : Bool} {g : Int} : g ≤ upB bg g ∧ upB bg g ≤ g + 1 := by unfold upB; split <;> omega
theorem Good.event {u n : Nat} {c c' : Core} {b nx : Int} {u' : Nat} {ev : Ev} (h : Good u n c) (hn : n ≤ 1000000) (hb : 0 ≤ b ∧ b ≤ 255) (ht : Tale c.st b nx ev) (hu : (stepU u b).2 = true) (hu' : u' = (stepU u b).1.toNat)
    (hg : goE ev 0 nx c = some c') : Good u' (n + 1) c' := by
  obtain ⟨hu8, s0, s6, f, r, g, cc, w, hm, f8, fu, rok, r5, tok, g0, g1, c0, c1, fl, rl, hw⟩ := h
  have hu8' : u' < 8 := by have := stepU_lt u b; omega
  unfold goE at hg
  rw [hm] at hg
  rcases ht with ⟨bg, rfl, hnx⟩ | ⟨hb7, hnx, ht⟩
  · rw [tk_add f r g cc w b bg (by omega) g0 (by omega)] at hg
    simp only [and_self, if_true] at hg
    obtain rfl := Option.some.inj hg
    have hx := upB_le (bg := bg) (g := g)
    refine ⟨hu8', by dsimp only; omega, by dsimp only; omega, f ++ [b], r, upB bg g, cc, w, rfl, ?_, ?_, rok, (fun e => by dsimp only at e; omega), ?_, by omega, by omega, c0, by omega, by simp; omega, by omega, ?_⟩
    · intro x hx
      rcases List.mem_append.1 hx with hx | hx
      · exact f8 x hx
      · rw [List.mem_singleton] at hx; subst hx; exact hb
    · rw [hu']; exact runU_snoc fu hu
    · simpa using tok
    · simp; omega
  · obtain ⟨e0, e1⟩ := step_ascii hu8 hb.1 hb7 hu
    subst e0
    have hu0 : u' = 0 := by rw [hu', e1]; rfl
    subst hu0
    have nx0 : 0 ≤ nx ∧ nx ≤ 6 := by omega
    rcases ht with ⟨bg, rfl, h5⟩ | ⟨bg, rfl, h5⟩ | ⟨rfl, h5⟩ | ⟨rfl, h5⟩ | ⟨rfl, hs5, h5⟩
    · rw [tk_field f r g cc w 0 bg (by omega) g0 (by omega)] at hg
      simp only [and_self, if_true] at hg
      obtain rfl := Option.some.inj hg
      have hx := upB_le (bg := bg) (g := g)
      refine ⟨hu8', nx0.1, nx0.2, [], r ++ [strOfNums f], upB bg g, cc, w, rfl, (fun x hx => by cases hx), rfl, rok.snoc f8 fu, (fun e => absurd e h5), by simpa using tok, by omega, by omega, c0, by omega, by simp, by simp; omega, ?_⟩
      rw [wtR_snoc]; simp; omega
    · rw [tk_begin f r g cc w 0 bg g0 (by omega)] at hg
      simp only [and_self, if_true] at hg
      obtain rfl := Option.some.inj hg
      have hx := upB_le (bg := bg) (g := g)
      exact ⟨hu8', nx0.1, nx0.2, f, r, upB bg g, cc, w, rfl, f8, fu, rok, (fun e => absurd e h5), by simpa using tok, by omega, by omega, c0, by omega, by omega, by omega, by simp; omega⟩
    · obtain ⟨w', hw'⟩ := tk_whole f r g cc w 0 c0 (by omega)
      rw [hw'] at hg
      simp only [and_self, if_true] at hg
      obtain rfl := Option.some.inj hg
      refine ⟨hu8', nx0.1, nx0.2, [], [], g, cc + 1, w', rfl, (fun x hx => by cases hx), rfl, (fun x hx => by cases hx), (fun e => absurd e h5), tok.snoc (by simp) (rok.snoc f8 fu), by omega, by omega, by omega, by omega, by simp, by simp, ?_⟩
      show wtT (c.rows ++ [r ++ [strOfNums f]]) + 0 + 0 ≤ _
      rw [wtT_snoc, wtR_snoc]; omega
    · rw [tk_line f r g cc w 0] at hg
      simp only [and_self, if_true] at hg
      obtain rfl := Option.some.inj hg
      refine ⟨hu8', nx0.1, nx0.2, [], r ++ [strOfNums f], g, cc, w, rfl, (fun x hx => by cases hx), rfl, rok.snoc f8 fu, (fun e => by simp), by simpa using tok, by omega, by omega, c0, by omega, by simp, by simp; omega, ?_⟩
      rw [wtR_snoc]; simp; omega
    · obtain ⟨w', hw'⟩ := tk_rec f r g cc w 0 c0 (by omega)
      rw [hw'] at hg
      simp only [and_self, if_true] at hg
      obtain rfl := Option.some.inj hg
      refine ⟨hu8', nx0.1, nx0.2, f, [], g, cc + 1, w', rfl, f8, fu, (fun x hx => by cases hx), (fun e => absurd e h5), tok.snoc (r5 hs5) rok, by omega, by omega, by omega, by omega, by omega, by simp, ?_⟩
      show wtT (c.rows ++ [r]) + 0 + _ ≤ _
      rw [wtT_snoc]; omega
theorem good_run {de qu en : Int} (hd : okD de qu en) : ∀ (ys : List Int) (u n u' : Nat) (c c' : Core), Good u n c → By8 ys → n + ys.length ≤ 1000000 → runU u ys = some u' → goC de qu en c ys = some c' → Good u' (n + ys.length) c'
  | [], u, n, u', c, c', h, _, _, hu, hg => by
    rw [runU] at hu; rw [goC] at hg
    obtain rfl := Option.some.inj hu
    obtain rfl := Option.some.inj hg
    exact h
  | b :: bs, u, n, u', c, c', h, h8, hn, hu, hg => by
    rw [runU] at hu
    split at hu
    · rename_i hs
      rw [goC] at hg
      obtain ⟨c1, h1, h2⟩ := Option.bind_eq_some_iff.1 hg
      simp only [List.length_cons] at hn
      have hb := h8 b (List.mem_cons_self ..)
      have hf : (scanS de qu en c.st b).2.2 = 0 := by
        unfold go1 goE at h1
        by_cases hf : (scanS de qu en c.st b).2.2 = 0
        · exact hf
        · simp [hf] at h1
      have h1' : goE (scanS de qu en c.st b).1 0 (scanS de qu en c.st b).2.1 c = some c1 := by
        have : go1 de qu en c b = goE (scanS de qu en c.st b).1 (scanS de qu en c.st b).2.2 (scanS de qu en c.st b).2.1 c := rfl
        rw [this, hf] at h1
        exact h1
      have hg1 := h.event (by omega) hb (scan_tale hd ⟨h.2.1, h.2.2.1⟩ hf) hs rfl h1'
      have := good_run hd bs _ _ _ _ _ hg1 (fun x hx => h8 x (List.mem_cons_of_mem _ hx)) (by omega) hu h2
      rw [show n + (b :: bs).length = n + 1 + bs.length by simp only [List.length_cons]; omega]
      exact this
    · cases hu
end Go.Proofs.YtmignbhpofmgeaaDoor.Top
namespace Go.Proofs.YtmignbhpofmgeaaDoor.PTopChunks
open Go.RowKit Go.Proofs.YtmignbhpofmgeaaDoorW.PrintWords Go.Proofs.YtmignbhpofmgeaaDoorW.PrintLast Go.Proofs.YtmignbhpofmgeaaDoorW.PrintMore
attribute [local go_sem] max2_int min2_int max_two min_two max_three min_three max_four min_four   -- for this text's walks alone
set_option linter.unusedVariables false
set_option linter.unusedSimpArgs false
def errW : Option Int → Value
  | none => .nilIface
  | some c => .iface 0 (.int .i64 c)
theorem errW_none : errW none = .nilIface := rfl
theorem errW_some (c : Int) : errW (some c) = .iface 0 (.int .i64 c) := rfl
theorem info9 : (Tryd.prog.info? 9).map (fun i => (i.zero, i.size, i.bytes)) = some (some (.string ⟨#[]⟩), 1, 16) := by kernel_rfl
def rd_L3 (xs : List (List ByteArray)) (i : Int) : (List ByteArray) := xs.getD i.toNat ([] : List ByteArray)
theorem at_L3 {w : World} {A : Option Addr} {n : Nat} {xs : List (List ByteArray)} (h : Kd.C (Kd.slice 9 Kd.string) w A n xs) (i : Int) (h0 : 0 ≤ i) (h1 : i < n) : ∃ ad A0 c0, A = some ad ∧ w.cell? (ad.add i.toNat) = some (.slice A0 (rd_L3 xs i).length c0) ∧ (rd_L3 xs i).length ≤ c0 ∧ Kd.string.C w A0 (rd_L3 xs i).length (rd_L3 xs i) := by
  obtain ⟨ad, c, e, _, hK, hc0⟩ := Kd.C_get h ([] : List ByteArray) i h0 h1
  have hc : ∀ j u, c[j]? = some u → w.cell? (ad.add (i.toNat * 1 + j)) = some u := hc0
  obtain ⟨A0, c0, rfl, l0, g0⟩ := hK
  exact ⟨ad, A0, c0, e, by have hq := hc 0 _ rfl; rwa [Nat.mul_one, Nat.add_zero] at hq, l0, g0⟩
end Go.Proofs.YtmignbhpofmgeaaDoor.PTopChunks
