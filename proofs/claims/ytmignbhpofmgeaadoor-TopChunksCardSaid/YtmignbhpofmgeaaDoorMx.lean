/- A part of the reader. -/
import Derived.Test.YtmignbhpofmgeaaDoorProg
import Derived.Below
import Derived.Deep.Draws
import Derived.Deep.AppendLies
import Derived.Maps.AppendAt
import Derived.OwnWalk
import Derived.Laws.BytesArg
import Derived.Laws.MakeOwn
import Derived.Laws.OwnMore
import Derived.Deep.OwnRows
import Derived.Tactics
import Derived.Lib.ConvBytes
import Derived.Laws.Slices
import Derived.WalkKit
import Derived.KernelRfl
import Derived.RowKit3
import Derived.Deep.LoopGhost
import Derived.Deep.QuietTactic
import Derived.BigQuiet
import Derived.WideLaws
import Derived.Deep.DeepCutAuto
import Derived.Deep.CutBlock
import Derived.Deep.RegionHeld3
import Derived.Laws.Rows
import Derived.Lib.AppendStr
import Derived.ArgAppend
import Derived.Laws.IdiomCopy
import Derived.OrdersHeld
import Derived.Laws.BitsLemmas
import Derived.RowKit
import Derived.Test.YtmignbhpofmgeaaDoorWWords
import Derived.Test.YtmignbhpofmgeaaDoorWLast
import Derived.Test.YtmignbhpofmgeaaDoorWTab
import Derived.Test.YtmignbhpofmgeaaDoorWFour
import Derived.Test.YtmignbhpofmgeaaDoorWQPut
import Derived.Test.YtmignbhpofmgeaaDoorWApart
import Derived.Test.YtmignbhpofmgeaaDoorWArr
import Derived.Test.YtmignbhpofmgeaaDoorWZeros
import Derived.Test.YtmignbhpofmgeaaDoorWFoot
import Derived.Test.YtmignbhpofmgeaaDoorWKept
import Derived.Test.YtmignbhpofmgeaaDoorWShare
import Derived.Test.YtmignbhpofmgeaaDoorWN
import Derived.Test.YtmignbhpofmgeaaDoorWFootNe
import Derived.Test.YtmignbhpofmgeaaDoorWAt
import Derived.Test.YtmignbhpofmgeaaDoorWEqStruct
import Derived.Test.YtmignbhpofmgeaaDoorWRepsOne
import Derived.Test.YtmignbhpofmgeaaDoorWInv
import Derived.Test.YtmignbhpofmgeaaDoorWInvWords
import Derived.Test.YtmignbhpofmgeaaDoorWGuard
import Derived.Test.YtmignbhpofmgeaaDoorWNEv
import Derived.Test.YtmignbhpofmgeaaDoorWMore
import Derived.Test.YtmignbhpofmgeaaDoorIter
import Derived.RangeFuncBox
import Derived.Lib.ConvBytes
import Derived.Test.YtmignbhpofmgeaaDoorMw
import Derived.Test.YtmignbhpofmgeaaDoorPTopStickyx2
import Derived.Test.YtmignbhpofmgeaaDoorPTopStickyx3
namespace Go.Proofs.YtmignbhpofmgeaaDoor.Top
open Go.RowKit Go.Proofs.YtmignbhpofmgeaaDoorW.PrintWords Go.Proofs.YtmignbhpofmgeaaDoorW.PrintLast Go.Proofs.YtmignbhpofmgeaaDoorW.PrintMore Go.Proofs.YtmignbhpofmgeaaDoor.Iter
set_option linter.unusedVariables false
set_option linter.unusedSimpArgs false

/-- What a byte comes to, by the scanner. -/
def scanS (de qu en st c : Int) : Ev × Int × Int := match PTopSticky.scan_Step.f 8 de qu en st c with
  | some (a, b, x, d, e, y, n, f) => (⟨a, b, x, d, e, y⟩, n, f)
  | none => (⟨false, false, false, false, false, 0⟩, 0, 0)
def Tells {α : Type} (o : Option α) : Prop := ∃ r, o = some r
theorem tells_some {α : Type} (r : α) : Tells (some r) := ⟨r, rfl⟩
theorem tells_ite {α : Type} {c : Prop} [Decidable c] {a b : Option α} (ha : Tells a) (hb : Tells b) : Tells (if c then a else b) := by
  split
  · exact ha
  · exact hb
theorem tells_bind {α β : Type} {o : Option α} {f : α → Option β} (ha : Tells o) (hf : ∀ r, Tells (f r)) : Tells (o.bind f) := by
  obtain ⟨r, rfl⟩ := ha
  exact hf r
theorem scan_tells (de qu en st c : Int) : ∃ a b x d e y n f, PTopSticky.scan_Step.f 8 de qu en st c = some (a, b, x, d, e, y, n, f) := by
  have h : Tells (PTopSticky.scan_Step.f 8 de qu en st c) := by
    simp only [PTopSticky.scan_Step.f, PTopSticky.scan_Step.j0, PTopSticky.scan_Step.j1, PTopSticky.scan_Step.j2, PTopSticky.scan_Step.j3, PTopSticky.scan_ends.f, PTopSticky.scan_ends.j0, PTopSticky.scan_pending.f]
    repeat (first | apply tells_some | apply tells_ite | apply tells_bind | intro _)
  obtain ⟨⟨a, b, x, d, e, y, n, f⟩, h⟩ := h
  exact ⟨a, b, x, d, e, y, n, f, h⟩
theorem scan_calls (de qu en st c : Int) (W : World) : Calls Tryd.prog 42 #[.agg #[.int .u8 de, .int .u8 qu, .int .i64 en], .int .i64 st, .int .u8 c] W (fun e w' => e = .returned (.tuple #[.agg (scanS de qu en st c).1.cells, .int .i64 (scanS de qu en st c).2.1, .int .i64 (scanS de qu en st c).2.2]) ∧ Acts (fun _ => False) W w') := by
  obtain ⟨a, b, x, d, e, y, n, f, h⟩ := scan_tells de qu en st c
  have hs : scanS de qu en st c = (⟨a, b, x, d, e, y⟩, n, f) := by unfold scanS; rw [h]
  rw [hs]
  exact (PTopSticky.scan_Step.calls 8 de qu en st c a b x d e y n f W h).mono fun _ _ ⟨h1, h2⟩ => ⟨h1, Acts.of_below h2⟩
def closeSc (st : Int) : Ev × Int := match PTopSticky.scan_Close.f st with
  | some (a, b, x, d, e, y, f) => (⟨a, b, x, d, e, y⟩, f)
  | none => (⟨false, false, false, false, false, 0⟩, 0)
theorem sclose_calls (st : Int) (W : World) : Calls Tryd.prog 30 #[.int .i64 st] W (fun e w' => e = .returned (.tuple #[.agg (closeSc st).1.cells, .int .i64 (closeSc st).2]) ∧ Acts (fun _ => False) W w') := by
  obtain ⟨a, b, x, d, e, y, f, h⟩ : ∃ a b x d e y f, PTopSticky.scan_Close.f st = some (a, b, x, d, e, y, f) := by
    simp only [PTopSticky.scan_Close.f]
    repeat' split
    all_goals exact ⟨_, _, _, _, _, _, _, rfl⟩
  have hs : closeSc st = (⟨a, b, x, d, e, y⟩, f) := by unfold closeSc; rw [h]
  rw [hs]
  exact (PTopSticky.scan_Close.calls st a b x d e y f W h).mono fun _ _ ⟨h1, h2⟩ => ⟨h1, Acts.of_below h2⟩
/-- It holds no more than this. -/
def Small (N : Nat) (r : RS) : Prop := r.maker.F ≤ 2147483648 ∧ r.maker.record.length ≤ N ∧ r.ready.length ≤ N
theorem takeM_small (m : MS) (e : Ev) : (takeM m e).1.F = m.F ∧ (takeM m e).1.record.length ≤ m.record.length + 2 := by
  have h1 : (take1 m e).F = m.F ∧ (take1 m e).record.length ≤ m.record.length + 2 := by
    unfold take1
    split
    · exact gatherM_keeps m e
    · exact ⟨rfl, by omega⟩
  unfold takeM
  split
  · exact ⟨h1.1, by simp [handed]⟩
  · exact h1
theorem Small.event {N : Nat} {r : RS} (h : Small N r) (ev : Ev) (f a : Int) : Small (N + 2) (eventR r ev f a).1 := by
  obtain ⟨h1, h2, h3⟩ := h
  have hm := takeM_small r.maker ev
  unfold eventR
  split
  · split
    · refine ⟨by show (takeM r.maker ev).1.F ≤ _; rw [hm.1]; exact h1, by have := hm.2; (try dsimp only); omega, ?_⟩
      (try dsimp only)
      split <;> (try simp) <;> omega
    · exact ⟨by show (takeM r.maker ev).1.F ≤ _; rw [hm.1]; exact h1, by have := hm.2; (try dsimp only [wrongR]); omega, by (try dsimp only [wrongR]); omega⟩
  · exact ⟨h1, by simp only [wrongR]; omega, by simp only [wrongR]; omega⟩
/-- The bytes that are handed on, from number i on. -/
def takeL (a : Int) (n : Nat) : Nat → List Int → RS → RS × Bool
  | _, [], r => (r, true)
  | i, c :: cs, r => if (eventR { r with state := (scanS r.de r.qu r.en r.state c).2.1 } (scanS r.de r.qu r.en r.state c).1 (scanS r.de r.qu r.en r.state c).2.2 (a - n + 1 + i)).2 = true
      then takeL a n (i + 1) cs (eventR { r with state := (scanS r.de r.qu r.en r.state c).2.1 } (scanS r.de r.qu r.en r.state c).1 (scanS r.de r.qu r.en r.state c).2.2 (a - n + 1 + i)).1
      else ((eventR { r with state := (scanS r.de r.qu r.en r.state c).2.1 } (scanS r.de r.qu r.en r.state c).1 (scanS r.de r.qu r.en r.state c).2.2 (a - n + 1 + i)).1, false)
theorem Small.mono {N N' : Nat} {r : RS} (h : Small N r) (hn : N ≤ N') : Small N' r := ⟨h.1, by have := h.2.1; omega, by have := h.2.2; omega⟩
theorem Small.take {a : Int} {n : Nat} : ∀ (xs : List Int) (i N : Nat) (r : RS), Small N r → Small (N + 2 * xs.length) (takeL a n i xs r).1
  | [], i, N, r, h => h
  | c :: cs, i, N, r, h => by
    have he := Small.event (r := { r with state := (scanS r.de r.qu r.en r.state c).2.1 }) (N := N) h (scanS r.de r.qu r.en r.state c).1 (scanS r.de r.qu r.en r.state c).2.2 (a - n + 1 + i)
    unfold takeL
    split
    · exact (Small.take cs (i + 1) (N + 2) _ he).mono (by simp only [List.length_cons]; omega)
    · exact he.mono (by simp only [List.length_cons]; omega)
theorem w64 {x : Int} (h1 : -1000000000000 ≤ x) (h2 : x ≤ 1000000000000) : wrap64 x = x := by unfold wrap64; omega
-- Six cells of an event are written.
set_option maxRecDepth 100000 in
set_option maxHeartbeats 4000000 in
theorem ev_stored {W : World} {g : Nat} {cs : Array Value} (h : W.heap[g]? = some (.cells cs 77 (0, 0))) (hs : cs.size = 6) (a b c d e f : Value) :
    ((((((W.setCell ⟨g, 0, none⟩ a).setCell ⟨g, 1, none⟩ b).setCell ⟨g, 2, none⟩ c).setCell ⟨g, 3, none⟩ d).setCell ⟨g, 4, none⟩ e).setCell ⟨g, 5, none⟩ f).heap[g]? = some (.cells #[a, b, c, d, e, f] 77 (0, 0)) := by
  rw [blk_set (blk_set (blk_set (blk_set (blk_set (blk_set h 0 a) 1 b) 2 c) 3 d) 4 e) 5 f]
  obtain ⟨l⟩ := cs
  match l, hs with
  | [_, _, _, _, _, _], _ => simp only [List.setIfInBounds_toArray, List.set_cons_zero, List.set_cons_succ]
theorem ev_stored_acts (W : World) (g : Nat) (a b c d e f : Value) :
    Acts (fun k => k = g) W ((((((W.setCell ⟨g, 0, none⟩ a).setCell ⟨g, 1, none⟩ b).setCell ⟨g, 2, none⟩ c).setCell ⟨g, 3, none⟩ d).setCell ⟨g, 4, none⟩ e).setCell ⟨g, 5, none⟩ f) :=
  (((((acts_set (B := g) W 0 a).trans (acts_set (B := g) _ 1 b) (fun _ h => .inl h)).trans (acts_set (B := g) _ 2 c) (fun _ h => .inl h)).trans (acts_set (B := g) _ 3 d) (fun _ h => .inl h)).trans (acts_set (B := g) _ 4 e) (fun _ h => .inl h)).trans (acts_set (B := g) _ 5 f) (fun _ h => .inl h)
set_option maxRecDepth 100000 in
set_option maxHeartbeats 8000000 in
theorem rtake_calls (n0 : Nat) (x : RV) (r : RS) (a : Int) (xs : List Int) (v : Value) (m0 N : Nat) (W : World) (h : RAt n0 x r W) (hN : Small N r) (hNb : N + 2 * xs.length + 1 ≤ 2147483648) (hv : Handed m0 W v xs) (hfree : ∀ k, v.ownBlock = some k → ¬ RC x k)
    (hl : xs.length ≤ 3) (ha : -1000 ≤ a ∧ a ≤ 100000000000) :
    Calls Tryd.prog 26 #[.pointer (some ⟨x.R, 0, none⟩), v, .int .i64 a] W (RTo n0 x W (takeL a xs.length 0 xs r).1 (.bool (takeL a xs.length 0 xs r).2)) := by
  obtain ⟨A, cap, rfl, hcell⟩ : ∃ A cap, v = .slice A xs.length cap ∧ ∀ i y, xs[i]? = some y → ∃ g, A = some ⟨g, 0, none⟩ ∧ g < W.heap.size ∧ ¬ RC x g ∧ W.cell? ⟨g, i, none⟩ = some (.int .u8 y) := by
    rcases hv with ⟨rfl, rfl⟩ | ⟨g, cap, hB⟩
    · exact ⟨_, _, rfl, fun i y hi => by simp at hi⟩
    · exact ⟨_, _, hB.val, fun i y hi => ⟨g, rfl, hB.lt, hfree g (by rw [hB.val]; rfl), hB.cell i y hi⟩⟩
  obtain ⟨tot, htot⟩ : ∃ tot, takeL a xs.length 0 xs r = tot := ⟨_, rfl⟩
  rw [htot]
  obtain ⟨n, hn⟩ : ∃ n, xs.length = n := ⟨_, rfl⟩
  have HT0 : Hid (takeL a n 0 (xs.drop 0) r = tot) := by rw [← hn]; exact htot
  rw [hn] at hNb hl ⊢
  have HG0 : Hid (RGo n0 x W r x W) := RGo.refl h
  have HN0 : Hid (Small (N + 2 * 0) r) := hN
  have HC : Hid (∀ i y, xs[i]? = some y → ∃ g, A = some ⟨g, 0, none⟩ ∧ g < W.heap.size ∧ ¬ RC x g ∧ W.cell? ⟨g, i, none⟩ = some (.int .u8 y)) := hcell
  have HL : Hid (xs.length = n) := hn
  clear hcell htot hN h hn hv hfree
  obtain ⟨R, S, B, fv, rv, qv⟩ := x
  dsimp only at *
  go_enter Tryd.func26, Tryd.ntmps26
  go_wp2
  go_loopw [14] (fun y wl => ∃ (i : Nat) (x' : RV) (r' : RS), i ≤ n ∧ y = .int .i64 i ∧ Hid (RGo n0 ⟨R, S, B, fv, rv, qv⟩ W r' x' wl) ∧ Hid (takeL a n i (xs.drop i) r' = tot) ∧ Hid (Small (N + 2 * i) r')) (fun y _ => n - (intOf y).toNat)
  case atStart => exact ⟨0, _, _, Nat.zero_le _, rfl, HG0, HT0, HN0⟩
  case round =>
    obtain ⟨i, x', r', hi, rfl, HG, HT, HN⟩ := hrel
    by_cases hlt0 : i < n
    · obtain ⟨c, hc⟩ : ∃ c, xs[i]? = some c := ⟨_, List.getElem?_eq_getElem (by rw [HL.out]; exact hlt0)⟩
      obtain ⟨g, rfl, hgl, hgR, hcc⟩ := HC.out i c hc
      have hg0 := HG.out
      have hcw : wr.cell? ⟨g, i, none⟩ = some (.int .u8 c) := (cell_same (hg0.acts.same g hgl hgR)).trans hcc
      have hRR := hg0.new.R
      obtain ⟨R', S', B', fv', rv', qv'⟩ := x'
      dsimp only at hRR
      have hRR2 := hRR.symm
      clear hRR
      subst hRR2
      have hobj := hg0.it.obj
      have hlt := hg0.it.lt
      dsimp only at hobj hlt
      obtain ⟨e0, e1, e2, e3, e4, e5, nx, f, hS⟩ : ∃ e0 e1 e2 e3 e4 e5 nx f, scanS r'.de r'.qu r'.en r'.state c = (⟨e0, e1, e2, e3, e4, e5⟩, nx, f) := ⟨_, _, _, _, _, _, _, _, rfl⟩
      obtain ⟨r5, b, hE⟩ : ∃ r5 b, eventR { r' with state := nx } ⟨e0, e1, e2, e3, e4, e5⟩ f (a - n + 1 + i) = (r5, b) := ⟨_, _, rfl⟩
      have hsc := fun w => scan_calls r'.de r'.qu r'.en r'.state c w
      rw [hS] at hsc
      dsimp only [Ev.cells] at hsc
      have hd : xs.drop i = c :: xs.drop (i + 1) := by
        obtain ⟨hi1, rfl⟩ := List.getElem?_eq_some_iff.1 hc
        exact List.drop_eq_getElem_cons hi1
      have HT2 : Hid (tot = if b = true then takeL a n (i + 1) (xs.drop (i + 1)) r5 else (r5, false)) := by
        have := HT.out
        rw [hd, takeL, hS] at this
        dsimp only at this
        rw [hE] at this
        exact this.symm
      have HN2 : Hid (Small (N + 2 * (i + 1)) r5) := by
        have := Small.event (r := { r' with state := nx }) (N := N + 2 * i) HN.out ⟨e0, e1, e2, e3, e4, e5⟩ f (a - n + 1 + i)
        rw [hE] at this
        exact this
      have hw1 : wrap64 (a - (n : Int)) = a - n := w64 (by omega) (by omega)
      have hw2 : wrap64 (a - (n : Int) + 1) = a - n + 1 := w64 (by omega) (by omega)
      have hw4 : wrap64 (a - (n : Int) + 1 + i) = a - n + 1 + i := w64 (by omega) (by omega)
      have HE : Hid (eventR { r' with state := nx } ⟨e0, e1, e2, e3, e4, e5⟩ f (a - n + 1 + i) = (r5, b)) := hE
      clear hE hS hd HT hcc hg0
      go_wp2
      refine start_ (n := 18) (S := fun w' => w'.heap[R]? = some (.cells (r'.cells ⟨R, S', B', fv', rv', qv'⟩) 69 (0, 0))) (ds := [15]) #[false, false, false, false, false, false, false, false, false, false, false, false, false, false, false, false, false, false] (by kernel_rfl) rfl rfl hobj (fun hHeld => ?_)
      refine pure_ (i := 0) (N := some 20) (v := ?_) (a' := ?_) #[true, false, false, false, false, false, false, false, false, false, false, false, false, false, false, false, false, false] rfl rfl (by kernel_rfl) (fun _ _ _ h => h) (Or.inl ⟨by rfl, ?_⟩) ?_ ?_
      rotate_left
      · intro w'
        go_simp
        with_reducible rfl
      rotate_left
      · simp only [Act.put, List.setIfInBounds_toArray, List.set_cons_zero, List.set_cons_succ]
        rfl
      refine pure_ (i := 1) (N := some 21) (v := ?_) (a' := ?_) #[true, true, false, false, false, false, false, false, false, false, false, false, false, false, false, false, false, false] rfl rfl (by kernel_rfl) (fun _ _ _ h => h) (Or.inl ⟨by rfl, ?_⟩) ?_ ?_
      rotate_left
      · intro w'
        go_simp
        with_reducible rfl
      rotate_left
      · simp only [Act.put, List.setIfInBounds_toArray, List.set_cons_zero, List.set_cons_succ]
        rfl
      refine pure_ (i := 2) (N := some 22) (v := ?_) (a' := ?_) #[true, true, true, false, false, false, false, false, false, false, false, false, false, false, false, false, false, false] rfl rfl (by kernel_rfl) (fun _ _ _ h => h) (Or.inl ⟨by rfl, ?_⟩) ?_ ?_
      rotate_left
      · intro w'
        go_simp
        with_reducible rfl
      rotate_left
      · simp only [Act.put, List.setIfInBounds_toArray, List.set_cons_zero, List.set_cons_succ]
        rfl
      refine take_ (i := 3) (N := some 23) (v := ?_) (a' := ?_) #[true, true, true, true, false, false, false, false, false, false, false, false, false, false, false, false, false, false] rfl rfl (by kernel_rfl) (fun _ _ _ h => h) (Or.inl ⟨by rfl, ?_⟩) hHeld ?_ ?_
      rotate_left
      · intro w' s0
        have c0 := (blk_cell s0 0).trans rfl
        have c1 := (blk_cell s0 1).trans rfl
        have c2 := (blk_cell s0 2).trans rfl
        simp only [RS.cells] at c0 c1 c2
        clear s0
        go_simp
        with_reducible rfl
      rotate_left
      · simp only [Act.put, List.setIfInBounds_toArray, List.set_cons_zero, List.set_cons_succ]
        rfl
      refine pure_ (i := 4) (N := some 24) (v := ?_) (a' := ?_) #[true, true, true, true, true, false, false, false, false, false, false, false, false, false, false, false, false, false] rfl rfl (by kernel_rfl) (fun _ _ _ h => h) (Or.inl ⟨by rfl, ?_⟩) ?_ ?_
      rotate_left
      · intro w'
        go_simp
        with_reducible rfl
      rotate_left
      · simp only [Act.put, List.setIfInBounds_toArray, List.set_cons_zero, List.set_cons_succ]
        rfl
      refine pure_ (i := 5) (N := some 25) (v := ?_) (a' := ?_) #[true, true, true, true, true, true, false, false, false, false, false, false, false, false, false, false, false, false] rfl rfl (by kernel_rfl) (fun _ _ _ h => h) (Or.inl ⟨by rfl, ?_⟩) ?_ ?_
      rotate_left
      · intro w'
        go_simp
        with_reducible rfl
      rotate_left
      · simp only [Act.put, List.setIfInBounds_toArray, List.set_cons_zero, List.set_cons_succ]
        rfl
      refine pure_ (i := 6) (N := some 26) (v := ?_) (a' := ?_) #[true, true, true, true, true, true, true, false, false, false, false, false, false, false, false, false, false, false] rfl rfl (by kernel_rfl) (fun _ _ _ h => h) (Or.inl ⟨by rfl, ?_⟩) ?_ ?_
      rotate_left
      · intro w'
        go_simp
        with_reducible rfl
      rotate_left
      · simp only [Act.put, List.setIfInBounds_toArray, List.set_cons_zero, List.set_cons_succ]
        rfl
      refine take_ (i := 7) (N := some 27) (v := ?_) (a' := ?_) #[true, true, true, true, true, true, true, true, false, false, false, false, false, false, false, false, false, false] rfl rfl (by kernel_rfl) (fun _ _ _ h => h) (Or.inl ⟨by rfl, ?_⟩) hHeld ?_ ?_
      rotate_left
      · intro w' s0
        have c6 := (blk_cell s0 6).trans rfl
        simp only [RS.cells] at c6
        clear s0
        go_simp
        with_reducible rfl
      rotate_left
      · simp only [Act.put, List.setIfInBounds_toArray, List.set_cons_zero, List.set_cons_succ]
        rfl
      refine pure_ (i := 8) (N := some 28) (v := ?_) (a' := ?_) #[true, true, true, true, true, true, true, true, true, false, false, false, false, false, false, false, false, false] rfl rfl (by kernel_rfl) (fun _ _ _ h => h) (Or.inl ⟨by rfl, ?_⟩) ?_ ?_
      rotate_left
      · intro w'
        go_simp
        with_reducible rfl
      rotate_left
      · simp only [Act.put, List.setIfInBounds_toArray, List.set_cons_zero, List.set_cons_succ]
        rfl
      refine join_ (σ := Nat) 3 #[true, true, true, true, true, true, true, true, true, true, true, true, true, true, true, false, false, false] (fun s_ => [(29, .tuple #[.agg #[.bool e0, .bool e1, .bool e2, .bool e3, .bool e4, .int .u8 e5], .int .i64 nx, .int .i64 f]), (9, .pointer (some ⟨s_, 0, none⟩)), (19, .tuple #[.agg #[.bool e0, .bool e1, .bool e2, .bool e3, .bool e4, .int .u8 e5], .int .i64 nx, .int .i64 f]), (30, .agg #[.bool e0, .bool e1, .bool e2, .bool e3, .bool e4, .int .u8 e5]), (31, .int .i64 nx), (32, .int .i64 f)]) (fun s_ w' => Acts (fun _ => False) wr w' ∧ w'.heap[s_]? = some (.cells #[.bool false, .bool false, .bool false, .bool false, .bool false, .int .u8 0] 77 (0, 0)) ∧ wr.heap.size ≤ s_) ?_ ?_
      rotate_left
      · intro hCont
        refine two_ (i := 9) (j := 14) (Ni := some 29) (Nj := some 9) #[true, true, true, true, true, true, true, true, true, true, false, false, false, false, false, false, false, false] #[true, true, true, true, true, true, true, true, true, false, false, false, false, false, true, false, false, false] rfl rfl rfl rfl (by kernel_rfl) (by decide) (by decide) (fun K hK => ?_) (fun K hK => ?_)
        · skip
          refine goes_ Tryd.func42 (by kernel_rfl) rfl #[.agg #[.int .u8 r'.de, .int .u8 r'.qu, .int .i64 r'.en], .int .i64 r'.state, .int .u8 c] (by rfl) rfl rfl (by simp only [List.map_toArray, List.map_cons, List.map_nil]; rfl) ?_
          with_reducible refine (hsc _).mono ?_
          rintro e w1 ⟨rfl, hA1⟩
          refine ⟨_, rfl, ?_⟩
          refine hK.out _ _ ((hA1.same R hlt (fun h => h)).trans hobj) (fun hHeld => ?_)
          clear hK K
          refine norm_ (a' := ?_) ?_ ?_
          rotate_left
          · show Act.put _ (some 29) _ = _
            simp only [Act.put, List.setIfInBounds_toArray, List.set_cons_zero, List.set_cons_succ]
            rfl
          refine pure_ (i := 10) (N := some 19) (v := ?_) (a' := ?_) #[true, true, true, true, true, true, true, true, true, true, true, false, false, false, false, false, false, false] rfl rfl (by kernel_rfl) (fun _ _ _ h => h) (Or.inl ⟨by rfl, ?_⟩) ?_ ?_
          rotate_left
          · intro w'
            go_simp
            with_reducible rfl
          rotate_left
          · simp only [Act.put, List.setIfInBounds_toArray, List.set_cons_zero, List.set_cons_succ]
            rfl
          refine pure_ (i := 11) (N := some 30) (v := ?_) (a' := ?_) #[true, true, true, true, true, true, true, true, true, true, true, true, false, false, false, false, false, false] rfl rfl (by kernel_rfl) (fun _ _ _ h => h) (Or.inl ⟨by rfl, ?_⟩) ?_ ?_
          rotate_left
          · intro w'
            go_simp
            with_reducible rfl
          rotate_left
          · simp only [Act.put, List.setIfInBounds_toArray, List.set_cons_zero, List.set_cons_succ]
            rfl
          refine pure_ (i := 12) (N := some 31) (v := ?_) (a' := ?_) #[true, true, true, true, true, true, true, true, true, true, true, true, true, false, false, false, false, false] rfl rfl (by kernel_rfl) (fun _ _ _ h => h) (Or.inl ⟨by rfl, ?_⟩) ?_ ?_
          rotate_left
          · intro w'
            go_simp
            with_reducible rfl
          rotate_left
          · simp only [Act.put, List.setIfInBounds_toArray, List.set_cons_zero, List.set_cons_succ]
            rfl
          refine pure_ (i := 13) (N := some 32) (v := ?_) (a' := ?_) #[true, true, true, true, true, true, true, true, true, true, true, true, true, true, false, false, false, false] rfl rfl (by kernel_rfl) (fun _ _ _ h => h) (Or.inl ⟨by rfl, ?_⟩) ?_ ?_
          rotate_left
          · intro w'
            go_simp
            with_reducible rfl
          rotate_left
          · simp only [Act.put, List.setIfInBounds_toArray, List.set_cons_zero, List.set_cons_succ]
            rfl
          refine one_ (i := 14) (N := some 9) #[true, true, true, true, true, true, true, true, true, true, true, true, true, true, true, false, false, false] rfl rfl (by kernel_rfl) (by decide) (fun K hK => ?_)
          refine box_step ?hg (N := 9) ?hd (cs := #[.bool false, .bool false, .bool false, .bool false, .bool false, .int .u8 0]) (t := 77) ?hr ?_; (case hd => rfl); (case hg => rfl); (case hr => first | (go_simp; done) | (go_simp; rfl))
          intro s1 hg w2 hbox hb
          have hA2 : Acts (fun _ => False) wr w2 := (Acts.drew (fun _ => False) wr).trans (hA1.trans (C' := fun _ => False) (Acts.of_below hb) (fun _ h => .inl h)) (fun _ h => .inl h)
          refine hK.out _ _ ((hA2.same R hlt (fun h => h)).trans hobj) (fun hHeld => ?_)
          clear hK K
          refine norm_ (a' := ?_) ?_ ?_
          rotate_left
          · show Act.put _ (some 9) _ = _
            simp only [Act.put, List.setIfInBounds_toArray, List.set_cons_zero, List.set_cons_succ]
            rfl
          exact norm_ (by simp only [putAll, Act.put, List.setIfInBounds_toArray, List.set_cons_zero, List.set_cons_succ]) (hCont s1 _ ⟨hA2, hbox, by rw [hg]; exact hA1.size⟩)
        · skip
          refine box_step ?hg (N := 9) ?hd (cs := #[.bool false, .bool false, .bool false, .bool false, .bool false, .int .u8 0]) (t := 77) ?hr ?_; (case hd => rfl); (case hg => rfl); (case hr => first | (go_simp; done) | (go_simp; rfl))
          intro s1 hg w1 hbox hb
          have hA1 : Acts (fun _ => False) wr w1 := (Acts.drew (fun _ => False) wr).trans (C' := fun _ => False) (Acts.of_below hb) (fun _ h => .inl h)
          refine hK.out _ _ ((hA1.same R hlt (fun h => h)).trans hobj) (fun hHeld => ?_)
          clear hK K
          refine norm_ (a' := ?_) ?_ ?_
          rotate_left
          · show Act.put _ (some 9) _ = _
            simp only [Act.put, List.setIfInBounds_toArray, List.set_cons_zero, List.set_cons_succ]
            rfl
          refine one_ (i := 9) (N := some 29) #[true, true, true, true, true, true, true, true, true, true, false, false, false, false, true, false, false, false] rfl rfl (by kernel_rfl) (by decide) (fun K hK => ?_)
          refine goes_ Tryd.func42 (by kernel_rfl) rfl #[.agg #[.int .u8 r'.de, .int .u8 r'.qu, .int .i64 r'.en], .int .i64 r'.state, .int .u8 c] (by rfl) rfl rfl (by simp only [List.map_toArray, List.map_cons, List.map_nil]; rfl) ?_
          with_reducible refine (hsc _).mono ?_
          rintro e w2 ⟨rfl, hA2⟩
          refine ⟨_, rfl, ?_⟩
          have hA3 : Acts (fun _ => False) wr w2 := hA1.trans hA2 (fun _ h => .inl h)
          refine hK.out _ _ ((hA3.same R hlt (fun h => h)).trans hobj) (fun hHeld => ?_)
          clear hK K
          refine norm_ (a' := ?_) ?_ ?_
          rotate_left
          · show Act.put _ (some 29) _ = _
            simp only [Act.put, List.setIfInBounds_toArray, List.set_cons_zero, List.set_cons_succ]
            rfl
          refine pure_ (i := 10) (N := some 19) (v := ?_) (a' := ?_) #[true, true, true, true, true, true, true, true, true, true, true, false, false, false, true, false, false, false] rfl rfl (by kernel_rfl) (fun _ _ _ h => h) (Or.inl ⟨by rfl, ?_⟩) ?_ ?_
          rotate_left
          · intro w'
            go_simp
            with_reducible rfl
          rotate_left
          · simp only [Act.put, List.setIfInBounds_toArray, List.set_cons_zero, List.set_cons_succ]
            rfl
          refine pure_ (i := 11) (N := some 30) (v := ?_) (a' := ?_) #[true, true, true, true, true, true, true, true, true, true, true, true, false, false, true, false, false, false] rfl rfl (by kernel_rfl) (fun _ _ _ h => h) (Or.inl ⟨by rfl, ?_⟩) ?_ ?_
          rotate_left
          · intro w'
            go_simp
            with_reducible rfl
          rotate_left
          · simp only [Act.put, List.setIfInBounds_toArray, List.set_cons_zero, List.set_cons_succ]
            rfl
          refine pure_ (i := 12) (N := some 31) (v := ?_) (a' := ?_) #[true, true, true, true, true, true, true, true, true, true, true, true, true, false, true, false, false, false] rfl rfl (by kernel_rfl) (fun _ _ _ h => h) (Or.inl ⟨by rfl, ?_⟩) ?_ ?_
          rotate_left
          · intro w'
            go_simp
            with_reducible rfl
          rotate_left
          · simp only [Act.put, List.setIfInBounds_toArray, List.set_cons_zero, List.set_cons_succ]
            rfl
          refine pure_ (i := 13) (N := some 32) (v := ?_) (a' := ?_) #[true, true, true, true, true, true, true, true, true, true, true, true, true, true, true, false, false, false] rfl rfl (by kernel_rfl) (fun _ _ _ h => h) (Or.inl ⟨by rfl, ?_⟩) ?_ ?_
          rotate_left
          · intro w'
            go_simp
            with_reducible rfl
          rotate_left
          · simp only [Act.put, List.setIfInBounds_toArray, List.set_cons_zero, List.set_cons_succ]
            rfl
          exact norm_ (by simp only [putAll, Act.put, List.setIfInBounds_toArray, List.set_cons_zero, List.set_cons_succ]) (hCont s1 _ ⟨hA3, (hA2.same s1 (blk_lt hbox) (fun h => h)).trans hbox, by rw [hg]; exact Nat.le_refl wr.heap.size⟩)
      rintro s2 w2 ⟨hA2, hs2, hge⟩
      have hw3o := (hA2.same R hlt (fun h => h)).trans hobj
      have y0 := (blk_cell hs2 0).trans rfl
      have z0 := blk_frozen hs2 0
      have y1 := (blk_cell hs2 1).trans rfl
      have z1 := blk_frozen hs2 1
      have y2 := (blk_cell hs2 2).trans rfl
      have z2 := blk_frozen hs2 2
      have y3 := (blk_cell hs2 3).trans rfl
      have z3 := blk_frozen hs2 3
      have y4 := (blk_cell hs2 4).trans rfl
      have z4 := blk_frozen hs2 4
      have y5 := (blk_cell hs2 5).trans rfl
      have z5 := blk_frozen hs2 5
      obtain ⟨w3, hw3⟩ : ∃ w3, ((((((w2.setCell ⟨s2, 0, none⟩ (.bool e0)).setCell ⟨s2, 1, none⟩ (.bool e1)).setCell ⟨s2, 2, none⟩ (.bool e2)).setCell ⟨s2, 3, none⟩ (.bool e3)).setCell ⟨s2, 4, none⟩ (.bool e4)).setCell ⟨s2, 5, none⟩ (.int .u8 e5)) = w3 := ⟨_, rfl⟩
      have hx3 : w3.heap[s2]? = some (.cells #[.bool e0, .bool e1, .bool e2, .bool e3, .bool e4, .int .u8 e5] 77 (0, 0)) := by rw [← hw3]; exact ev_stored hs2 rfl _ _ _ _ _ _
      have hA3 : Acts (fun _ => False) wr w3 := by rw [← hw3]; exact hA2.trans (ev_stored_acts w2 s2 _ _ _ _ _ _) (fun j e => .inr (by omega))
      refine norm_ (a' := ?_) ?_ ?_
      rotate_left
      · simp only [putAll, Act.put, List.setIfInBounds_toArray, List.set_cons_zero, List.set_cons_succ]
        rfl
      refine last_ (i := 15) (N := none) #[true, true, true, true, true, true, true, true, true, true, true, true, true, true, true, true, false, false] rfl rfl (by kernel_rfl) (by decide) (fun K hK => ?_)
      refine skip_ (w1 := w3) (by rfl) rfl ?_ ?_
      · rw [← hw3]
        go_simp
      refine hK.out _ _ ?_
      clear hK K hHeld
      refine pure_ (i := 16) (N := some 10) (v := ?_) (a' := ?_) #[true, true, true, true, true, true, true, true, true, true, true, true, true, true, true, true, true, false] rfl rfl (by kernel_rfl) (fun _ _ _ h => h) (Or.inl ⟨by rfl, ?_⟩) ?_ ?_
      rotate_left
      · intro w'
        go_simp
        with_reducible rfl
      rotate_left
      · simp only [Act.put, List.setIfInBounds_toArray, List.set_cons_zero, List.set_cons_succ]
        rfl
      refine pure_ (i := 17) (N := some 11) (v := ?_) (a' := ?_) #[true, true, true, true, true, true, true, true, true, true, true, true, true, true, true, true, true, true] rfl rfl (by kernel_rfl) (fun _ _ _ h => h) (Or.inl ⟨by rfl, ?_⟩) ?_ ?_
      rotate_left
      · intro w'
        go_simp
        with_reducible rfl
      rotate_left
      · simp only [Act.put, List.setIfInBounds_toArray, List.set_cons_zero, List.set_cons_succ]
        rfl
      refine done_ (by kernel_rfl) ?_
      have hgo3 := RGo.more HG.out hA3
      have hset := hgo3.set (r' := { r' with state := nx }) 6 (.int .i64 nx) rfl rfl rfl rfl
      dsimp only at hset
      have d6 := (blk_cell hgo3.it.obj 6).trans rfl
      have f6 := blk_frozen hgo3.it.obj 6
      simp only [RS.cells] at d6
      have hsR : s2 ≠ R := by omega
      have hRs : R ≠ s2 := by omega
      have hNN := HN.out
      have hec := event_calls n0 _ _ ⟨e0, e1, e2, e3, e4, e5⟩ f (a - n + 1 + i) _ hset.it hNN.1 (by have := hNN.2.1; dsimp only; omega) (by have := hNN.2.2; dsimp only; omega)
      rw [HE.out] at hec
      dsimp only [Ev.cells] at hec
      have x0 := (blk_cell hx3 0).trans rfl
      have x1 := (blk_cell hx3 1).trans rfl
      have x2 := (blk_cell hx3 2).trans rfl
      have x3 := (blk_cell hx3 3).trans rfl
      have x4 := (blk_cell hx3 4).trans rfl
      have x5 := (blk_cell hx3 5).trans rfl
      have HS : Hid (RGo n0 _ W _ _ _) := hset
      clear hset hgo3 hNN hw3 hs2 hA2 hA3 hx3 hw3o hsc hcw hobj y0 y1 y2 y3 y4 y5 z0 z1 z2 z3 z4 z5
      cases b with
      | false =>
        have hT : tot = (r5, false) := by
          have := HT2.out
          rw [if_neg (by decide)] at this
          exact this
        have HTf : Hid (tot = (r5, false)) := hT
        clear HT2 hT
        go_wp2_with (go_at_call 31; (with_reducible refine hec.mono ?_); rintro e w5 ⟨rfl, x5', hg5⟩)
        go_ret
        rw [HTf.out]
        exact ⟨rfl, _, RGo.trans HS.out hg5⟩
      | true =>
        have hT : Hid (takeL a n (i + 1) (xs.drop (i + 1)) r5 = tot) := by
          have := HT2.out
          rw [if_pos rfl] at this
          exact this.symm
        clear HT2
        go_wp2_with (go_at_call 31; (with_reducible refine hec.mono ?_); rintro e w5 ⟨rfl, x5', hg5⟩; have HG5 : Hid (RGo n0 _ W _ _ _) := RGo.trans HS.out hg5; clear hg5 HS hec)
        go_roundw
        case rel => exact ⟨i + 1, _, _, by omega, by go_num, HG5, hT, HN2⟩
        case measure => simp [intOf]; omega
    · obtain rfl : i = n := by omega
      go_wp2
      go_ret
      have hT := HT.out
      rw [List.drop_eq_nil_of_le (by rw [HL.out]; exact Nat.le_refl _), takeL] at hT
      rw [← hT]
      exact ⟨rfl, _, HG.out⟩
end Go.Proofs.YtmignbhpofmgeaaDoor.Top
