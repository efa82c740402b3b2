/- A part of the reader. -/
import Derived.Test.YtmignbhpofmgeaaDoorProg
import Derived.Below
import Derived.Deep.Draws
import Derived.Deep.AppendLies
import Derived.Maps.AppendAt
import Derived.OwnWalk
import Derived.Laws.BytesArg
import Derived.Laws.MakeOwn
import Derived.Laws.OwnMore
import Derived.Deep.OwnRows
import Derived.Tactics
import Derived.Lib.ConvBytes
import Derived.Laws.Slices
import Derived.WalkKit
import Derived.KernelRfl
import Derived.RowKit3
import Derived.Deep.LoopGhost
import Derived.Deep.QuietTactic
import Derived.BigQuiet
import Derived.WideLaws
import Derived.Deep.DeepCutAuto
import Derived.Deep.CutBlock
import Derived.Deep.RegionHeld3
import Derived.Laws.Rows
import Derived.Lib.AppendStr
import Derived.ArgAppend
import Derived.Laws.IdiomCopy
import Derived.OrdersHeld
import Derived.Laws.BitsLemmas
import Derived.RowKit
import Derived.Test.YtmignbhpofmgeaaDoorWWords
import Derived.Test.YtmignbhpofmgeaaDoorWLast
import Derived.Test.YtmignbhpofmgeaaDoorWTab
import Derived.Test.YtmignbhpofmgeaaDoorWFour
import Derived.Test.YtmignbhpofmgeaaDoorWQPut
import Derived.Test.YtmignbhpofmgeaaDoorWApart
import Derived.Test.YtmignbhpofmgeaaDoorWArr
import Derived.Test.YtmignbhpofmgeaaDoorWZeros
import Derived.Test.YtmignbhpofmgeaaDoorWFoot
import Derived.Test.YtmignbhpofmgeaaDoorWKept
import Derived.Test.YtmignbhpofmgeaaDoorWShare
import Derived.Test.YtmignbhpofmgeaaDoorWN
import Derived.Test.YtmignbhpofmgeaaDoorWFootNe
import Derived.Test.YtmignbhpofmgeaaDoorWAt
import Derived.Test.YtmignbhpofmgeaaDoorWEqStruct
import Derived.Test.YtmignbhpofmgeaaDoorWRepsOne
import Derived.Test.YtmignbhpofmgeaaDoorWInv
import Derived.Test.YtmignbhpofmgeaaDoorWInvWords
import Derived.Test.YtmignbhpofmgeaaDoorWGuard
import Derived.Test.YtmignbhpofmgeaaDoorWNEv
import Derived.Test.YtmignbhpofmgeaaDoorWMore
import Derived.Test.YtmignbhpofmgeaaDoorIter
import Derived.RangeFuncBox
import Derived.Lib.ConvBytes
import Derived.Test.YtmignbhpofmgeaaDoorMx
import Derived.WalkMore
namespace Go.Proofs.YtmignbhpofmgeaaDoor.Top
open Go.RowKit Go.Proofs.YtmignbhpofmgeaaDoorW.PrintWords Go.Proofs.YtmignbhpofmgeaaDoorW.PrintLast Go.Proofs.YtmignbhpofmgeaaDoorW.PrintMore Go.Proofs.YtmignbhpofmgeaaDoor.Iter
set_option linter.unusedVariables false
set_option linter.unusedSimpArgs false

/-- A block of another kind is turned: the Reader stays. -/
theorem RAt.far {n0 : Nat} {x : RV} {r : RS} {W W' : World} (h : RAt n0 x r W) {L t : Nat} {cs : Array Value} (hL : W.heap[L]? = some (.cells cs t (0, 0))) (ht : t ≠ 69 ∧ t ≠ 98 ∧ t ≠ 96 ∧ t ≠ 5 ∧ t ≠ 9 ∧ t ≠ 61) (ha : Acts (fun k => k = L) W W') : RAt n0 x r W' := by
  obtain ⟨rows, hq, hr⟩ := h.que
  obtain ⟨t1, t2, t3, t4, t5, t6⟩ := ht
  have hk : ∀ k, k < W.heap.size → k ≠ L → W'.heap[k]? = W.heap[k]? := fun k h1 h2 => ha.same k h1 h2
  refine ⟨(hk _ h.lt (blk_ne h.obj hL (Ne.symm t1))).trans h.obj, h.mak.keep (fun k hk' => ?_), h.st.keep (hk _ h.st.lt (blk_ne h.st hL (Ne.symm t2))), ⟨rows, owns_keep hq (fun k e => hk k (row_lt hq k e) (fun e' => row_ne hq hL (Ne.symm t6) (e' ▸ e))), hr.1, fun i v l hi hl => ?_⟩, h.low⟩
  · rcases hk' with rfl | e | e
    · exact hk _ h.mak.lt (blk_ne h.mak.obj hL (Ne.symm t3))
    · exact hk k (row_lt h.mak.frow k e) (fun e' => row_ne h.mak.frow hL (Ne.symm t4) (e' ▸ e))
    · exact hk k (row_lt h.mak.rrow k e) (fun e' => row_ne h.mak.rrow hL (Ne.symm t5) (e' ▸ e))
  · obtain ⟨h1, h2⟩ := hr.2 i v l hi hl
    exact ⟨owns_keep h1 (fun k e => hk k (row_lt h1 k e) (fun e' => row_ne h1 hL (Ne.symm t5) (e' ▸ e))), h2⟩
/-- The Stripper has gone on. -/
theorem RAt.strip {n0 : Nat} {x : RV} {r : RS} {W W' : World} (h : RAt n0 x r W) {s' : SS} (hs : SAt x.S s' W') (ha : Acts (fun k => k = x.S) W W') : RGo n0 x W { r with mark := s' } x W' := by
  obtain ⟨rows, hq, hr⟩ := h.que
  have ha2 : Acts (RC x) W W' := ha.weaken (fun k _ e => .inr (.inl e))
  have hk : ∀ k, k < W.heap.size → k ≠ x.S → W'.heap[k]? = W.heap[k]? := fun k h1 h2 => ha.same k h1 h2
  refine ⟨⟨(hk _ h.lt (Ne.symm h.ne.1)).trans h.obj, h.mak.keep (fun k hk' => ?_), hs, ⟨rows, owns_keep hq (fun k e => hk k (row_lt hq k e) (fun e' => row_ne hq h.st (by decide) (e' ▸ e))), h.rows_keep ha2 (NewOr.refl _ _) hr⟩, h.low⟩, ha2, RNew.refl _ _⟩
  rcases hk' with rfl | e | e
  · exact hk _ h.mak.lt (blk_ne h.mak.obj h.st (by decide))
  · exact hk k (row_lt h.mak.frow k e) (fun e' => row_ne h.mak.frow h.st (by decide) (e' ▸ e))
  · exact hk k (row_lt h.mak.rrow k e) (fun e' => row_ne h.mak.rrow h.st (by decide) (e' ▸ e))
theorem flt_stored {W : World} {L : Nat} {c d : Value} (h : W.heap[L]? = some (.cells #[c, d] 35 (0, 0))) (a b : Value) : ((W.setCell ⟨L, 0, none⟩ a).setCell ⟨L, 1, none⟩ b).heap[L]? = some (.cells #[a, b] 35 (0, 0)) := by
  rw [blk_set (blk_set h 0 a) 1 b]
  simp only [List.setIfInBounds_toArray, List.set_cons_zero, List.set_cons_succ]
theorem flt_acts (W : World) (L : Nat) (a b : Value) : Acts (fun k => k = L) W ((W.setCell ⟨L, 0, none⟩ a).setCell ⟨L, 1, none⟩ b) := (acts_set (B := L) W 0 a).trans (acts_set (B := L) _ 1 b) (fun _ h => .inl h)
def fltV (r : RS) : Value := .agg #[.int .i64 r.fk, .int .i64 r.fat]
set_option maxRecDepth 100000 in
set_option maxHeartbeats 2000000 in
theorem offset_calls (n0 : Nat) (x : RV) (r : RS) (W : World) (h : RAt n0 x r W) : Calls Tryd.prog 11 #[.pointer (some ⟨x.R, 0, none⟩)] W (fun e w' => e = .returned (.int .i64 r.offset) ∧ Acts (fun _ => False) W w') := by
  have c7 := (blk_cell h.obj 7).trans rfl
  simp only [RS.cells] at c7
  go_enter Tryd.func11, Tryd.ntmps11
  go_wp2
  go_ret
  exact ⟨rfl, Acts.refl _ _⟩
set_option maxRecDepth 100000 in
set_option maxHeartbeats 2000000 in
theorem count_calls (n0 : Nat) (x : RV) (r : RS) (W : World) (h : RAt n0 x r W) : Calls Tryd.prog 10 #[.pointer (some ⟨x.R, 0, none⟩)] W (fun e w' => e = .returned (.int .i64 (wrap64 (r.given + r.ready.length))) ∧ Acts (fun _ => False) W w') := by
  obtain ⟨rows, hq, hr⟩ := h.que
  obtain ⟨qa, qc, hqv⟩ := slice_len hq
  have c12 := (blk_cell h.obj 12).trans rfl
  have c11 := (blk_cell h.obj 11).trans rfl
  simp only [RS.cells] at c12 c11
  rw [hqv] at c11 c12
  clear hqv hq
  go_enter Tryd.func10, Tryd.ntmps10
  go_wp2
  go_quiet (fail)
  go_wp2
  go_ret
  exact ⟨rfl, Acts.drewN _ _ _⟩
set_option maxRecDepth 100000 in
set_option maxHeartbeats 2000000 in
theorem fault_calls (n0 : Nat) (x : RV) (r : RS) (W : World) (h : RAt n0 x r W) : Calls Tryd.prog 13 #[.pointer (some ⟨x.R, 0, none⟩)] W (fun e w' => e = .returned (fltV r) ∧ Acts (fun _ => False) W w') := by
  obtain ⟨W1, hW1⟩ : ∃ W1, W.alloc (.cells #[.int .i64 0, .int .i64 0] 35) = W1 := ⟨_, rfl⟩
  have hx : W1.heap[W.heap.size]? = some (.cells #[.int .i64 0, .int .i64 0] 35 (0, 0)) := by rw [← hW1]; simpa using heap_alloc_new W (.cells #[.int .i64 0, .int .i64 0] 35)
  have hA1 : Acts (fun _ => False) W W1 := by rw [← hW1]; exact Acts.alloc _ _ _
  have h1 := h.acts hA1
  have c8 := (blk_cell h1.obj 8).trans rfl
  have c9 := (blk_cell h1.obj 9).trans rfl
  simp only [RS.cells] at c8 c9
  have x0 := (blk_cell hx 0).trans rfl
  have x1 := (blk_cell hx 1).trans rfl
  have y0 := blk_frozen hx 0
  have y1 := blk_frozen hx 1
  have hlt := h.lt
  have n1 : W.heap.size ≠ x.R := by omega
  have n2 : x.R ≠ W.heap.size := by omega
  go_enter Tryd.func13, Tryd.ntmps13
  go_wp2
  refine bodyPost_ret (results_cell_row rfl _ _ W.heap.size 35 #[.int .i64 r.fk, .int .i64 r.fat] (0, 0) _ rfl (flt_stored hx _ _) Tryd.underlying35 rfl (by kernel_rfl)) rfl ?_
  exact ⟨rfl, hA1.trans (flt_acts _ _ _ _) (fun j e => .inr (by omega))⟩
theorem Bytes.blk {n0 : Nat} {W : World} {v : Value} {xs : List Int} {g cap : Nat} (h : Bytes n0 W v xs g cap) (k : Nat) (hk : v.ownBlock = some k) : k = g := by
  rw [h.val] at hk
  exact (Option.some.inj hk).symm
theorem box_cell (W : World) (u : Value) (t : TypeId) : (W.alloc (.cells #[u] t)).cell? ⟨W.heap.size, 0, none⟩ = some u := by
  have h := cell_one_new W u t 0 u rfl
  rw [add_plain] at h
  exact h
theorem box_cell2 (W : World) (a b : Addr) (v w u : Value) (t : TypeId) : (((W.setCell a v).setCell b w).alloc (.cells #[u] t)).cell? ⟨W.heap.size, 0, none⟩ = some u := by
  have h := box_cell ((W.setCell a v).setCell b w) u t
  rw [show ((W.setCell a v).setCell b w).heap.size = W.heap.size by simp] at h
  exact h
/-- It stands so that it can go on. -/
def Fine (M : Nat) (r : RS) : Prop := 0 ≤ r.offset ∧ r.offset ≤ M ∧ 0 ≤ r.mark.held ∧ r.mark.held ≤ 2 ∧ r.utf < 8
theorem feedS_len (s : SS) (c : Int) : (feedS s c).2.length ≤ 3 + 1 := by
  unfold feedS
  split
  · simp
  split
  · simp
  split
  · simp
  · simp [bomMark]; omega
theorem feedS_len3 (s : SS) (c : Int) (h2 : s.held ≤ 2) : (feedS s c).2.length ≤ 3 := by
  unfold feedS
  split
  · simp
  split
  · simp
  split
  · simp
  · simp [bomMark]; omega
theorem closeS_len (s : SS) (h2 : s.held ≤ 2) : (closeS s).2.length ≤ 3 := by
  simp [closeS, bomMark]; omega
theorem stepU_lt (i : Nat) (b : Int) : 0 ≤ (stepU i b).1 ∧ (stepU i b).1 < 8 := by
  unfold stepU stepIn
  split
  · rename_i s hs
    have hm := List.mem_of_find?_eq_some hs
    have : ∀ i, i < 8 → ∀ s ∈ utfTab.getD i [], 0 ≤ s.2.2 ∧ s.2.2 < 8 := by decide
    by_cases hi : i < 8
    · exact this i hi s hm
    · rw [List.getD_eq_getElem?_getD, List.getElem?_eq_none (by simp [utfTab]; omega)] at hm; cases hm
  · exact ⟨Int.le_refl _, by show (0 : Int) < 8; decide⟩
/-- What an event leaves. -/
theorem eventR_keeps (r : RS) (ev : Ev) (f a : Int) : (eventR r ev f a).1.mark = r.mark ∧ (eventR r ev f a).1.utf = r.utf ∧ (eventR r ev f a).1.closed = r.closed ∧
    ((eventR r ev f a).2 = true → (eventR r ev f a).1.offset = r.offset ∧ (eventR r ev f a).1.fk = r.fk ∧ (eventR r ev f a).1.fat = r.fat) ∧ ((eventR r ev f a).2 = false → (eventR r ev f a).1.fk ≠ 0) := by
  unfold eventR
  split
  · split
    · exact ⟨rfl, rfl, rfl, fun _ => ⟨rfl, rfl, rfl⟩, fun h => by cases h⟩
    · rename_i h
      exact ⟨rfl, rfl, rfl, (fun h => by cases h), fun _ => h⟩
  · rename_i h
    exact ⟨rfl, rfl, rfl, (fun h => by cases h), fun _ => h⟩
theorem takeL_keeps {a : Int} {n : Nat} : ∀ (xs : List Int) (i : Nat) (r : RS), (takeL a n i xs r).1.mark = r.mark ∧ (takeL a n i xs r).1.utf = r.utf ∧ (takeL a n i xs r).1.closed = r.closed ∧
    ((takeL a n i xs r).2 = true → (takeL a n i xs r).1.offset = r.offset ∧ (takeL a n i xs r).1.fk = r.fk ∧ (takeL a n i xs r).1.fat = r.fat) ∧ ((takeL a n i xs r).2 = false → (takeL a n i xs r).1.fk ≠ 0)
  | [], i, r => ⟨rfl, rfl, rfl, fun _ => ⟨rfl, rfl, rfl⟩, fun h => by cases h⟩
  | c :: cs, i, r => by
    obtain ⟨h1, h2, h3, h4, h5⟩ := eventR_keeps { r with state := (scanS r.de r.qu r.en r.state c).2.1 } (scanS r.de r.qu r.en r.state c).1 (scanS r.de r.qu r.en r.state c).2.2 (a - n + 1 + i)
    unfold takeL
    split
    · rename_i ht
      obtain ⟨g1, g2, g3, g4, g5⟩ := takeL_keeps cs (i + 1) (eventR { r with state := (scanS r.de r.qu r.en r.state c).2.1 } (scanS r.de r.qu r.en r.state c).1 (scanS r.de r.qu r.en r.state c).2.2 (a - n + 1 + i)).1
      exact ⟨g1.trans h1, g2.trans h2, g3.trans h3, fun h => ⟨(g4 h).1.trans (h4 ht).1, (g4 h).2.1.trans (h4 ht).2.1, (g4 h).2.2.trans (h4 ht).2.2⟩, g5⟩
    · rename_i ht
      exact ⟨h1, h2, h3, (fun h => by cases h), fun _ => h5 (by simpa using ht)⟩
/-- The text ends in the middle, or a byte doesn't go on: what is kept back is ahead of it. -/
def cutR (r : RS) (k : Int) : RS :=
  if (takeL (r.offset - 1) (closeS r.mark).2.length 0 (closeS r.mark).2 { r with mark := (closeS r.mark).1 }).2 = true
  then wrongR (takeL (r.offset - 1) (closeS r.mark).2.length 0 (closeS r.mark).2 { r with mark := (closeS r.mark).1 }).1 k r.offset
  else (takeL (r.offset - 1) (closeS r.mark).2.length 0 (closeS r.mark).2 { r with mark := (closeS r.mark).1 }).1
/-- One byte more; does it go on? -/
def stepR (r : RS) (c : Int) : RS × Bool :=
  if (stepU r.utf c).2 = true then takeL r.offset (feedS r.mark c).2.length 0 (feedS r.mark c).2 { r with utf := (stepU r.utf c).1.toNat, offset := r.offset + 1, mark := (feedS r.mark c).1 }
  else (cutR r 3, false)
def feedL : List Int → RS → RS
  | [], r => r
  | c :: cs, r => if (stepR r c).2 = true then feedL cs (stepR r c).1 else (stepR r c).1
def feedB (xs : List Int) (r : RS) : RS := if r.closed = true ∨ r.fk ≠ 0 then r else feedL xs r
theorem Fine.step {M : Nat} {r : RS} (h : Fine M r) (c : Int) (ht : (stepR r c).2 = true) : Fine (M + 1) (stepR r c).1 := by
  unfold stepR at ht ⊢
  split
  · rename_i hu
    rw [if_pos hu] at ht
    obtain ⟨h1, h2, h3, h4, h5⟩ := takeL_keeps (a := r.offset) (n := (feedS r.mark c).2.length) (feedS r.mark c).2 0 { r with utf := (stepU r.utf c).1.toNat, offset := r.offset + 1, mark := (feedS r.mark c).1 }
    have hs := stepU_lt r.utf c
    have hf := feedS_held r.mark c h.2.2.1 h.2.2.2.1
    have ho := (h4 ht).1
    obtain ⟨f1, f2, f3, f4, f5⟩ := h
    refine ⟨?_, ?_, ?_, ?_, ?_⟩
    · rw [ho]; show 0 ≤ r.offset + 1; omega
    · rw [ho]; show r.offset + 1 ≤ _; omega
    · rw [h1]; exact hf.1
    · rw [h1]; exact hf.2
    · rw [h2]; show (stepU r.utf c).1.toNat < 8; omega
  · rename_i hu
    rw [if_neg hu] at ht; cases ht
theorem Small.step {N : Nat} {r : RS} (h : Small N r) (hh : r.mark.held ≤ 2) (c : Int) : Small (N + 8) (stepR r c).1 := by
  unfold stepR
  split
  · exact (Small.take (a := r.offset) (n := (feedS r.mark c).2.length) (feedS r.mark c).2 0 N { r with utf := (stepU r.utf c).1.toNat, offset := r.offset + 1, mark := (feedS r.mark c).1 } h).mono (by have := feedS_len3 r.mark c hh; omega)
  · have hc := (Small.take (a := r.offset - 1) (n := (closeS r.mark).2.length) (closeS r.mark).2 0 N { r with mark := (closeS r.mark).1 } h).mono (N' := N + 8) (by have := closeS_len r.mark hh; omega)
    show Small _ (cutR r 3)
    unfold cutR
    split
    · exact hc
    · exact hc
/-- A piece that is handed over. -/
def BArg (x : RV) (W : World) (v : Value) (xs : List Int) : Prop := ∃ A cap, v = .slice A xs.length cap ∧ ∀ (i : Nat) (y : Int), xs[i]? = some y → ∃ g, A = some ⟨g, 0, none⟩ ∧ g < W.heap.size ∧ ¬ RC x g ∧ W.cell? ⟨g, i, none⟩ = some (.int .u8 y)
set_option maxRecDepth 100000 in
set_option maxHeartbeats 8000000 in
theorem rfeed_calls (n0 : Nat) (x : RV) (r : RS) (xs : List Int) (v : Value) (N M : Nat) (W : World) (h : RAt n0 x r W) (hU : Utf n0 W) (hN : Small N r) (hNb : N + 8 * xs.length + 10 ≤ 2147483648) (hM : r.closed = true ∨ r.fk ≠ 0 ∨ Fine M r) (hMb : M + xs.length ≤ 1000000000) (hv : BArg x W v xs) :
    Calls Tryd.prog 9 #[.pointer (some ⟨x.R, 0, none⟩), v] W (RTo n0 x W (feedB xs r) (fltV (feedB xs r))) := by
  obtain ⟨W1, hW1⟩ : ∃ W1, W.alloc (.cells #[.int .i64 0, .int .i64 0] 35) = W1 := ⟨_, rfl⟩
  have hx : W1.heap[W.heap.size]? = some (.cells #[.int .i64 0, .int .i64 0] 35 (0, 0)) := by rw [← hW1]; simpa using heap_alloc_new W (.cells #[.int .i64 0, .int .i64 0] 35)
  have hA1 : Acts (fun _ => False) W W1 := by rw [← hW1]; exact Acts.alloc _ _ _
  have h1 := h.acts hA1
  have hlt := h.lt
  have hLR : ¬ RC x W.heap.size := fun e => by have := h.rc_lt _ e; omega
  have hgt : W.heap.size < W1.heap.size := (Array.getElem?_eq_some_iff.1 hx).1
  -- what the end does
  have HEnd : Hid (∀ r' x' w', RGo n0 x W1 r' x' w' → w'.heap[W.heap.size]? = some (.cells #[.int .i64 0, .int .i64 0] 35 (0, 0)) ∧ (∀ a b : Value, RGo n0 x W r' x' ((w'.setCell ⟨W.heap.size, 0, none⟩ a).setCell ⟨W.heap.size, 1, none⟩ b) ∧ ((w'.setCell ⟨W.heap.size, 0, none⟩ a).setCell ⟨W.heap.size, 1, none⟩ b).heap[W.heap.size]? = some (.cells #[a, b] 35 (0, 0)))) := by
    intro r' x' w' hg
    have hxw : w'.heap[W.heap.size]? = some (.cells #[.int .i64 0, .int .i64 0] 35 (0, 0)) := (hg.acts.same _ hgt hLR).trans hx
    refine ⟨hxw, fun a b => ⟨?_, flt_stored hxw a b⟩⟩
    have hb : RGo n0 x W r' x' w' := RGo.trans ⟨h1, hA1.weaken (fun _ _ h => h.elim), RNew.refl _ _⟩ hg
    exact ⟨hb.it.far hxw (by decide) (flt_acts _ _ _ _), hb.acts.trans (flt_acts _ _ _ _) (fun j e => .inr (by omega)), hb.new⟩
  obtain ⟨A, cap, rfl, hcell⟩ := hv
  obtain ⟨n, hn⟩ : ∃ n, xs.length = n := ⟨_, rfl⟩
  have n1 : W.heap.size ≠ x.R := by omega
  have n2 : x.R ≠ W.heap.size := by omega
  have c8 := (blk_cell h1.obj 8).trans rfl
  have c9 := (blk_cell h1.obj 9).trans rfl
  have c10 := (blk_cell h1.obj 10).trans rfl
  simp only [RS.cells] at c8 c9 c10
  have x0 := (blk_cell hx 0).trans rfl
  have x1 := (blk_cell hx 1).trans rfl
  have y0 := blk_frozen hx 0
  have y1 := blk_frozen hx 1
  by_cases hst : r.closed = true ∨ r.fk ≠ 0
  · have e : feedB xs r = r := if_pos hst
    rw [e]
    have hE := HEnd.out r x W1 (RGo.refl h1)
    have hfin := (hE.2 (.int .i64 r.fk) (.int .i64 r.fat))
    obtain ⟨R, S, B, fv, rv, qv⟩ := x
    dsimp only at *
    clear HEnd hE hcell hLR e
    cases hcl : r.closed with
    | true =>
      rw [hcl] at c10
      clear hst
      go_enter Tryd.func9, Tryd.ntmps9
      go_wp2
      refine wp_scope_straight ?_
      go_wp2
      refine bodyPost_ret (results_cell_row rfl _ _ W.heap.size 35 #[.int .i64 r.fk, .int .i64 r.fat] (0, 0) _ rfl hfin.2 Tryd.underlying35 rfl (by kernel_rfl)) rfl ?_
      exact ⟨rfl, _, hfin.1⟩
    | false =>
      rw [hcl] at c10
      have hk : ¬ r.fk = 0 := by rw [hcl] at hst; simpa using hst
      clear hst
      go_enter Tryd.func9, Tryd.ntmps9
      go_wp2
      refine wp_scope_straight ?_
      go_wp2
      refine bodyPost_ret (results_cell_row rfl _ _ W.heap.size 35 #[.int .i64 r.fk, .int .i64 r.fat] (0, 0) _ rfl hfin.2 Tryd.underlying35 rfl (by kernel_rfl)) rfl ?_
      exact ⟨rfl, _, hfin.1⟩
  · have e : feedB xs r = feedL xs r := if_neg hst
    rw [e]
    have hcl : r.closed = false := by cases hc : r.closed <;> simp [hc] at hst ⊢
    have hfk : r.fk = 0 := by
      by_cases hz : r.fk = 0
      · exact hz
      · exact absurd (Or.inr hz) hst
    rw [hcl] at c10
    rw [hfk] at c8
    clear hst e
    obtain ⟨tot, htot⟩ : ∃ tot, feedL xs r = tot := ⟨_, rfl⟩
    rw [htot]
    have HT0 : Hid (feedL (xs.drop 0) r = tot) := htot
    have HG0 : Hid (RGo n0 x W1 r x W1) := RGo.refl h1
    have HN0 : Hid (Small (N + 8 * 0) r) := hN
    have HM0 : Hid (Fine (M + 0) r) := hM.elim (fun h => by rw [hcl] at h; cases h) (fun h => h.elim (fun h => absurd hfk h) id)
    have HU : Hid (Utf n0 W1) := hU.acts hA1 (fun _ h => h.elim)
    have HC : Hid (∀ (i : Nat) (y : Int), xs[i]? = some y → ∃ g, A = some ⟨g, 0, none⟩ ∧ g < W.heap.size ∧ ¬ RC x g ∧ W1.cell? ⟨g, i, none⟩ = some (.int .u8 y)) := fun i y hi => by
      obtain ⟨g, h2, h3, h4, h5⟩ := hcell i y hi
      exact ⟨g, h2, h3, h4, (cell_same (hA1.same g h3 (fun h => h))).trans h5⟩
    have HL : Hid (xs.length = n) := hn
    have HA1 : Hid (Acts (fun _ => False) W W1) := hA1
    have HLow : Hid (∀ k, RC x k → n0 ≤ k) := h1.low
    rw [hn] at hNb hMb ⊢
    clear hcell htot hN hn h hU h1 hA1 hM hLR hgt
    obtain ⟨R, S, B, fv, rv, qv⟩ := x
    dsimp only at *
    go_enter Tryd.func9, Tryd.ntmps9
    go_wp2
    refine wp_scope_straight ?_
    go_wp2
    refine wp_label ?_
    go_wp2
    go_loopw [28] (fun y wl => ∃ (i : Nat) (x' : RV) (r' : RS), i ≤ n ∧ y = .int .i64 i ∧ Hid (RGo n0 ⟨R, S, B, fv, rv, qv⟩ W1 r' x' wl) ∧ Hid (feedL (xs.drop i) r' = tot) ∧ Hid (Small (N + 8 * i) r') ∧ Hid (Fine (M + i) r')) (fun y _ => n - (intOf y).toNat)
    case atStart => exact ⟨0, _, _, Nat.zero_le _, rfl, HG0, HT0, HN0, HM0⟩
    case round =>
      obtain ⟨i, x', r', hi, rfl, HG, HT, HN, HM⟩ := hrel
      by_cases hlt0 : i < n
      · obtain ⟨c, hc⟩ : ∃ c, xs[i]? = some c := ⟨_, List.getElem?_eq_getElem (by rw [HL.out]; exact hlt0)⟩
        obtain ⟨g, rfl, hgl, hgR, hcc⟩ := HC.out i c hc
        have hg0 := HG.out
        have hcw : wr.cell? ⟨g, i, none⟩ = some (.int .u8 c) := (cell_same (hg0.acts.same g (by have := hg0.acts.size; have := Acts.size HA1.out; omega) hgR)).trans hcc
        have hRR := hg0.new.R
        obtain ⟨R', S', B', fv', rv', qv'⟩ := x'
        dsimp only at hRR
        have hRR2 := hRR.symm
        clear hRR
        subst hRR2
        have hobj := hg0.it.obj
        dsimp only at hobj
        have c3 := (blk_cell hobj 3).trans rfl
        have c5 := (blk_cell hobj 5).trans rfl
        have c7 := (blk_cell hobj 7).trans rfl
        simp only [RS.cells] at c3 c5 c7
        have hF := HM.out
        obtain ⟨o1, o2, m1, m2, hu8⟩ := hF
        have hstep := step_calls n0 r'.utf c wr (HU.out.acts hg0.acts HLow.out) hu8
        have hd : xs.drop i = c :: xs.drop (i + 1) := by
          obtain ⟨hi1, rfl⟩ := List.getElem?_eq_some_iff.1 hc
          exact List.drop_eq_getElem_cons hi1
        have HT2 : Hid (tot = if (stepR r' c).2 = true then feedL (xs.drop (i + 1)) (stepR r' c).1 else (stepR r' c).1) := by
          have := HT.out
          rw [hd, feedL] at this
          exact this.symm
        have HNs : Hid (Small (N + 8 * (i + 1)) (stepR r' c).1) := Small.step (N := N + 8 * i) HN.out m2 c
        have HMs : Hid ((stepR r' c).2 = true → Fine (M + (i + 1)) (stepR r' c).1) := fun h => Fine.step (M := M + i) HM.out c h
        obtain ⟨u, ok, hSU⟩ : ∃ (u : Nat) (ok : Bool), stepU r'.utf c = ((u : Int), ok) := ⟨(stepU r'.utf c).1.toNat, (stepU r'.utf c).2, by rw [Int.toNat_of_nonneg (stepU_lt _ _).1]⟩
        rw [hSU] at hstep
        dsimp only at hstep
        have hw1 : wrap64 (r'.offset - 1) = r'.offset - 1 := w64 (by omega) (by omega)
        have hw2 : wrap64 (r'.offset + 1) = r'.offset + 1 := w64 (by omega) (by omega)
        cases ok with
        | false =>
          obtain ⟨r6, b6, hT6⟩ : ∃ r6 b6, takeL (r'.offset - 1) (closeS r'.mark).2.length 0 (closeS r'.mark).2 { r' with mark := (closeS r'.mark).1 } = (r6, b6) := ⟨_, _, rfl⟩
          have hcut : tot = if b6 = true then wrongR r6 3 r'.offset else r6 := by
            have := HT2.out
            simp only [stepR, hSU, cutR, hT6] at this
            simpa using this
          clear HT2 hcc hd HNs HMs hSU HT
          have hN6 := HN.out
          cases b6 with
          | false =>
            rw [if_neg (by decide)] at hcut
            subst hcut
            go_wp2_with (first
              | (go_at_call 25; (with_reducible refine hstep.mono ?_); rintro e w1 ⟨rfl, hA⟩; have hg1 := RGo.more HG.out hA; have d3 := (blk_cell hg1.it.obj 3).trans rfl; simp only [RS.cells] at d3)
              | (go_at_call 27; (with_reducible refine (close_calls S' r'.mark w1 hg1.it.st m1 m2).mono ?_); rintro e w2 ⟨v', g', cap', rfl, hB, hS, hA2⟩; have hg2 := hg1.trans (hg1.it.strip hS hA2); have ht := rtake_calls n0 _ _ (r'.offset - 1) _ v' _ (N + 8 * i) w2 hg2.it hN6 (by have := closeS_len r'.mark m2; omega) (.inr ⟨_, _, hB⟩) (fun k hk e => by have h3 := hg1.it.rc_lt k e; have h4 := hB.new; have h5 := hB.blk k hk; omega) (closeS_len r'.mark m2) (by omega); rw [hT6] at ht; dsimp only at ht)
              | (go_at_call 26; (with_reducible refine ht.mono ?_); rintro e w5 ⟨rfl, ⟨R5, S5, B5, fv5, rv5, qv5⟩, hg5⟩; have hR5 := hg5.new.R.symm; dsimp only at hR5; subst hR5; have hgf := hg2.trans hg5; have hE := HEnd.out _ _ _ hgf; have l0 := (blk_cell hE.1 0).trans rfl; have l1 := (blk_cell hE.1 1).trans rfl; have k0 := blk_frozen hE.1 0; have k1 := blk_frozen hE.1 1; have d8 := (blk_cell hgf.it.obj 8).trans rfl; have d9 := (blk_cell hgf.it.obj 9).trans rfl; simp only [RS.cells] at d8 d9))
            refine bodyPost_ret (results_cell_row rfl _ _ W.heap.size 35 #[.int .i64 tot.fk, .int .i64 tot.fat] (0, 0) _ rfl (hE.2 _ _).2 Tryd.underlying35 rfl (by kernel_rfl)) rfl ?_
            exact ⟨rfl, _, (hE.2 _ _).1⟩
          | true =>
            rw [if_pos rfl] at hcut
            subst hcut
            go_wp2_with (first
              | (go_at_call 25; (with_reducible refine hstep.mono ?_); rintro e w1 ⟨rfl, hA⟩; have hg1 := RGo.more HG.out hA; have d3 := (blk_cell hg1.it.obj 3).trans rfl; simp only [RS.cells] at d3)
              | (go_at_call 27; (with_reducible refine (close_calls S' r'.mark w1 hg1.it.st m1 m2).mono ?_); rintro e w2 ⟨v', g', cap', rfl, hB, hS, hA2⟩; have hg2 := hg1.trans (hg1.it.strip hS hA2); have ht := rtake_calls n0 _ _ (r'.offset - 1) _ v' _ (N + 8 * i) w2 hg2.it hN6 (by have := closeS_len r'.mark m2; omega) (.inr ⟨_, _, hB⟩) (fun k hk e => by have h3 := hg1.it.rc_lt k e; have h4 := hB.new; have h5 := hB.blk k hk; omega) (closeS_len r'.mark m2) (by omega); rw [hT6] at ht; dsimp only at ht)
              | (go_at_call 26; (with_reducible refine ht.mono ?_); rintro e w5 ⟨rfl, ⟨R5, S5, B5, fv5, rv5, qv5⟩, hg5⟩; have hR5 := hg5.new.R.symm; dsimp only at hR5; subst hR5; have hg6 := hg2.trans hg5)
              | (go_at_call 28; (with_reducible refine (wrong_calls n0 _ _ 3 r'.offset w5 hg6.it).mono ?_); rintro e w6 ⟨rfl, x6, hg7⟩; have hgf := hg6.trans hg7; have hR6 := hg7.new.R; obtain ⟨R6, S6, B6, fv6, rv6, qv6⟩ := x6; have hR7 := hR6.symm; clear hR6; dsimp only at hR7; subst hR7; have hE := HEnd.out _ _ _ hgf; have l0 := (blk_cell hE.1 0).trans rfl; have l1 := (blk_cell hE.1 1).trans rfl; have k0 := blk_frozen hE.1 0; have k1 := blk_frozen hE.1 1; have d8 := (blk_cell hgf.it.obj 8).trans rfl; have d9 := (blk_cell hgf.it.obj 9).trans rfl; simp only [RS.cells] at d8 d9))
            refine bodyPost_ret (results_cell_row rfl _ _ W.heap.size 35 #[.int .i64 (wrongR r6 3 r'.offset).fk, .int .i64 (wrongR r6 3 r'.offset).fat] (0, 0) _ rfl (hE.2 _ _).2 Tryd.underlying35 rfl (by kernel_rfl)) rfl ?_
            exact ⟨rfl, _, (hE.2 _ _).1⟩
        | true =>
          obtain ⟨r6, b6, hT6⟩ : ∃ r6 b6, takeL r'.offset (feedS r'.mark c).2.length 0 (feedS r'.mark c).2 { r' with utf := u, offset := r'.offset + 1, mark := (feedS r'.mark c).1 } = (r6, b6) := ⟨_, _, rfl⟩
          have hSR : stepR r' c = (r6, b6) := by
            simp only [stepR, hSU, Int.toNat_natCast]
            rw [if_pos trivial]
            exact hT6
          rw [hSR] at HT2 HNs HMs
          have HT3 : Hid (tot = if b6 = true then feedL (xs.drop (i + 1)) r6 else r6) := HT2
          clear HT2 hcc hd hSU HT hSR
          have hN6 := HN.out
          have hl6 := feedS_len3 r'.mark c m2
          cases b6 with
          | false =>
            have hcut := HT3.out
            rw [if_neg (by decide)] at hcut
            subst hcut
            clear HT3 HNs HMs
            go_wp2_with (first
              | (go_at_call 25; (with_reducible refine hstep.mono ?_); rintro e w1 ⟨rfl, hA⟩; have hg1 := RGo.more HG.out hA; have hg2 := (hg1.set (r' := { r' with utf := u }) 5 (.int .i64 u) rfl rfl rfl rfl).set (r' := { r' with utf := u, offset := r'.offset + 1 }) 7 (.int .i64 (r'.offset + 1)) rfl rfl rfl rfl; dsimp only at hg2; have d3 := (blk_cell hg1.it.obj 3).trans rfl; have d5 := (blk_cell hg1.it.obj 5).trans rfl; have d7 := (blk_cell hg1.it.obj 7).trans rfl; have f5 := blk_frozen hg1.it.obj 5; have f7 := blk_frozen hg1.it.obj 7; simp only [RS.cells] at d3 d5 d7; have HG2 : Hid (RGo n0 _ W1 _ _ _) := hg2; clear hg2 hg1)
              | (go_at_call 29; have hg3 := RGo.more HG2.out (Acts.alloc _ _ (.cells #[.int .u8 c] 5)); have hS2 := HG2.out.it.st.lt; (with_reducible refine (feed_calls S' r'.mark _ hg3.it.st m1 m2 w1.heap.size c (box_cell2 w1 _ _ _ _ _ _) (fun e => by rw [← e] at hS2; simp at hS2)).mono ?_); rintro e w2 ⟨v', rfl, hH, hS, hA2⟩; have hg4 := hg3.trans (hg3.it.strip hS hA2); have ht := rtake_calls n0 _ _ r'.offset _ v' _ (N + 8 * i) w2 hg4.it hN6 (by omega) hH (fun k hk e => by have h3 := hg3.it.rc_lt k e; rcases hH with ⟨_, h4⟩ | ⟨g4, cap4, h4⟩; (· rw [h4] at hk; cases hk); have h5 := h4.new; have h6 := h4.blk k hk; omega) hl6 (by omega); rw [hT6] at ht; dsimp only at ht; clear hS2 hg3)
              | (go_at_call 26; (with_reducible refine ht.mono ?_); rintro e w5 ⟨rfl, ⟨R5, S5, B5, fv5, rv5, qv5⟩, hg5⟩; have hR5 := hg5.new.R.symm; dsimp only at hR5; subst hR5; have hgf := hg4.trans hg5; have hE := HEnd.out _ _ _ hgf; have l0 := (blk_cell hE.1 0).trans rfl; have l1 := (blk_cell hE.1 1).trans rfl; have k0 := blk_frozen hE.1 0; have k1 := blk_frozen hE.1 1; have d8 := (blk_cell hgf.it.obj 8).trans rfl; have d9 := (blk_cell hgf.it.obj 9).trans rfl; simp only [RS.cells] at d8 d9))
            refine bodyPost_ret (results_cell_row rfl _ _ W.heap.size 35 #[.int .i64 tot.fk, .int .i64 tot.fat] (0, 0) _ rfl (hE.2 _ _).2 Tryd.underlying35 rfl (by kernel_rfl)) rfl ?_
            exact ⟨rfl, _, (hE.2 _ _).1⟩
          | true =>
            have HT4 : Hid (feedL (xs.drop (i + 1)) r6 = tot) := by
              have := HT3.out
              rw [if_pos rfl] at this
              exact this.symm
            have HMt : Hid (Fine (M + (i + 1)) r6) := HMs.out rfl
            clear HT3 HMs
            go_wp2_with (first
              | (go_at_call 25; (with_reducible refine hstep.mono ?_); rintro e w1 ⟨rfl, hA⟩; have hg1 := RGo.more HG.out hA; have hg2 := (hg1.set (r' := { r' with utf := u }) 5 (.int .i64 u) rfl rfl rfl rfl).set (r' := { r' with utf := u, offset := r'.offset + 1 }) 7 (.int .i64 (r'.offset + 1)) rfl rfl rfl rfl; dsimp only at hg2; have d3 := (blk_cell hg1.it.obj 3).trans rfl; have d5 := (blk_cell hg1.it.obj 5).trans rfl; have d7 := (blk_cell hg1.it.obj 7).trans rfl; have f5 := blk_frozen hg1.it.obj 5; have f7 := blk_frozen hg1.it.obj 7; simp only [RS.cells] at d3 d5 d7; have HG2 : Hid (RGo n0 _ W1 _ _ _) := hg2; clear hg2 hg1)
              | (go_at_call 29; have hg3 := RGo.more HG2.out (Acts.alloc _ _ (.cells #[.int .u8 c] 5)); have hS2 := HG2.out.it.st.lt; (with_reducible refine (feed_calls S' r'.mark _ hg3.it.st m1 m2 w1.heap.size c (box_cell2 w1 _ _ _ _ _ _) (fun e => by rw [← e] at hS2; simp at hS2)).mono ?_); rintro e w2 ⟨v', rfl, hH, hS, hA2⟩; have hg4 := hg3.trans (hg3.it.strip hS hA2); have ht := rtake_calls n0 _ _ r'.offset _ v' _ (N + 8 * i) w2 hg4.it hN6 (by omega) hH (fun k hk e => by have h3 := hg3.it.rc_lt k e; rcases hH with ⟨_, h4⟩ | ⟨g4, cap4, h4⟩; (· rw [h4] at hk; cases hk); have h5 := h4.new; have h6 := h4.blk k hk; omega) hl6 (by omega); rw [hT6] at ht; dsimp only at ht; clear hS2 hg3)
              | (go_at_call 26; (with_reducible refine ht.mono ?_); rintro e w5 ⟨rfl, ⟨R5, S5, B5, fv5, rv5, qv5⟩, hg5⟩; have hR5 := hg5.new.R.symm; dsimp only at hR5; subst hR5; have HG5 : Hid (RGo n0 _ W1 _ _ _) := hg4.trans hg5; clear hg5 hg4))
            go_roundw
            case rel => exact ⟨i + 1, _, _, by omega, by go_num, HG5, HT4, HNs, HMt⟩
            case measure => simp [intOf]; omega
      · obtain rfl : i = n := by omega
        have hT := HT.out
        rw [List.drop_eq_nil_of_le (by rw [HL.out]; exact Nat.le_refl _), feedL] at hT
        subst hT
        have hgf := HG.out
        have hRR := hgf.new.R
        obtain ⟨R', S', B', fv', rv', qv'⟩ := x'
        dsimp only at hRR
        have hRR2 := hRR.symm
        clear hRR
        subst hRR2
        have hE := HEnd.out _ _ _ hgf
        have l0 := (blk_cell hE.1 0).trans rfl
        have l1 := (blk_cell hE.1 1).trans rfl
        have k0 := blk_frozen hE.1 0
        have k1 := blk_frozen hE.1 1
        have d8 := (blk_cell hgf.it.obj 8).trans rfl
        have d9 := (blk_cell hgf.it.obj 9).trans rfl
        simp only [RS.cells] at d8 d9
        clear hgf
        go_wp2
        refine bodyPost_ret (results_cell_row rfl _ _ W.heap.size 35 #[.int .i64 r'.fk, .int .i64 r'.fat] (0, 0) _ rfl (hE.2 _ _).2 Tryd.underlying35 rfl (by kernel_rfl)) rfl ?_
        exact ⟨rfl, _, (hE.2 _ _).1⟩
end Go.Proofs.YtmignbhpofmgeaaDoor.Top
