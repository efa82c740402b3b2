/- A part of the reader. -/
import Derived.Test.YtmignbhpofmgeaaDoorProg
import Derived.Below
import Derived.Deep.Draws
import Derived.Deep.AppendLies
import Derived.Maps.AppendAt
import Derived.OwnWalk
import Derived.Laws.BytesArg
import Derived.Laws.MakeOwn
import Derived.Laws.OwnMore
import Derived.Deep.OwnRows
import Derived.Tactics
import Derived.Lib.ConvBytes
import Derived.Laws.Slices
import Derived.WalkKit
import Derived.KernelRfl
import Derived.RowKit3
import Derived.Deep.LoopGhost
import Derived.Deep.QuietTactic
import Derived.BigQuiet
import Derived.WideLaws
import Derived.Deep.DeepCutAuto
import Derived.Deep.CutBlock
import Derived.Deep.RegionHeld3
import Derived.Laws.Rows
import Derived.Lib.AppendStr
import Derived.ArgAppend
import Derived.Laws.IdiomCopy
import Derived.OrdersHeld
import Derived.Laws.BitsLemmas
import Derived.RowKit
import Derived.Test.YtmignbhpofmgeaaDoorWWords
import Derived.Test.YtmignbhpofmgeaaDoorWLast
import Derived.Test.YtmignbhpofmgeaaDoorWTab
import Derived.Test.YtmignbhpofmgeaaDoorWFour
import Derived.Test.YtmignbhpofmgeaaDoorWQPut
import Derived.Test.YtmignbhpofmgeaaDoorWApart
import Derived.Test.YtmignbhpofmgeaaDoorWArr
import Derived.Test.YtmignbhpofmgeaaDoorWZeros
import Derived.Test.YtmignbhpofmgeaaDoorWFoot
import Derived.Test.YtmignbhpofmgeaaDoorWKept
import Derived.Test.YtmignbhpofmgeaaDoorWShare
import Derived.Test.YtmignbhpofmgeaaDoorWN
import Derived.Test.YtmignbhpofmgeaaDoorWFootNe
import Derived.Test.YtmignbhpofmgeaaDoorWAt
import Derived.Test.YtmignbhpofmgeaaDoorWEqStruct
import Derived.Test.YtmignbhpofmgeaaDoorWRepsOne
import Derived.Test.YtmignbhpofmgeaaDoorWInv
import Derived.Test.YtmignbhpofmgeaaDoorWInvWords
import Derived.Test.YtmignbhpofmgeaaDoorWGuard
import Derived.Test.YtmignbhpofmgeaaDoorWNEv
import Derived.Test.YtmignbhpofmgeaaDoorWMore
import Derived.Test.YtmignbhpofmgeaaDoorIter
import Derived.RangeFuncBox
import Derived.Lib.ConvBytes
import Derived.Test.YtmignbhpofmgeaaDoorMv
namespace Go.Proofs.YtmignbhpofmgeaaDoor.Top
open Go.RowKit Go.Proofs.YtmignbhpofmgeaaDoorW.PrintWords Go.Proofs.YtmignbhpofmgeaaDoorW.PrintLast Go.Proofs.YtmignbhpofmgeaaDoorW.PrintMore Go.Proofs.YtmignbhpofmgeaaDoor.Iter
set_option linter.unusedVariables false
set_option linter.unusedSimpArgs false

/-- What a Reader holds. -/
structure RS where
  de : Int
  qu : Int
  en : Int
  mark : SS
  maker : MS
  utf : Nat
  state : Int
  offset : Int
  fk : Int
  fat : Int
  closed : Bool
  ready : List (List ByteArray)
  given : Int
/-- Where its parts lie. -/
structure RV where
  R : Nat
  S : Nat
  B : Nat
  fv : Value
  rv : Value
  qv : Value
def RS.cells (r : RS) (x : RV) : Array Value := #[.int .u8 r.de, .int .u8 r.qu, .int .i64 r.en, .pointer (some ⟨x.S, 0, none⟩), .pointer (some ⟨x.B, 0, none⟩), .int .i64 r.utf, .int .i64 r.state, .int .i64 r.offset, .int .i64 r.fk, .int .i64 r.fat, .bool r.closed, x.qv, .int .i64 r.given]
/-- The blocks that a Reader's calls may turn. -/
def RC (x : RV) (k : Nat) : Prop := k = x.R ∨ k = x.S ∨ MC x.B x.fv x.rv k ∨ x.qv.ownBlock = some k
/-- Rows of texts, not handed out. -/
def RowsAt (rv : Value) (W : World) (rows : List Value) (rs : List (List ByteArray)) : Prop :=
  rows.length = rs.length ∧ ∀ (i : Nat) (v : Value) (l : List ByteArray), rows[i]? = some v → rs[i]? = some l → W.ownsRow 0 9 1 v l.length (l.map Value.string) ∧ ∀ k, v.ownBlock = some k → rv.ownBlock ≠ some k
structure RAt (n0 : Nat) (x : RV) (r : RS) (W : World) : Prop where
  obj : W.heap[x.R]? = some (.cells (r.cells x) 69 (0, 0))
  mak : MkAt x.B r.maker x.fv x.rv W
  st : SAt x.S r.mark W
  que : ∃ rows, W.ownsRow 0 61 1 x.qv r.ready.length rows ∧ RowsAt x.rv W rows r.ready
  low : ∀ k, RC x k → n0 ≤ k
theorem RAt.lt {n0 : Nat} {x : RV} {r : RS} {W : World} (h : RAt n0 x r W) : x.R < W.heap.size := (Array.getElem?_eq_some_iff.1 h.obj).1
theorem RAt.rc_lt {n0 : Nat} {x : RV} {r : RS} {W : World} (h : RAt n0 x r W) (k : Nat) (hk : RC x k) : k < W.heap.size := by
  obtain ⟨rows, hq, _⟩ := h.que
  rcases hk with rfl | rfl | (rfl | hk | hk) | hk
  · exact h.lt
  · exact h.st.lt
  · exact h.mak.lt
  · exact row_lt h.mak.frow k hk
  · exact row_lt h.mak.rrow k hk
  · exact row_lt hq k hk
/-- A row of texts lies apart from what the calls turn. -/
theorem RAt.row_free {n0 : Nat} {x : RV} {r : RS} {W : World} (h : RAt n0 x r W) {v : Value} {n : Nat} {ys : List Value} (hv : W.ownsRow 0 9 1 v n ys) (ha : ∀ k, v.ownBlock = some k → x.rv.ownBlock ≠ some k) (k : Nat) (hk : v.ownBlock = some k) : ¬ RC x k := by
  obtain ⟨rows, hq, _⟩ := h.que
  rintro (rfl | rfl | (rfl | h1 | h1) | h1)
  · exact row_ne hv h.obj (by decide) hk
  · exact row_ne hv h.st (by decide) hk
  · exact row_ne hv h.mak.obj (by decide) hk
  · exact rows_apart hv h.mak.frow (by decide) k hk h1
  · exact ha k hk h1
  · exact rows_apart hv hq (by decide) k hk h1
/-- What the calls turn is kept; the rows that lie ready are not touched. -/
theorem RAt.rows_keep {n0 : Nat} {x : RV} {r : RS} {W W' : World} (h : RAt n0 x r W) (ha : Acts (RC x) W W') {rv' : Value} (hn : NewOr W x.rv rv') {rows : List Value} {rs : List (List ByteArray)} (hr : RowsAt x.rv W rows rs) : RowsAt rv' W' rows rs :=
  ⟨hr.1, fun i v l hi hl => by
    obtain ⟨h1, h2⟩ := hr.2 i v l hi hl
    exact ⟨owns_keep h1 (fun k hk => ha.same k (row_lt h1 k hk) (h.row_free h1 h2 k hk)), fun k hk hk' => (hn k hk').elim (h2 k hk) (fun hl => by have := row_lt h1 k hk; omega)⟩⟩
/-- Where the parts may lie then. -/
structure RNew (W : World) (x x' : RV) : Prop where
  R : x'.R = x.R
  S : x'.S = x.S
  B : x'.B = x.B
  fnew : NewOr W x.fv x'.fv
  rnew : NewOr W x.rv x'.rv
  qnew : NewOr W x.qv x'.qv
theorem RNew.refl (W : World) (x : RV) : RNew W x x := ⟨rfl, rfl, rfl, NewOr.refl _ _, NewOr.refl _ _, NewOr.refl _ _⟩
theorem RNew.trans {W W1 : World} {x y z : RV} (h : RNew W x y) (k : RNew W1 y z) (hs : W.heap.size ≤ W1.heap.size) : RNew W x z :=
  ⟨k.R.trans h.R, k.S.trans h.S, k.B.trans h.B, h.fnew.trans k.fnew hs, h.rnew.trans k.rnew hs, h.qnew.trans k.qnew hs⟩
theorem RNew.rc {W : World} {x y : RV} (h : RNew W x y) (k : Nat) (hk : RC y k) : RC x k ∨ W.heap.size ≤ k := by
  rcases hk with rfl | rfl | (rfl | hk | hk) | hk
  · exact .inl (.inl h.R)
  · exact .inl (.inr (.inl h.S))
  · exact .inl (.inr (.inr (.inl (.inl h.B))))
  · exact (h.fnew k hk).imp (fun e => .inr (.inr (.inl (.inr (.inl e))))) id
  · exact (h.rnew k hk).imp (fun e => .inr (.inr (.inl (.inr (.inr e))))) id
  · exact (h.qnew k hk).imp (fun e => .inr (.inr (.inr e))) id
/-- A Reader has gone on. -/
structure RGo (n0 : Nat) (x : RV) (W : World) (r' : RS) (x' : RV) (W' : World) : Prop where
  it : RAt n0 x' r' W'
  acts : Acts (RC x) W W'
  new : RNew W x x'
theorem RGo.refl {n0 : Nat} {x : RV} {r : RS} {W : World} (h : RAt n0 x r W) : RGo n0 x W r x W := ⟨h, Acts.refl _ _, RNew.refl _ _⟩
theorem RGo.trans {n0 : Nat} {x y z : RV} {r1 r2 : RS} {W W1 W2 : World} (h : RGo n0 x W r1 y W1) (k : RGo n0 y W1 r2 z W2) : RGo n0 x W r2 z W2 :=
  ⟨k.it, h.acts.trans k.acts (fun j hj => h.new.rc j hj), h.new.trans k.new h.acts.size⟩
/-- Nothing of it is touched. -/
theorem RAt.acts {n0 : Nat} {x : RV} {r : RS} {W W' : World} (h : RAt n0 x r W) (ha : Acts (fun _ => False) W W') : RAt n0 x r W' := by
  obtain ⟨rows, hq, hr⟩ := h.que
  have hk : ∀ k, k < W.heap.size → W'.heap[k]? = W.heap[k]? := fun k hk => ha.same k hk (fun h => h)
  exact ⟨(hk _ h.lt).trans h.obj, h.mak.acts ha (fun _ _ h => h), h.st.keep (hk _ h.st.lt), ⟨rows, owns_keep hq (fun k e => hk k (row_lt hq k e)), h.rows_keep (ha.weaken (fun _ _ h => h.elim)) (NewOr.refl _ _) hr⟩, h.low⟩
theorem RGo.more {n0 : Nat} {x y : RV} {r : RS} {W W1 W2 : World} (h : RGo n0 x W r y W1) (ha : Acts (fun _ => False) W1 W2) : RGo n0 x W r y W2 := ⟨h.it.acts ha, h.acts.trans ha (fun _ h => h.elim), h.new⟩
theorem RAt.ne {n0 : Nat} {x : RV} {r : RS} {W : World} (h : RAt n0 x r W) : x.S ≠ x.R ∧ x.B ≠ x.R ∧ x.fv.ownBlock ≠ some x.R ∧ x.rv.ownBlock ≠ some x.R ∧ x.qv.ownBlock ≠ some x.R := by
  obtain ⟨rows, hq, hr⟩ := h.que
  exact ⟨blk_ne h.st h.obj (by decide), blk_ne h.mak.obj h.obj (by decide), row_ne h.mak.frow h.obj (by decide), row_ne h.mak.rrow h.obj (by decide), row_ne hq h.obj (by decide)⟩
/-- A number of it is written. -/
theorem RAt.set {n0 : Nat} {x : RV} {r r' : RS} {W : World} (h : RAt n0 x r W) (j : Nat) (v : Value) (hc : (r.cells x).setIfInBounds j v = r'.cells x) (hm : r'.maker = r.maker) (hs : r'.mark = r.mark) (hq : r'.ready = r.ready) : RAt n0 x r' (W.setCell ⟨x.R, j, none⟩ v) := by
  obtain ⟨rows, hq1, hr⟩ := h.que
  obtain ⟨n1, n2, n3, n4, n5⟩ := h.ne
  have hk : ∀ k, k ≠ x.R → (W.setCell ⟨x.R, j, none⟩ v).heap[k]? = W.heap[k]? := fun k hk => Below.heap_setCell W _ _ k hk
  refine ⟨by rw [blk_set h.obj, hc], ?_, ?_, ⟨rows, ?_, ?_⟩, h.low⟩
  · rw [hm]; exact h.mak.keep (fun k hk' => hk k (by rcases hk' with rfl | e | e; exact n2; exact fun e' => n3 (e' ▸ e); exact fun e' => n4 (e' ▸ e)))
  · rw [hs]; exact h.st.keep (hk _ n1)
  · rw [hq]; exact owns_keep hq1 (fun k e => hk k (fun e' => n5 (e' ▸ e)))
  · rw [hq]; exact h.rows_keep ((acts_set (B := x.R) W j v).weaken (fun k _ e => .inl e)) (NewOr.refl _ _) hr
theorem RGo.set {n0 : Nat} {x y : RV} {r r' : RS} {W W1 : World} (h : RGo n0 x W r y W1) (j : Nat) (v : Value) (hc : (r.cells y).setIfInBounds j v = r'.cells y) (hm : r'.maker = r.maker) (hs : r'.mark = r.mark) (hq : r'.ready = r.ready) : RGo n0 x W r' y (W1.setCell ⟨y.R, j, none⟩ v) :=
  h.trans ⟨h.it.set j v hc hm hs hq, (acts_set (B := y.R) W1 j v).weaken (fun k _ e => .inl e), RNew.refl _ _⟩
def wrongR (r : RS) (k a : Int) : RS := { r with fk := k, fat := a, offset := a }
/-- A Reader's call comes to r' and v. -/
def RTo (n0 : Nat) (x : RV) (W : World) (r' : RS) (v : Value) (e : Ending) (w' : World) : Prop := e = .returned v ∧ ∃ x', RGo n0 x W r' x' w'
set_option maxRecDepth 100000 in
set_option maxHeartbeats 2000000 in
theorem wrong_calls (n0 : Nat) (x : RV) (r : RS) (k a : Int) (W : World) (h : RAt n0 x r W) :
    Calls Tryd.prog 28 #[.pointer (some ⟨x.R, 0, none⟩), .int .i64 k, .int .i64 a] W (RTo n0 x W (wrongR r k a) (.tuple #[])) := by
  have f7 := blk_frozen h.obj 7
  have f8 := blk_frozen h.obj 8
  have f9 := blk_frozen h.obj 9
  have c7 := (blk_cell h.obj 7).trans rfl
  have c8 := (blk_cell h.obj 8).trans rfl
  have c9 := (blk_cell h.obj 9).trans rfl
  simp only [RS.cells] at c7 c8 c9
  go_enter Tryd.func28, Tryd.ntmps28
  go_wp2
  refine bodyPost_end (results_none (fn := Tryd.f28) rfl _ _ _) rfl ?_
  have g0 := RGo.refl h
  have g1 := g0.set (r' := { r with fk := k }) 8 (.int .i64 k) rfl rfl rfl rfl
  have g2 := g1.set (r' := { r with fk := k, fat := a }) 9 (.int .i64 a) rfl rfl rfl rfl
  have g3 := g2.set (r' := wrongR r k a) 7 (.int .i64 a) rfl rfl rfl rfl
  exact ⟨rfl, _, g3⟩
/-- The Maker has gone on. -/
theorem RAt.maker {n0 : Nat} {x : RV} {r : RS} {W W' : World} (h : RAt n0 x r W) {m' : MS} {fv' rv' : Value} (hg : MGo x.B x.fv x.rv W m' fv' rv' W') : RGo n0 x W { r with maker := m' } { x with fv := fv', rv := rv' } W' := by
  obtain ⟨rows, hq, hr⟩ := h.que
  obtain ⟨n1, n2, n3, n4, n5⟩ := h.ne
  have ha : Acts (RC x) W W' := hg.acts.weaken (fun k _ e => .inr (.inr (.inl e)))
  have hn : RNew W x { x with fv := fv', rv := rv' } := ⟨rfl, rfl, rfl, hg.fnew, hg.rnew, NewOr.refl _ _⟩
  have hR : ¬ MC x.B x.fv x.rv x.R := fun e => e.elim (fun e => n2 e.symm) (fun e => e.elim n3 n4)
  have hS : ¬ MC x.B x.fv x.rv x.S := fun e => e.elim (fun e => blk_ne h.st h.mak.obj (by decide) e) (fun e => e.elim (row_ne h.mak.frow h.st (by decide)) (row_ne h.mak.rrow h.st (by decide)))
  have hQ : ∀ k, x.qv.ownBlock = some k → ¬ MC x.B x.fv x.rv k := fun k hk e => e.elim (fun e => row_ne hq h.mak.obj (by decide) (e ▸ hk)) (fun e => e.elim (rows_apart hq h.mak.frow (by decide) k hk) (rows_apart hq h.mak.rrow (by decide) k hk))
  refine ⟨⟨?_, hg.it, h.st.keep (hg.acts.same _ h.st.lt hS), ⟨rows, owns_keep hq (fun k e => hg.acts.same k (row_lt hq k e) (hQ k e)), h.rows_keep ha hg.rnew hr⟩, fun k hk => ?_⟩, ha, hn⟩
  · exact (hg.acts.same _ h.lt hR).trans h.obj
  · rcases hn.rc k hk with e | e
    · exact h.low k e
    · have := h.low x.R (.inl rfl); have := h.lt; omega
def eventR (r : RS) (ev : Ev) (f a : Int) : RS × Bool :=
  if f = 0 then
    if (takeM r.maker ev).2.2.2 = 0 then ({ r with maker := (takeM r.maker ev).1, ready := if (takeM r.maker ev).2.2.1 = true then r.ready ++ [(takeM r.maker ev).2.1] else r.ready }, true)
    else (wrongR { r with maker := (takeM r.maker ev).1 } (takeM r.maker ev).2.2.2 a, false)
  else (wrongR r f a, false)
theorem elem61 : (Tryd.prog.info? 61).map (fun i => (i.zero, i.size, i.bytes)) = some (some (.slice none 0 0), 1, 24) := by kernel_rfl
/-- The queue has grown, and it is written back. -/
theorem RAt.push {n0 : Nat} {x : RV} {r : RS} {W W2 : World} {o : Obj} (h : RAt n0 x r W) {qv' out : Value} {l : List ByteArray} {rows : List Value} (hq : W.ownsRow 0 61 1 x.qv r.ready.length rows) (hr : RowsAt x.rv W rows r.ready)
    (hown : W2.ownsRow 0 61 1 qv' (r.ready.length + 1) (rows ++ [out])) (hg : (W.alloc o).grownBy W2 x.qv.ownBlock)
    (hat : qv'.ownBlock = x.qv.ownBlock ∨ qv'.ownBlock = some (W.alloc o).heap.size) (hl : W.ownsRow 0 9 1 out l.length (l.map Value.string)) (hf : ∀ k, out.ownBlock = some k → x.rv.ownBlock ≠ some k) :
    RGo n0 x W { r with ready := r.ready ++ [l] } { x with qv := qv' } (W2.setCell ⟨x.R, 11, none⟩ qv') := by
  have hA := grown_acts hg
  obtain ⟨n1, n2, n3, n4, n5⟩ := h.ne
  have hR : W2.heap[x.R]? = some (.cells (r.cells x) 69 (0, 0)) := (hA.same x.R h.lt n5).trans h.obj
  have m1 : qv'.ownBlock ≠ some x.R := row_ne hown hR (by decide)
  have hA2 : Acts (RC x) W (W2.setCell ⟨x.R, 11, none⟩ qv') := (hA.weaken (fun k _ e => .inr (.inr (.inr e)))).trans (acts_set (B := x.R) _ 11 qv') (fun j hj => .inl (.inl hj))
  have hn : RNew W x { x with qv := qv' } := ⟨rfl, rfl, rfl, NewOr.refl _ _, NewOr.refl _ _, at_new hat⟩
  have hk : ∀ k, k < W.heap.size → k ≠ x.R → x.qv.ownBlock ≠ some k → (W2.setCell ⟨x.R, 11, none⟩ qv').heap[k]? = W.heap[k]? := fun k h1 h2 h3 => (Below.heap_setCell W2 _ _ k h2).trans (hA.same k h1 h3)
  refine ⟨⟨?_, ?_, ?_, ⟨rows ++ [out], ?_, ?_, ?_⟩, fun k hk => ?_⟩, hA2, hn⟩
  · rw [blk_set hR]; rfl
  · refine h.mak.keep (fun k hk' => ?_)
    rcases hk' with rfl | e | e
    · exact hk _ h.mak.lt n2 (row_ne hq h.mak.obj (by decide))
    · exact hk k (row_lt h.mak.frow k e) (fun e' => n3 (e' ▸ e)) (rows_apart h.mak.frow hq (by decide) k e)
    · exact hk k (row_lt h.mak.rrow k e) (fun e' => n4 (e' ▸ e)) (rows_apart h.mak.rrow hq (by decide) k e)
  · exact h.st.keep (hk _ h.st.lt n1 (row_ne hq h.st (by decide)))
  · have : W2.ownsRow 0 61 1 qv' (r.ready ++ [l]).length (rows ++ [out]) := by simpa using hown
    exact owns_keep this (fun k e => Below.heap_setCell W2 _ _ k (fun e' => m1 (by rw [e]; exact congrArg some e')))
  · simp [hr.1]
  · intro i v l' hi hl'
    by_cases hlt : i < rows.length
    · rw [List.getElem?_append_left hlt] at hi
      rw [List.getElem?_append_left (by rw [← hr.1]; exact hlt)] at hl'
      exact (h.rows_keep hA2 (NewOr.refl _ _) hr).2 i v l' hi hl'
    · have hi2 : i = rows.length := by
        have := (List.getElem?_eq_some_iff.1 hi).1; simp at this; omega
      subst hi2
      rw [List.getElem?_append_right (Nat.le_refl _)] at hi
      rw [List.getElem?_append_right (by rw [hr.1]; exact Nat.le_refl _)] at hl'
      simp at hi
      simp [hr.1] at hl'
      subst hi hl'
      exact ⟨owns_keep hl (fun k e => hA2.same k (row_lt hl k e) (h.row_free hl hf k e)), hf⟩
  · rcases hn.rc k hk with e | e
    · exact h.low k e
    · have := h.low x.R (.inl rfl); have := h.lt; omega
set_option maxRecDepth 100000 in
set_option maxHeartbeats 4000000 in
theorem event_calls (n0 : Nat) (x : RV) (r : RS) (ev : Ev) (f a : Int) (W : World) (h : RAt n0 x r W) (hF : r.maker.F ≤ 2147483648) (hn : r.maker.record.length + 1 ≤ 2147483648) (hq3 : r.ready.length + 1 ≤ 2147483648) :
    Calls Tryd.prog 31 #[.pointer (some ⟨x.R, 0, none⟩), .agg ev.cells, .int .i64 f, .int .i64 a] W (RTo n0 x W (eventR r ev f a).1 (.bool (eventR r ev f a).2)) := by
  obtain ⟨W1, hW1⟩ : ∃ W1, W.alloc (.cells ev.cells 77) = W1 := ⟨_, rfl⟩
  have hx : W1.heap[W.heap.size]? = some (.cells ev.cells 77 (0, 0)) := by rw [← hW1]; simpa using heap_alloc_new W (.cells ev.cells 77)
  have hA1 : Acts (fun _ => False) W W1 := by rw [← hW1]; exact Acts.alloc _ _ _
  have h1 : RAt n0 x r W1 := h.acts hA1
  have hback : ∀ r' x' w', RGo n0 x W1 r' x' w' → RGo n0 x W r' x' w' := fun r' x' w' hg => RGo.trans ⟨h1, hA1.weaken (fun _ _ h => h.elim), RNew.refl _ _⟩ hg
  have hgt : W.heap.size < W1.heap.size := (Array.getElem?_eq_some_iff.1 hx).1
  by_cases hf : f = 0
  · subst hf
    have hMC : ¬ MC x.B x.fv x.rv x.R ∧ ¬ MC x.B x.fv x.rv W.heap.size := by
      obtain ⟨n1, n2, n3, n4, n5⟩ := h.ne
      exact ⟨fun e => e.elim (fun e => n2 e.symm) (fun e => e.elim n3 n4), fun e => by have := h.rc_lt _ (.inr (.inr (.inl e))); omega⟩
    have hgc := take_calls x.B r.maker ev x.fv x.rv W1.drew (h1.acts (Acts.drewN _ _ 1)).mak hF hn
    obtain ⟨m', l, ok, k, hT⟩ : ∃ m' l ok k, takeM r.maker ev = (m', l, ok, k) := ⟨_, _, _, _, rfl⟩
    have hE : eventR r ev 0 a = if k = 0 then ({ r with maker := m', ready := if ok = true then r.ready ++ [l] else r.ready }, true) else (wrongR { r with maker := m' } k a, false) := by simp [eventR, hT]
    obtain ⟨r', b, hE2⟩ : ∃ r' b, eventR r ev 0 a = (r', b) := ⟨_, _, rfl⟩
    rw [hE2] at hE ⊢
    have HE : Hid ((r', b) = _) := hE
    unfold TkTo at hgc
    rw [hT] at hgc
    dsimp only at hgc
    clear hE hE2 hT
    obtain ⟨i0, hi, hz0, hz1, hz2⟩ := info_parts elem61
    obtain ⟨R, S, B, fv, rv, qv⟩ := x
    obtain ⟨e0, e1, e2, e3, e4, e5⟩ := ev
    simp only [Ev.cells] at hgc hW1 hx ⊢
    dsimp only at hMC
    go_enter Tryd.func31, Tryd.ntmps31
    go_wp2
    refine start_ (n := 13) (S := fun w' => w'.heap[R]? = some (.cells (r.cells ⟨R, S, B, fv, rv, qv⟩) 69 (0, 0)) ∧ w'.heap[W.heap.size]? = some (.cells #[.bool e0, .bool e1, .bool e2, .bool e3, .bool e4, .int .u8 e5] 77 (0, 0))) (ds := []) #[false, false, false, false, false, false, false, false, false, false, false, false, false] (by kernel_rfl) rfl rfl (⟨h1.obj, hx⟩) (fun hHeld => ?_)
    refine pure_ (i := 0) (N := some 14) (v := ?_) (a' := ?_) #[true, false, false, false, false, false, false, false, false, false, false, false, false] rfl rfl (by kernel_rfl) (fun _ _ _ h => h) (Or.inl ⟨by rfl, ?_⟩) ?_ ?_
    rotate_left
    · intro w'
      go_simp
      with_reducible rfl
    rotate_left
    · simp only [Act.put, List.setIfInBounds_toArray, List.set_cons_zero, List.set_cons_succ]
      rfl
    refine pure_ (i := 1) (N := some 15) (v := ?_) (a' := ?_) #[true, true, false, false, false, false, false, false, false, false, false, false, false] rfl rfl (by kernel_rfl) (fun _ _ _ h => h) (Or.inl ⟨by rfl, ?_⟩) ?_ ?_
    rotate_left
    · intro w'
      go_simp
      with_reducible rfl
    rotate_left
    · simp only [Act.put, List.setIfInBounds_toArray, List.set_cons_zero, List.set_cons_succ]
      rfl
    refine pure_ (i := 2) (N := some 16) (v := ?_) (a' := ?_) #[true, true, true, false, false, false, false, false, false, false, false, false, false] rfl rfl (by kernel_rfl) (fun _ _ _ h => h) (Or.inl ⟨by rfl, ?_⟩) ?_ ?_
    rotate_left
    · intro w'
      go_simp
      with_reducible rfl
    rotate_left
    · simp only [Act.put, List.setIfInBounds_toArray, List.set_cons_zero, List.set_cons_succ]
      rfl
    refine take_ (i := 3) (N := some 17) (v := ?_) (a' := ?_) #[true, true, true, true, false, false, false, false, false, false, false, false, false] rfl rfl (by kernel_rfl) (fun _ _ _ h => h) (Or.inl ⟨by rfl, ?_⟩) hHeld ?_ ?_
    rotate_left
    · intro w' s0
      obtain ⟨s1, s2⟩ := s0
      have c := (blk_cell s1 4).trans rfl
      simp only [RS.cells] at c
      clear s1 s2
      go_simp
      with_reducible rfl
    rotate_left
    · simp only [Act.put, List.setIfInBounds_toArray, List.set_cons_zero, List.set_cons_succ]
      rfl
    refine take_ (i := 4) (N := some 18) (v := ?_) (a' := ?_) #[true, true, true, true, true, false, false, false, false, false, false, false, false] rfl rfl (by kernel_rfl) (fun _ _ _ h => h) (Or.inl ⟨by rfl, ?_⟩) hHeld ?_ ?_
    rotate_left
    · intro w' s0
      obtain ⟨s1, s2⟩ := s0
      have y0 := (blk_cell s2 0).trans rfl
      have y1 := (blk_cell s2 1).trans rfl
      have y2 := (blk_cell s2 2).trans rfl
      have y3 := (blk_cell s2 3).trans rfl
      have y4 := (blk_cell s2 4).trans rfl
      have y5 := (blk_cell s2 5).trans rfl
      clear s1 s2
      go_simp
      with_reducible rfl
    rotate_left
    · simp only [Act.put, List.setIfInBounds_toArray, List.set_cons_zero, List.set_cons_succ]
      rfl
    refine one_ (i := 5) (N := some 19) #[true, true, true, true, true, true, false, false, false, false, false, false, false] rfl rfl (by kernel_rfl) (by decide) (fun K hK => ?_)
    refine goes_ Tryd.func44 (by kernel_rfl) rfl #[.pointer (some ⟨B, 0, none⟩), .agg #[.bool e0, .bool e1, .bool e2, .bool e3, .bool e4, .int .u8 e5]] (by rfl) rfl rfl (by simp only [List.map_toArray, List.map_cons, List.map_nil]; rfl) ?_
    with_reducible refine (hgc).mono ?_
    rintro e w2 ⟨out, fv2, rv2, rfl, hg, hout, hnout, hfree⟩
    refine ⟨_, rfl, ?_⟩
    refine hK.out _ _ (⟨(hg.acts.same R h1.lt (hMC.1)).trans h1.obj, (hg.acts.same _ (by have := hgt; exact this) hMC.2).trans hx⟩) (fun hHeld => ?_)
    clear hK K
    refine norm_ (a' := ?_) ?_ ?_
    rotate_left
    · show Act.put _ (some 19) _ = _
      simp only [Act.put, List.setIfInBounds_toArray, List.set_cons_zero, List.set_cons_succ]
      rfl
    refine pure_ (i := 6) (N := some 13) (v := ?_) (a' := ?_) #[true, true, true, true, true, true, true, false, false, false, false, false, false] rfl rfl (by kernel_rfl) (fun _ _ _ h => h) (Or.inl ⟨by rfl, ?_⟩) ?_ ?_
    rotate_left
    · intro w'
      go_simp
      with_reducible rfl
    rotate_left
    · simp only [Act.put, List.setIfInBounds_toArray, List.set_cons_zero, List.set_cons_succ]
      rfl
    refine pure_ (i := 7) (N := some 20) (v := ?_) (a' := ?_) #[true, true, true, true, true, true, true, true, false, false, false, false, false] rfl rfl (by kernel_rfl) (fun _ _ _ h => h) (Or.inl ⟨by rfl, ?_⟩) ?_ ?_
    rotate_left
    · intro w'
      go_simp
      with_reducible rfl
    rotate_left
    · simp only [Act.put, List.setIfInBounds_toArray, List.set_cons_zero, List.set_cons_succ]
      rfl
    refine pure_ (i := 8) (N := some 21) (v := ?_) (a' := ?_) #[true, true, true, true, true, true, true, true, true, false, false, false, false] rfl rfl (by kernel_rfl) (fun _ _ _ h => h) (Or.inl ⟨by rfl, ?_⟩) ?_ ?_
    rotate_left
    · intro w'
      go_simp
      with_reducible rfl
    rotate_left
    · simp only [Act.put, List.setIfInBounds_toArray, List.set_cons_zero, List.set_cons_succ]
      rfl
    refine pure_ (i := 9) (N := some 22) (v := ?_) (a' := ?_) #[true, true, true, true, true, true, true, true, true, true, false, false, false] rfl rfl (by kernel_rfl) (fun _ _ _ h => h) (Or.inl ⟨by rfl, ?_⟩) ?_ ?_
    rotate_left
    · intro w'
      go_simp
      with_reducible rfl
    rotate_left
    · simp only [Act.put, List.setIfInBounds_toArray, List.set_cons_zero, List.set_cons_succ]
      rfl
    refine pure_ (i := 10) (N := some 9) (v := ?_) (a' := ?_) #[true, true, true, true, true, true, true, true, true, true, true, false, false] rfl rfl (by kernel_rfl) (fun _ _ _ h => h) (Or.inl ⟨by rfl, ?_⟩) ?_ ?_
    rotate_left
    · intro w'
      go_simp
      with_reducible rfl
    rotate_left
    · simp only [Act.put, List.setIfInBounds_toArray, List.set_cons_zero, List.set_cons_succ]
      rfl
    refine pure_ (i := 11) (N := some 10) (v := ?_) (a' := ?_) #[true, true, true, true, true, true, true, true, true, true, true, true, false] rfl rfl (by kernel_rfl) (fun _ _ _ h => h) (Or.inl ⟨by rfl, ?_⟩) ?_ ?_
    rotate_left
    · intro w'
      go_simp
      with_reducible rfl
    rotate_left
    · simp only [Act.put, List.setIfInBounds_toArray, List.set_cons_zero, List.set_cons_succ]
      rfl
    refine pure_ (i := 12) (N := some 2) (v := ?_) (a' := ?_) #[true, true, true, true, true, true, true, true, true, true, true, true, true] rfl rfl (by kernel_rfl) (fun _ _ _ h => h) (Or.inl ⟨by rfl, ?_⟩) ?_ ?_
    rotate_left
    · intro w'
      go_simp
      with_reducible rfl
    rotate_left
    · simp only [Act.put, List.setIfInBounds_toArray, List.set_cons_zero, List.set_cons_succ]
      rfl
    refine done_ (by kernel_rfl) ?_
    clear hHeld hgc hx hMC
    have hr2 := (h1.acts (Acts.drewN _ _ 1)).maker hg
    have hgo : RGo n0 ⟨R, S, B, fv, rv, qv⟩ W { r with maker := m' } ⟨R, S, B, fv2, rv2, qv⟩ w2 := hback _ _ _ (RGo.trans ⟨h1.acts (Acts.drewN _ _ 1), Acts.drewN _ _ 1, RNew.refl _ _⟩ hr2)
    clear hr2 hg hback
    by_cases hk : k = 0
    · subst hk
      have hE := HE.out
      rw [if_pos rfl] at hE
      cases ok with
      | false =>
        cases hE
        go_wp2
        go_ret
        exact ⟨rfl, _, hgo⟩
      | true =>
        cases hE
        obtain ⟨rows, hq, hrow⟩ := hgo.it.que
        obtain ⟨qa, qc, hqv⟩ := slice_len hq
        dsimp only at hqv hq
        subst hqv
        obtain ⟨oa, oc, rfl⟩ := slice_len hout
        have c11 := (blk_cell hgo.it.obj 11).trans rfl
        simp only [RS.cells] at c11
        go_wp2_with (at_builtin; refine wpList_append_own_at _ rfl _ _ 44 rfl 0 61 i0 (.slice none 0 0) 1 24 Tryd.underlying44 hi hz0 hz1 hz2 rfl (by decide) _ r.ready.length _ rfl (World.ownsRow.alloc hq _) ⟨w2.heap.size, 0, none⟩ 1 1 [.slice oa l.length oc] rfl rfl (cell_one_new w2 _ _) (by simp [Value.oneCell']) (by simp [maxLen]; omega) (by omega) (by simp) ?_; intro v' w3 hown hgrow hnil hat; obtain ⟨g, cap, rfl⟩ := ownsRow_succ hown; have hR3 := ((grown_acts hgrow).same R hgo.it.lt hgo.it.ne.2.2.2.2).trans hgo.it.obj; have c1 := (blk_cell hR3 11).trans rfl; have f1 := blk_frozen hR3 11; simp only [RS.cells] at c1)
        go_ret
        exact ⟨rfl, _, RGo.trans hgo (hgo.it.push hq hrow hown hgrow hat hout hfree)⟩
    · have hE := HE.out
      rw [if_neg hk] at hE
      cases hE
      have hwc := wrong_calls n0 _ _ k a w2 hgo.it
      dsimp only at hwc
      go_wp2_with (go_at_call 28; (with_reducible refine hwc.mono ?_); rintro e w3 ⟨rfl, x3, hg3⟩)
      go_ret
      exact ⟨rfl, _, RGo.trans hgo hg3⟩
  · have e : eventR r ev f a = (wrongR r f a, false) := if_neg hf
    rw [e]
    have hwc := wrong_calls n0 x r f a W1 h1
    obtain ⟨R, S, B, fv, rv, qv⟩ := x
    obtain ⟨e0, e1, e2, e3, e4, e5⟩ := ev
    simp only [Ev.cells] at hx hW1 ⊢
    go_enter Tryd.func31, Tryd.ntmps31
    go_wp2_with (go_at_call 28; (with_reducible refine hwc.mono ?_); rintro e w2 ⟨rfl, x2, hg2⟩)
    go_ret
    exact ⟨rfl, _, hback _ _ _ hg2⟩
end Go.Proofs.YtmignbhpofmgeaaDoor.Top
