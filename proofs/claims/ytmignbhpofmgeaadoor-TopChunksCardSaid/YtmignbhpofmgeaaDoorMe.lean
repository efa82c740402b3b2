/- A part of the reader. -/
import Derived.Test.YtmignbhpofmgeaaDoorProg
import Derived.Below
import Derived.Deep.Draws
import Derived.Deep.AppendLies
import Derived.Maps.AppendAt
import Derived.OwnWalk
import Derived.Laws.BytesArg
import Derived.Laws.MakeOwn
import Derived.Laws.OwnMore
import Derived.Deep.OwnRows
import Derived.Tactics
import Derived.Lib.ConvBytes
import Derived.Laws.Slices
import Derived.WalkKit
import Derived.KernelRfl
import Derived.RowKit3
import Derived.Deep.LoopGhost
import Derived.Deep.QuietTactic
import Derived.BigQuiet
import Derived.WideLaws
import Derived.Deep.DeepCutAuto
import Derived.Deep.CutBlock
import Derived.Deep.RegionHeld3
import Derived.Laws.Rows
import Derived.Lib.AppendStr
import Derived.ArgAppend
import Derived.Laws.IdiomCopy
import Derived.OrdersHeld
import Derived.Laws.BitsLemmas
import Derived.RowKit
import Derived.Test.YtmignbhpofmgeaaDoorWWords
import Derived.Test.YtmignbhpofmgeaaDoorWLast
import Derived.Test.YtmignbhpofmgeaaDoorWTab
import Derived.Test.YtmignbhpofmgeaaDoorWFour
import Derived.Test.YtmignbhpofmgeaaDoorWQPut
import Derived.Test.YtmignbhpofmgeaaDoorWApart
import Derived.Test.YtmignbhpofmgeaaDoorWArr
import Derived.Test.YtmignbhpofmgeaaDoorWZeros
import Derived.Test.YtmignbhpofmgeaaDoorWFoot
import Derived.Test.YtmignbhpofmgeaaDoorWKept
import Derived.Test.YtmignbhpofmgeaaDoorWShare
import Derived.Test.YtmignbhpofmgeaaDoorWN
import Derived.Test.YtmignbhpofmgeaaDoorWFootNe
import Derived.Test.YtmignbhpofmgeaaDoorWAt
import Derived.Test.YtmignbhpofmgeaaDoorWEqStruct
import Derived.Test.YtmignbhpofmgeaaDoorWRepsOne
import Derived.Test.YtmignbhpofmgeaaDoorWInv
import Derived.Test.YtmignbhpofmgeaaDoorWInvWords
import Derived.Test.YtmignbhpofmgeaaDoorWGuard
import Derived.Test.YtmignbhpofmgeaaDoorWNEv
import Derived.Test.YtmignbhpofmgeaaDoorWMore
import Derived.Test.YtmignbhpofmgeaaDoorIter
import Derived.RangeFuncBox
import Derived.Lib.ConvBytes
import Derived.Test.YtmignbhpofmgeaaDoorMd
namespace Go.Proofs.YtmignbhpofmgeaaDoor.Top
open Go.RowKit Go.Proofs.YtmignbhpofmgeaaDoorW.PrintWords Go.Proofs.YtmignbhpofmgeaaDoorW.PrintLast Go.Proofs.YtmignbhpofmgeaaDoorW.PrintMore Go.Proofs.YtmignbhpofmgeaaDoor.Iter
set_option linter.unusedVariables false
set_option linter.unusedSimpArgs false

/-- The record is handed on. -/
theorem MkAt.drop {B : Nat} {m : MS} {fv rv : Value} {W : World} (h : MkAt B m fv rv W) : MkAt B { m with record := [] } fv (.slice none 0 0) (W.setCell ⟨B, 5, none⟩ (.slice none 0 0)) ∧ Acts (fun k => k = B) W (W.setCell ⟨B, 5, none⟩ (.slice none 0 0)) :=
  ⟨⟨by rw [blk_set h.obj]; rfl, owns_keep h.frow (fun k e => Below.heap_setCell W _ _ k (fun e' => h.ne.1 (by rw [e]; exact congrArg some e'))), World.ownsRow_nil _ _ _ _⟩, acts_set _ 5 _⟩
def take1 (m : MS) (e : Ev) : MS := if m.stopped = 0 then { (gatherM m e).1 with stopped := (gatherM m e).2 } else m
def handed (m : MS) : MS := { m with record := [], width := if m.count = 0 then (m.record.length : Int) else m.width, count := wrap64 (m.count + 1) }
/-- Take: what it holds then; the record that is handed out; is one; the error. -/
def takeM (m : MS) (e : Ev) : MS × List ByteArray × Bool × Int :=
  if (take1 m e).stopped = 0 ∧ e.record = true then (handed (take1 m e), (take1 m e).record, true, 0) else (take1 m e, [], false, (take1 m e).stopped)
/-- What Take comes to. -/
def TkTo (B : Nat) (m : MS) (ev : Ev) (fv rv : Value) (W : World) (e : Ending) (w' : World) : Prop :=
  ∃ out fv' rv', e = .returned (.tuple #[out, .bool (takeM m ev).2.2.1, .int .i64 (takeM m ev).2.2.2]) ∧ MGo B fv rv W (takeM m ev).1 fv' rv' w' ∧
    w'.ownsRow 0 9 1 out (takeM m ev).2.1.length ((takeM m ev).2.1.map Value.string) ∧ NewOr W rv out ∧ (∀ k, out.ownBlock = some k → rv'.ownBlock ≠ some k)
set_option maxRecDepth 100000 in
set_option maxHeartbeats 4000000 in
theorem take_calls (B : Nat) (m : MS) (e : Ev) (fv rv : Value) (W : World) (h : MkAt B m fv rv W) (hF : m.F ≤ 2147483648) (hn : m.record.length + 1 ≤ 2147483648) :
    Calls Tryd.prog 44 #[.pointer (some ⟨B, 0, none⟩), .agg e.cells] W (TkTo B m e fv rv W) := by
  obtain ⟨W1, hW1⟩ : ∃ W1, W.alloc (.cells e.cells 77) = W1 := ⟨_, rfl⟩
  have hx : W1.heap[W.heap.size]? = some (.cells e.cells 77 (0, 0)) := by rw [← hW1]; simpa using heap_alloc_new W (.cells e.cells 77)
  have hA1 : Acts (fun _ => False) W W1 := by rw [← hW1]; exact Acts.alloc _ _ _
  have hm1 : MkAt B m fv rv W1 := h.acts hA1 (fun _ _ h => h)
  have hbx : W.heap.size ≠ B ∧ fv.ownBlock ≠ some W.heap.size ∧ rv.ownBlock ≠ some W.heap.size := ⟨by have := h.lt; omega, fun e => by have := row_lt h.frow _ e; omega, fun e => by have := row_lt h.rrow _ e; omega⟩
  have hback : ∀ m' fv' rv' w', MGo B fv rv W1 m' fv' rv' w' → MGo B fv rv W m' fv' rv' w' := fun m' fv' rv' w' hg => ⟨hg.it, (hA1.weaken (fun _ _ h => h.elim)).trans hg.acts (fun _ h => .inl h), fun k hk => (hg.fnew k hk).imp id (fun h => Nat.le_trans hA1.size h), fun k hk => (hg.rnew k hk).imp id (fun h => Nat.le_trans hA1.size h)⟩
  have hg : MGo B fv rv W1 m fv rv W1 := MGo.refl hm1
  have c9 := (blk_cell hm1.obj 9).trans rfl
  simp only [MS.cells] at c9
  obtain ⟨e0, e1, e2, e3, e4, e5⟩ := e
  simp only [Ev.cells] at *
  have x0 := (blk_cell hx 0).trans rfl
  have x1 := (blk_cell hx 1).trans rfl
  have x2 := (blk_cell hx 2).trans rfl
  have x3 := (blk_cell hx 3).trans rfl
  have x4 := (blk_cell hx 4).trans rfl
  have x5 := (blk_cell hx 5).trans rfl
  by_cases hs : m.stopped = 0
  · have hgc := gather_calls B m ⟨e0, e1, e2, e3, e4, e5⟩ fv rv W1 hm1 hF hn
    simp only [Ev.cells] at hgc
    obtain ⟨M, r, hMr⟩ : ∃ M r, gatherM m ⟨e0, e1, e2, e3, e4, e5⟩ = (M, r) := ⟨_, _, rfl⟩
    rw [hMr] at hgc
    dsimp only at hgc
    unfold TkTo
    by_cases hr : r = 0
    · subst hr
      cases e4 with
      | false =>
        have ht : takeM m ⟨e0, e1, e2, e3, false, e5⟩ = ({ M with stopped := 0 }, [], false, 0) := by simp [takeM, take1, hs, hMr]
        rw [ht]
        go_enter Tryd.func44, Tryd.ntmps44
        go_wp2_with (go_at_call 53; (with_reducible refine hgc.mono ?_); rintro e w1 ⟨rfl, fv1, rv1, hg1⟩; have hm2 := hg1.it; obtain ⟨ra, rc, rfl⟩ := slice_len hm2.rrow; have hy := box_stays hm1 hx hbx hg1; have d9 := (blk_cell hm2.obj 9).trans rfl; have d5 := (blk_cell hm2.obj 5).trans rfl; have d7 := (blk_cell hm2.obj 7).trans rfl; have d8 := (blk_cell hm2.obj 8).trans rfl; have z9 := blk_frozen hm2.obj 9; have z5 := blk_frozen hm2.obj 5; have z7 := blk_frozen hm2.obj 7; have z8 := blk_frozen hm2.obj 8; simp only [MS.cells] at d9 d5 d7 d8; have y4 := (blk_cell hy 4).trans rfl; clear hgc)
        go_quiet (fail)
        go_wp2
        go_ret3
        have hm3 := hm2.set (m' := { M with stopped := 0 }) 9 (.int .i64 0) rfl rfl rfl; have hg3 : MGo B fv rv W1 { M with stopped := 0 } fv1 _ _ := hg1.trans ⟨hm3, (acts_set (B := B) _ 9 _).weaken (fun _ _ e => .inl e), NewOr.refl _ _, NewOr.refl _ _⟩
        exact ⟨_, _, _, rfl, hback _ _ _ _ (hg3.keep (hg3.it.keep (fun _ _ => rfl)) (Acts.drewN _ _ _)), World.ownsRow_nil _ _ _ _, NewOr.nil _ _ _ _, fun k hk => by cases hk⟩
      | true =>
        have ht : takeM m ⟨e0, e1, e2, e3, true, e5⟩ = (handed { M with stopped := 0 }, M.record, true, 0) := by simp [takeM, take1, hs, hMr]
        rw [ht]
        by_cases hc : M.count = 0
        · go_enter Tryd.func44, Tryd.ntmps44
          go_wp2_with (go_at_call 53; (with_reducible refine hgc.mono ?_); rintro e w1 ⟨rfl, fv1, rv1, hg1⟩; have hm2 := hg1.it; obtain ⟨ra, rc, rfl⟩ := slice_len hm2.rrow; have hy := box_stays hm1 hx hbx hg1; have d9 := (blk_cell hm2.obj 9).trans rfl; have d5 := (blk_cell hm2.obj 5).trans rfl; have d7 := (blk_cell hm2.obj 7).trans rfl; have d8 := (blk_cell hm2.obj 8).trans rfl; have z9 := blk_frozen hm2.obj 9; have z5 := blk_frozen hm2.obj 5; have z7 := blk_frozen hm2.obj 7; have z8 := blk_frozen hm2.obj 8; simp only [MS.cells] at d9 d5 d7 d8; have y4 := (blk_cell hy 4).trans rfl; clear hgc)
          go_ret3
          have hm3 := hm2.set (m' := { M with stopped := 0 }) 9 (.int .i64 0) rfl rfl rfl; have hg3 : MGo B fv rv W1 { M with stopped := 0 } fv1 _ _ := hg1.trans ⟨hm3, (acts_set (B := B) _ 9 _).weaken (fun _ _ e => .inl e), NewOr.refl _ _, NewOr.refl _ _⟩
          have hd := hg3.it.drop
          have hw := hd.1.set (m' := { M with record := [], stopped := 0, width := (M.record.length : Int) }) 8 (.int .i64 M.record.length) rfl rfl rfl
          have hc1 := hw.set (m' := handed { M with stopped := 0 }) 7 (.int .i64 1) (by rw [show handed { M with stopped := 0 } = { M with record := [], stopped := 0, width := (M.record.length : Int), count := 1 } from by simp [handed, hc]; unfold wrap64; decide]; rfl) rfl rfl
          refine ⟨_, _, _, rfl, hback _ _ _ _ (hg3.trans ⟨hc1, (hd.2.trans (acts_set (B := B) _ 8 _) (fun _ h => .inl h)).trans (acts_set (B := B) _ 7 _) (fun _ h => .inl h) |>.weaken (fun _ _ e => .inl e), NewOr.refl _ _, NewOr.nil _ _ _ _⟩), ?_, fun k hk => (hg3.rnew k hk).imp id (fun h => Nat.le_trans hA1.size h), fun k _ h => by cases h⟩
          exact owns_keep hg3.it.rrow (fun k e => ((hd.2.trans (acts_set (B := B) _ 8 _) (fun _ h => .inl h)).trans (acts_set (B := B) _ 7 _) (fun _ h => .inl h)).same k (row_lt hg3.it.rrow k e) (fun e' => hg3.it.ne.2 (by subst e'; exact e)))
        · go_enter Tryd.func44, Tryd.ntmps44
          go_wp2_with (go_at_call 53; (with_reducible refine hgc.mono ?_); rintro e w1 ⟨rfl, fv1, rv1, hg1⟩; have hm2 := hg1.it; obtain ⟨ra, rc, rfl⟩ := slice_len hm2.rrow; have hy := box_stays hm1 hx hbx hg1; have d9 := (blk_cell hm2.obj 9).trans rfl; have d5 := (blk_cell hm2.obj 5).trans rfl; have d7 := (blk_cell hm2.obj 7).trans rfl; have d8 := (blk_cell hm2.obj 8).trans rfl; have z9 := blk_frozen hm2.obj 9; have z5 := blk_frozen hm2.obj 5; have z7 := blk_frozen hm2.obj 7; have z8 := blk_frozen hm2.obj 8; simp only [MS.cells] at d9 d5 d7 d8; have y4 := (blk_cell hy 4).trans rfl; clear hgc)
          go_ret3
          have hm3 := hm2.set (m' := { M with stopped := 0 }) 9 (.int .i64 0) rfl rfl rfl; have hg3 : MGo B fv rv W1 { M with stopped := 0 } fv1 _ _ := hg1.trans ⟨hm3, (acts_set (B := B) _ 9 _).weaken (fun _ _ e => .inl e), NewOr.refl _ _, NewOr.refl _ _⟩
          have hd := hg3.it.drop
          have hc1 := hd.1.set (m' := handed { M with stopped := 0 }) 7 (.int .i64 (wrap64 (M.count + 1))) (by rw [show handed { M with stopped := 0 } = { M with record := [], stopped := 0, count := wrap64 (M.count + 1) } from by simp [handed, hc]]; rfl) rfl rfl
          refine ⟨_, _, _, rfl, hback _ _ _ _ (hg3.trans ⟨hc1, (hd.2.trans (acts_set (B := B) _ 7 _) (fun _ h => .inl h)).weaken (fun _ _ e => .inl e), NewOr.refl _ _, NewOr.nil _ _ _ _⟩), ?_, fun k hk => (hg3.rnew k hk).imp id (fun h => Nat.le_trans hA1.size h), fun k _ h => by cases h⟩
          exact owns_keep hg3.it.rrow (fun k e => (hd.2.trans (acts_set (B := B) _ 7 _) (fun _ h => .inl h)).same k (row_lt hg3.it.rrow k e) (fun e' => hg3.it.ne.2 (by subst e'; exact e)))
    · have ht : takeM m ⟨e0, e1, e2, e3, e4, e5⟩ = ({ M with stopped := r }, [], false, r) := by simp [takeM, take1, hs, hMr, hr]
      rw [ht]
      go_enter Tryd.func44, Tryd.ntmps44
      go_wp2_with (go_at_call 53; (with_reducible refine hgc.mono ?_); rintro e w1 ⟨rfl, fv1, rv1, hg1⟩; have hm2 := hg1.it; obtain ⟨ra, rc, rfl⟩ := slice_len hm2.rrow; have hy := box_stays hm1 hx hbx hg1; have d9 := (blk_cell hm2.obj 9).trans rfl; have d5 := (blk_cell hm2.obj 5).trans rfl; have d7 := (blk_cell hm2.obj 7).trans rfl; have d8 := (blk_cell hm2.obj 8).trans rfl; have z9 := blk_frozen hm2.obj 9; have z5 := blk_frozen hm2.obj 5; have z7 := blk_frozen hm2.obj 7; have z8 := blk_frozen hm2.obj 8; simp only [MS.cells] at d9 d5 d7 d8; have y4 := (blk_cell hy 4).trans rfl; clear hgc)
      go_quiet (fail)
      go_wp2
      go_ret3
      have hm3 := hm2.set (m' := { M with stopped := r }) 9 (.int .i64 r) rfl rfl rfl; have hg3 : MGo B fv rv W1 { M with stopped := r } fv1 _ _ := hg1.trans ⟨hm3, (acts_set (B := B) _ 9 _).weaken (fun _ _ e => .inl e), NewOr.refl _ _, NewOr.refl _ _⟩
      exact ⟨_, _, _, rfl, hback _ _ _ _ (hg3.keep (hg3.it.keep (fun _ _ => rfl)) (Acts.drewN _ _ _)), World.ownsRow_nil _ _ _ _, NewOr.nil _ _ _ _, fun k hk => by cases hk⟩
  · have ht : takeM m ⟨e0, e1, e2, e3, e4, e5⟩ = (m, [], false, m.stopped) := by simp [takeM, take1, hs]
    unfold TkTo
    rw [ht]
    go_enter Tryd.func44, Tryd.ntmps44
    go_wp2
    go_quiet (fail)
    go_wp2
    go_ret3
    exact ⟨_, _, _, rfl, hback _ _ _ _ (hg.keep (hg.it.keep (fun _ _ => rfl)) (Acts.drewN _ _ _)), World.ownsRow_nil _ _ _ _, NewOr.nil _ _ _ _, fun k hk => by cases hk⟩
end Go.Proofs.YtmignbhpofmgeaaDoor.Top
