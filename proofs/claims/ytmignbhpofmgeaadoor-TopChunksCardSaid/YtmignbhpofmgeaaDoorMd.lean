/- A part of the reader. -/
import Derived.Test.YtmignbhpofmgeaaDoorProg
import Derived.Below
import Derived.Deep.Draws
import Derived.Deep.AppendLies
import Derived.Maps.AppendAt
import Derived.OwnWalk
import Derived.Laws.BytesArg
import Derived.Laws.MakeOwn
import Derived.Laws.OwnMore
import Derived.Deep.OwnRows
import Derived.Tactics
import Derived.Lib.ConvBytes
import Derived.Laws.Slices
import Derived.WalkKit
import Derived.KernelRfl
import Derived.RowKit3
import Derived.Deep.LoopGhost
import Derived.Deep.QuietTactic
import Derived.BigQuiet
import Derived.WideLaws
import Derived.Deep.DeepCutAuto
import Derived.Deep.CutBlock
import Derived.Deep.RegionHeld3
import Derived.Laws.Rows
import Derived.Lib.AppendStr
import Derived.ArgAppend
import Derived.Laws.IdiomCopy
import Derived.OrdersHeld
import Derived.Laws.BitsLemmas
import Derived.RowKit
import Derived.Test.YtmignbhpofmgeaaDoorWWords
import Derived.Test.YtmignbhpofmgeaaDoorWLast
import Derived.Test.YtmignbhpofmgeaaDoorWTab
import Derived.Test.YtmignbhpofmgeaaDoorWFour
import Derived.Test.YtmignbhpofmgeaaDoorWQPut
import Derived.Test.YtmignbhpofmgeaaDoorWApart
import Derived.Test.YtmignbhpofmgeaaDoorWArr
import Derived.Test.YtmignbhpofmgeaaDoorWZeros
import Derived.Test.YtmignbhpofmgeaaDoorWFoot
import Derived.Test.YtmignbhpofmgeaaDoorWKept
import Derived.Test.YtmignbhpofmgeaaDoorWShare
import Derived.Test.YtmignbhpofmgeaaDoorWN
import Derived.Test.YtmignbhpofmgeaaDoorWFootNe
import Derived.Test.YtmignbhpofmgeaaDoorWAt
import Derived.Test.YtmignbhpofmgeaaDoorWEqStruct
import Derived.Test.YtmignbhpofmgeaaDoorWRepsOne
import Derived.Test.YtmignbhpofmgeaaDoorWInv
import Derived.Test.YtmignbhpofmgeaaDoorWInvWords
import Derived.Test.YtmignbhpofmgeaaDoorWGuard
import Derived.Test.YtmignbhpofmgeaaDoorWNEv
import Derived.Test.YtmignbhpofmgeaaDoorWMore
import Derived.Test.YtmignbhpofmgeaaDoorIter
import Derived.RangeFuncBox
import Derived.Lib.ConvBytes
import Derived.Test.YtmignbhpofmgeaaDoorMc
namespace Go.Proofs.YtmignbhpofmgeaaDoor.Top
open Go.RowKit Go.Proofs.YtmignbhpofmgeaaDoorW.PrintWords Go.Proofs.YtmignbhpofmgeaaDoorW.PrintLast Go.Proofs.YtmignbhpofmgeaaDoorW.PrintMore Go.Proofs.YtmignbhpofmgeaaDoor.Iter
set_option linter.unusedVariables false
set_option linter.unusedSimpArgs false

/-- What a byte comes to. -/
structure Ev where
  begin : Bool
  add : Bool
  field : Bool
  line : Bool
  record : Bool
  b : Int
def Ev.cells (e : Ev) : Array Value := #[.bool e.begin, .bool e.add, .bool e.field, .bool e.line, .bool e.record, .int .u8 e.b]
def gather1 (m : MS) (e : Ev) : MS × Int := if e.begin = true then beginM m else (m, 0)
def gather2 (m : MS) (e : Ev) : MS × Int := if (gather1 m e).2 = 0 ∧ e.add = true then addM (gather1 m e).1 e.b else gather1 m e
def gather3 (m : MS) (e : Ev) : MS × Int := if (gather2 m e).2 = 0 ∧ e.field = true then nextM (gather2 m e).1 else gather2 m e
def gatherM (m : MS) (e : Ev) : MS × Int := if (gather3 m e).2 = 0 ∧ e.line = true then lineM (gather3 m e).1 else gather3 m e
theorem beginM_keeps (m : MS) : (beginM m).1.F = m.F ∧ (beginM m).1.record = m.record := by unfold beginM; split <;> exact ⟨rfl, rfl⟩
theorem addM_keeps (m : MS) (b : Int) : (addM m b).1.F = m.F ∧ (addM m b).1.record = m.record := by unfold addM; split <;> exact ⟨rfl, rfl⟩
theorem putM_len (m : MS) : (putM m).record.length = m.record.length + 1 := by simp [putM]
theorem nextM_fst (m : MS) : (nextM m).1 = putM m := by unfold nextM; split <;> (try split) <;> rfl
theorem lineM_fst (m : MS) : (lineM m).1 = putM m := by unfold lineM; split <;> rfl
theorem gather1_keeps (m : MS) (e : Ev) : (gather1 m e).1.F = m.F ∧ (gather1 m e).1.record = m.record := by unfold gather1; split; exact beginM_keeps m; exact ⟨rfl, rfl⟩
theorem gather2_keeps (m : MS) (e : Ev) : (gather2 m e).1.F = m.F ∧ (gather2 m e).1.record = m.record := by
  unfold gather2; split
  · exact ⟨(addM_keeps _ _).1.trans (gather1_keeps m e).1, (addM_keeps _ _).2.trans (gather1_keeps m e).2⟩
  · exact gather1_keeps m e
theorem gather3_keeps (m : MS) (e : Ev) : (gather3 m e).1.F = m.F ∧ (gather3 m e).1.record.length ≤ m.record.length + 1 := by
  unfold gather3; split
  · rw [nextM_fst]; exact ⟨(gather2_keeps m e).1, by rw [putM_len, (gather2_keeps m e).2]; exact Nat.le_refl _⟩
  · exact ⟨(gather2_keeps m e).1, by rw [(gather2_keeps m e).2]; omega⟩
theorem gatherM_keeps (m : MS) (e : Ev) : (gatherM m e).1.F = m.F ∧ (gatherM m e).1.record.length ≤ m.record.length + 2 := by
  unfold gatherM; split
  · rw [lineM_fst]; exact ⟨(gather3_keeps m e).1, by rw [putM_len]; have := (gather3_keeps m e).2; omega⟩
  · exact ⟨(gather3_keeps m e).1, by have := (gather3_keeps m e).2; omega⟩
theorem begin_to (B : Nat) (m : MS) (fv rv : Value) (W : World) (h : MkAt B m fv rv W) : Calls Tryd.prog 58 #[.pointer (some ⟨B, 0, none⟩)] W (MTo B fv rv W (beginM m).1 (.int .i64 (beginM m).2)) :=
  (begin_calls B m fv rv W h).mono fun _ _ ⟨h1, h2, h3⟩ => ⟨h1, _, _, h2, h3.weaken (fun _ _ e => .inl e), NewOr.refl _ _, NewOr.refl _ _⟩
theorem MGo.cast {B : Nat} {m m' : MS} {fv rv fv' rv' : Value} {W W' : World} (e : m = m') (h : MGo B fv rv W m fv' rv' W') : MGo B fv rv W m' fv' rv' W' := e ▸ h
/-- The box of the event stays. -/
theorem box_stays {B bx : Nat} {fv rv fv' rv' : Value} {m m' : MS} {W1 w' : World} {o : Obj} (hm : MkAt B m fv rv W1) (hx : W1.heap[bx]? = some o) (hb : bx ≠ B ∧ fv.ownBlock ≠ some bx ∧ rv.ownBlock ≠ some bx) (hg : MGo B fv rv W1 m' fv' rv' w') : w'.heap[bx]? = some o :=
  (hg.acts.same bx (Array.getElem?_eq_some_iff.1 hx).1 (fun h => h.elim hb.1 (fun h => h.elim hb.2.1 hb.2.2))).trans hx
set_option maxRecDepth 100000 in
set_option maxHeartbeats 4000000 in
theorem gather_calls (B : Nat) (m : MS) (e : Ev) (fv rv : Value) (W : World) (h : MkAt B m fv rv W) (hF : m.F ≤ 2147483648) (hn : m.record.length + 1 ≤ 2147483648) :
    Calls Tryd.prog 53 #[.pointer (some ⟨B, 0, none⟩), .agg e.cells] W (MTo B fv rv W (gatherM m e).1 (.int .i64 (gatherM m e).2)) := by
  obtain ⟨W1, hW1⟩ : ∃ W1, W.alloc (.cells e.cells 77) = W1 := ⟨_, rfl⟩
  have hx : W1.heap[W.heap.size]? = some (.cells e.cells 77 (0, 0)) := by rw [← hW1]; simpa using heap_alloc_new W (.cells e.cells 77)
  have hA1 : Acts (fun _ => False) W W1 := by rw [← hW1]; exact Acts.alloc _ _ _
  have hm1 : MkAt B m fv rv W1 := h.acts hA1 (fun _ _ h => h)
  have hbx : W.heap.size ≠ B ∧ fv.ownBlock ≠ some W.heap.size ∧ rv.ownBlock ≠ some W.heap.size := ⟨by have := h.lt; omega, fun e => by have := row_lt h.frow _ e; omega, fun e => by have := row_lt h.rrow _ e; omega⟩
  have hback : ∀ m' fv' rv' w', MGo B fv rv W1 m' fv' rv' w' → MGo B fv rv W m' fv' rv' w' := fun m' fv' rv' w' hg => ⟨hg.it, (hA1.weaken (fun _ _ h => h.elim)).trans hg.acts (fun _ h => .inl h), fun k hk => (hg.fnew k hk).imp id (fun h => Nat.le_trans hA1.size h), fun k hk => (hg.rnew k hk).imp id (fun h => Nat.le_trans hA1.size h)⟩
  have hg : MGo B fv rv W1 m fv rv W1 := MGo.refl hm1
  obtain ⟨e0, e1, e2, e3, e4, e5⟩ := e
  simp only [Ev.cells] at *
  have x0 := (blk_cell hx 0).trans rfl
  have x1 := (blk_cell hx 1).trans rfl
  have x2 := (blk_cell hx 2).trans rfl
  have x3 := (blk_cell hx 3).trans rfl
  have x5 := (blk_cell hx 5).trans rfl
  go_enter Tryd.func53, Tryd.ntmps53
  cases e0 <;> cases e1 <;> cases e2 <;> cases e3
  all_goals go_wp2_with (first | (go_at_call 58; (with_reducible refine (begin_to B _ _ _ _ hg.it).mono ?_); rintro e w' ⟨rfl, fv', rv', hg'⟩; have hg := MGo.trans hg hg'; have hx' := box_stays hm1 hx hbx hg; have x1 := (blk_cell hx' 1).trans rfl; have x2 := (blk_cell hx' 2).trans rfl; have x3 := (blk_cell hx' 3).trans rfl; have x5 := (blk_cell hx' 5).trans rfl; clear hg' hx') | (go_at_call 59; (with_reducible refine (add_calls B _ _ _ _ _ hg.it (by first | omega | (simp only [(beginM_keeps _).1]; omega))).mono ?_); rintro e w' ⟨rfl, fv', rv', hg'⟩; have hg := MGo.trans hg hg'; have hx' := box_stays hm1 hx hbx hg; have x1 := (blk_cell hx' 1).trans rfl; have x2 := (blk_cell hx' 2).trans rfl; have x3 := (blk_cell hx' 3).trans rfl; have x5 := (blk_cell hx' 5).trans rfl; clear hg' hx') | (go_at_call 60; (with_reducible refine (next_calls B _ _ _ _ hg.it (by first | omega | (simp only [nextM_fst, putM_len, (beginM_keeps _).2, (addM_keeps _ _).2]; omega))).mono ?_); rintro e w' ⟨rfl, fv', rv', hg'⟩; have hg := MGo.trans hg hg'; have hx' := box_stays hm1 hx hbx hg; have x1 := (blk_cell hx' 1).trans rfl; have x2 := (blk_cell hx' 2).trans rfl; have x3 := (blk_cell hx' 3).trans rfl; have x5 := (blk_cell hx' 5).trans rfl; clear hg' hx') | (go_at_call 61; (with_reducible refine (line_calls B _ _ _ _ hg.it (by first | omega | (simp only [nextM_fst, putM_len, (beginM_keeps _).2, (addM_keeps _ _).2]; omega))).mono ?_); rintro e w' ⟨rfl, fv', rv', hg'⟩; have hg := MGo.trans hg hg'; have hx' := box_stays hm1 hx hbx hg; have x1 := (blk_cell hx' 1).trans rfl; have x2 := (blk_cell hx' 2).trans rfl; have x3 := (blk_cell hx' 3).trans rfl; have x5 := (blk_cell hx' 5).trans rfl; clear hg' hx'))
  all_goals go_ret
  all_goals exact ⟨by simp [gatherM, gather3, gather2, gather1, *], _, _, hback _ _ _ _ (MGo.cast (by simp [gatherM, gather3, gather2, gather1, *]) hg)⟩
end Go.Proofs.YtmignbhpofmgeaaDoor.Top
