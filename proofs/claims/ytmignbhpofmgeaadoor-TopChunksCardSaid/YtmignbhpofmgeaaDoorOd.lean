/- A part of the reader. -/
import Derived.Test.YtmignbhpofmgeaaDoorProg
import Derived.Below
import Derived.Deep.Draws
import Derived.Deep.AppendLies
import Derived.Maps.AppendAt
import Derived.OwnWalk
import Derived.Laws.BytesArg
import Derived.Laws.MakeOwn
import Derived.Laws.OwnMore
import Derived.Deep.OwnRows
import Derived.Tactics
import Derived.Lib.ConvBytes
import Derived.Laws.Slices
import Derived.WalkKit
import Derived.KernelRfl
import Derived.RowKit3
import Derived.Deep.LoopGhost
import Derived.Deep.QuietTactic
import Derived.BigQuiet
import Derived.WideLaws
import Derived.Deep.DeepCutAuto
import Derived.Deep.CutBlock
import Derived.Deep.RegionHeld3
import Derived.Laws.Rows
import Derived.Lib.AppendStr
import Derived.ArgAppend
import Derived.Laws.IdiomCopy
import Derived.OrdersHeld
import Derived.Laws.BitsLemmas
import Derived.RowKit
import Derived.Test.YtmignbhpofmgeaaDoorWWords
import Derived.Test.YtmignbhpofmgeaaDoorWLast
import Derived.Test.YtmignbhpofmgeaaDoorWTab
import Derived.Test.YtmignbhpofmgeaaDoorWFour
import Derived.Test.YtmignbhpofmgeaaDoorWQPut
import Derived.Test.YtmignbhpofmgeaaDoorWApart
import Derived.Test.YtmignbhpofmgeaaDoorWArr
import Derived.Test.YtmignbhpofmgeaaDoorWZeros
import Derived.Test.YtmignbhpofmgeaaDoorWFoot
import Derived.Test.YtmignbhpofmgeaaDoorWKept
import Derived.Test.YtmignbhpofmgeaaDoorWShare
import Derived.Test.YtmignbhpofmgeaaDoorWN
import Derived.Test.YtmignbhpofmgeaaDoorWFootNe
import Derived.Test.YtmignbhpofmgeaaDoorWAt
import Derived.Test.YtmignbhpofmgeaaDoorWEqStruct
import Derived.Test.YtmignbhpofmgeaaDoorWRepsOne
import Derived.Test.YtmignbhpofmgeaaDoorWInv
import Derived.Test.YtmignbhpofmgeaaDoorWInvWords
import Derived.Test.YtmignbhpofmgeaaDoorWGuard
import Derived.Test.YtmignbhpofmgeaaDoorWNEv
import Derived.Test.YtmignbhpofmgeaaDoorWMore
import Derived.Test.YtmignbhpofmgeaaDoorIter
import Derived.RangeFuncBox
import Derived.Lib.ConvBytes
import Derived.Test.YtmignbhpofmgeaaDoorOc
namespace Go.Proofs.YtmignbhpofmgeaaDoor.Top
open Go.RowKit Go.Proofs.YtmignbhpofmgeaaDoorW.PrintWords Go.Proofs.YtmignbhpofmgeaaDoorW.PrintLast Go.Proofs.YtmignbhpofmgeaaDoorW.PrintMore Go.Proofs.YtmignbhpofmgeaaDoor.Iter
set_option linter.unusedVariables false
set_option linter.unusedSimpArgs false

set_option maxRecDepth 100000 in
set_option maxHeartbeats 2000000 in
theorem next_none (R : Nat) (cs : Array Value) (a : Option Addr) (c : Nat) (W : World) (h : W.heap[R]? = some (.cells cs 69 (0, 0))) (h11 : cs[11]? = some (.slice a 0 c)) :
    Calls Tryd.prog 33 #[.pointer (some ⟨R, 0, none⟩)] W (fun e w' => e = .returned (.tuple #[.slice none 0 0, .bool false]) ∧ w' = W) := by
  have c11 := (blk_cell h 11).trans h11
  go_enter Tryd.func33, Tryd.ntmps33
  go_wp2
  go_ret2
  exact ⟨rfl, rfl⟩
set_option maxRecDepth 100000 in
set_option maxHeartbeats 4000000 in
theorem next_one (R : Nat) (cs : Array Value) (g o k c : Nat) (gv : Int) (row : Value) (W : World) (h : W.heap[R]? = some (.cells cs 69 (0, 0))) (h11 : cs[11]? = some (.slice (some ⟨g, o, none⟩) (k + 1) c)) (h12 : cs[12]? = some (.int .i64 gv)) (hk : k + 1 ≤ c) (hk2 : k + 1 ≤ 1000000) (oa : Option Addr) (n oc : Nat) (hrow : W.cell? ⟨g, o, none⟩ = some (.slice oa n oc)) (hne : g ≠ R) :
    Calls Tryd.prog 33 #[.pointer (some ⟨R, 0, none⟩)] W (fun e w' => e = .returned (.tuple #[.slice oa n oc, .bool true]) ∧ ∃ a', w' = (W.setCell ⟨R, 11, none⟩ (.slice a' k (c - 1))).setCell ⟨R, 12, none⟩ (.int .i64 (wrap64 (gv + 1))) ∧ (k ≠ 0 → a' = some ⟨g, o + 1, none⟩)) := by
  have c11 := (blk_cell h 11).trans h11
  have c12 := (blk_cell h 12).trans h12
  have f11 := blk_frozen h 11
  have f12 := blk_frozen h 12
  have hk0 : ¬ ((k : Int) + 1 = 0) := by omega
  go_enter Tryd.func33, Tryd.ntmps33
  go_wp2
  all_goals go_ret2
  all_goals refine ⟨rfl, _, rfl, fun h => ?_⟩
  all_goals first | rfl | (exfalso; omega)
end Go.Proofs.YtmignbhpofmgeaaDoor.Top
