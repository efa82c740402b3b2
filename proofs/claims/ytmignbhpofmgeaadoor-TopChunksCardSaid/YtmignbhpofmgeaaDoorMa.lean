/- fields.Maker: what it holds, and what its small functions do to it. -/
import Derived.Test.YtmignbhpofmgeaaDoorProg
import Derived.Below
import Derived.Deep.Draws
import Derived.Deep.AppendLies
import Derived.Maps.AppendAt
import Derived.OwnWalk
import Derived.Laws.BytesArg
import Derived.Laws.MakeOwn
import Derived.Laws.OwnMore
import Derived.Deep.OwnRows
import Derived.Tactics
import Derived.Lib.ConvBytes
import Derived.Laws.Slices
import Derived.WalkKit
import Derived.KernelRfl
import Derived.RowKit3
import Derived.Deep.LoopGhost
import Derived.Deep.QuietTactic
import Derived.BigQuiet
import Derived.WideLaws
import Derived.Deep.DeepCutAuto
import Derived.Deep.CutBlock
import Derived.Deep.RegionHeld3
import Derived.Laws.Rows
import Derived.Lib.AppendStr
import Derived.ArgAppend
import Derived.Laws.IdiomCopy
import Derived.OrdersHeld
import Derived.Laws.BitsLemmas
import Derived.RowKit
import Derived.Test.YtmignbhpofmgeaaDoorWWords
import Derived.Test.YtmignbhpofmgeaaDoorWLast
import Derived.Test.YtmignbhpofmgeaaDoorWTab
import Derived.Test.YtmignbhpofmgeaaDoorWFour
import Derived.Test.YtmignbhpofmgeaaDoorWQPut
import Derived.Test.YtmignbhpofmgeaaDoorWApart
import Derived.Test.YtmignbhpofmgeaaDoorWArr
import Derived.Test.YtmignbhpofmgeaaDoorWZeros
import Derived.Test.YtmignbhpofmgeaaDoorWFoot
import Derived.Test.YtmignbhpofmgeaaDoorWKept
import Derived.Test.YtmignbhpofmgeaaDoorWShare
import Derived.Test.YtmignbhpofmgeaaDoorWN
import Derived.Test.YtmignbhpofmgeaaDoorWFootNe
import Derived.Test.YtmignbhpofmgeaaDoorWAt
import Derived.Test.YtmignbhpofmgeaaDoorWEqStruct
import Derived.Test.YtmignbhpofmgeaaDoorWRepsOne
import Derived.Test.YtmignbhpofmgeaaDoorWInv
import Derived.Test.YtmignbhpofmgeaaDoorWInvWords
import Derived.Test.YtmignbhpofmgeaaDoorWGuard
import Derived.Test.YtmignbhpofmgeaaDoorWNEv
import Derived.Test.YtmignbhpofmgeaaDoorWMore
import Derived.Test.YtmignbhpofmgeaaDoorIter
import Derived.RangeFuncBox
import Derived.Lib.ConvBytes
namespace Go.Proofs.YtmignbhpofmgeaaDoor.Top
open Go.RowKit Go.Proofs.YtmignbhpofmgeaaDoorW.PrintWords Go.Proofs.YtmignbhpofmgeaaDoorW.PrintLast Go.Proofs.YtmignbhpofmgeaaDoorW.PrintMore Go.Proofs.YtmignbhpofmgeaaDoor.Iter
set_option linter.unusedVariables false
set_option linter.unusedSimpArgs false

/-- What a Maker holds. -/
structure MS where
  F : Int
  Fs : Int
  R : Int
  U : Bool
  field : List Int
  record : List ByteArray
  begun : Int
  count : Int
  width : Int
  stopped : Int
def MS.cells (m : MS) (fv rv : Value) : Array Value := #[.int .i64 m.F, .int .i64 m.Fs, .int .i64 m.R, .bool m.U, fv, rv, .int .i64 m.begun, .int .i64 m.count, .int .i64 m.width, .int .i64 m.stopped]
/-- A Maker lies in block B. -/
structure MkAt (B : Nat) (m : MS) (fv rv : Value) (W : World) : Prop where
  obj : W.heap[B]? = some (.cells (m.cells fv rv) 96 (0, 0))
  frow : W.ownsRow 0 5 1 fv m.field.length (m.field.map (Value.int .u8))
  rrow : W.ownsRow 0 9 1 rv m.record.length (m.record.map Value.string)
theorem MkAt.lt {B : Nat} {m : MS} {fv rv : Value} {W : World} (h : MkAt B m fv rv W) : B < W.heap.size := (Array.getElem?_eq_some_iff.1 h.obj).1
theorem owns_keep {W W' : World} {base e size n : Nat} {v : Value} {xs : List Value} (h : W.ownsRow base e size v n xs) (hk : ∀ k, v.ownBlock = some k → W'.heap[k]? = W.heap[k]?) : W'.ownsRow base e size v n xs := by
  refine ⟨h.1, h.2.imp id ?_⟩
  rintro ⟨g, cap, cur, rfl, h1, h2, h3⟩
  exact ⟨g, cap, cur, rfl, h1, (hk g rfl).trans h2, h3⟩
/-- A row's block holds its own kind of things. -/
theorem row_ne {W : World} {base B t : Nat} {cs : Array Value} {e size n : Nat} {v : Value} {xs : List Value} (h : W.ownsRow base e size v n xs) (hB : W.heap[B]? = some (.cells cs t (0, 0))) (hne : e ≠ t) : v.ownBlock ≠ some B := fun hk => by
  rcases h.2 with ⟨rfl, _⟩ | ⟨g, cap, cur, rfl, _, h2, _⟩
  · cases hk
  · obtain rfl := Option.some.inj hk
    rw [h2] at hB
    cases hB
    exact hne rfl
theorem MkAt.keep {B : Nat} {m : MS} {fv rv : Value} {W W' : World} (h : MkAt B m fv rv W) (hk : ∀ k, (k = B ∨ fv.ownBlock = some k ∨ rv.ownBlock = some k) → W'.heap[k]? = W.heap[k]?) : MkAt B m fv rv W' :=
  ⟨(hk B (.inl rfl)).trans h.obj, owns_keep h.frow (fun k e => hk k (.inr (.inl e))), owns_keep h.rrow (fun k e => hk k (.inr (.inr e)))⟩
theorem MkAt.ne {B : Nat} {m : MS} {fv rv : Value} {W : World} (h : MkAt B m fv rv W) : fv.ownBlock ≠ some B ∧ rv.ownBlock ≠ some B := ⟨row_ne h.frow h.obj (by decide), row_ne h.rrow h.obj (by decide)⟩
theorem blk_set {W : World} {B t : Nat} {cs : Array Value} (h : W.heap[B]? = some (.cells cs t (0, 0))) (j : Nat) (v : Value) : (W.setCell ⟨B, j, none⟩ v).heap[B]? = some (.cells (cs.setIfInBounds j v) t (0, 0)) := by
  simp [World.setCell, Array.getElem?_modify, h]
/-- A number of it is written. -/
theorem MkAt.set {B : Nat} {m m' : MS} {fv rv : Value} {W : World} (h : MkAt B m fv rv W) (j : Nat) (v : Value) (hc : (m.cells fv rv).setIfInBounds j v = m'.cells fv rv) (hf : m'.field = m.field) (hr : m'.record = m.record) : MkAt B m' fv rv (W.setCell ⟨B, j, none⟩ v) := by
  obtain ⟨n1, n2⟩ := h.ne
  refine ⟨by rw [blk_set h.obj, hc], ?_, ?_⟩
  · rw [hf]; exact owns_keep h.frow (fun k e => Below.heap_setCell W _ _ k (fun e' => n1 (by rw [e]; exact congrArg some e')))
  · rw [hr]; exact owns_keep h.rrow (fun k e => Below.heap_setCell W _ _ k (fun e' => n2 (by rw [e]; exact congrArg some e')))
theorem acts_set {B : Nat} (W : World) (j : Nat) (v : Value) : Acts (fun k => k = B) W (W.setCell ⟨B, j, none⟩ v) := Acts.setCell _ _ _ _ rfl

def beginM (m : MS) : MS × Int := if m.begun ≥ m.R then (m, 9) else ({ m with begun := wrap64 (m.begun + 1) }, 0)
set_option maxHeartbeats 1000000 in
theorem begin_calls (B : Nat) (m : MS) (fv rv : Value) (W : World) (h : MkAt B m fv rv W) :
    Calls Tryd.prog 58 #[.pointer (some ⟨B, 0, none⟩)] W fun e w' => e = .returned (.int .i64 (beginM m).2) ∧ MkAt B (beginM m).1 fv rv w' ∧ Acts (fun k => k = B) W w' := by
  have c2 := (blk_cell h.obj 2).trans rfl
  have c6 := (blk_cell h.obj 6).trans rfl
  have f6 := blk_frozen h.obj 6
  simp only [MS.cells] at c2 c6
  by_cases hc : m.begun ≥ m.R
  · have hd : decide (m.begun ≥ m.R) = true := decide_eq_true hc
    have e : beginM m = (m, 9) := if_pos hc
    rw [e]
    go_enter Tryd.func58, Tryd.ntmps58
    go_wp2
    go_quiet (fail)
    go_wp2
    go_ret
    exact ⟨rfl, h.keep (fun _ _ => rfl), Acts.drewN _ _ _⟩
  · have hd : decide (m.begun ≥ m.R) = false := decide_eq_false hc
    have e : beginM m = ({ m with begun := wrap64 (m.begun + 1) }, 0) := if_neg hc
    rw [e]
    go_enter Tryd.func58, Tryd.ntmps58
    go_wp2
    go_quiet (fail)
    go_wp2
    go_ret
    exact ⟨rfl, (h.keep (W' := W.drewN nq) (fun _ _ => rfl)).set 6 _ rfl rfl rfl, (Acts.drewN _ W nq).trans (acts_set _ _ _) (fun _ h => .inl h)⟩
end Go.Proofs.YtmignbhpofmgeaaDoor.Top
