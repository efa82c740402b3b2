/- A part of the reader. -/
import Derived.Test.YtmignbhpofmgeaaDoorProg
import Derived.Below
import Derived.Deep.Draws
import Derived.Deep.AppendLies
import Derived.Maps.AppendAt
import Derived.OwnWalk
import Derived.Laws.BytesArg
import Derived.Laws.MakeOwn
import Derived.Laws.OwnMore
import Derived.Deep.OwnRows
import Derived.Tactics
import Derived.Lib.ConvBytes
import Derived.Laws.Slices
import Derived.WalkKit
import Derived.KernelRfl
import Derived.RowKit3
import Derived.Deep.LoopGhost
import Derived.Deep.QuietTactic
import Derived.BigQuiet
import Derived.WideLaws
import Derived.Deep.DeepCutAuto
import Derived.Deep.CutBlock
import Derived.Deep.RegionHeld3
import Derived.Laws.Rows
import Derived.Lib.AppendStr
import Derived.ArgAppend
import Derived.Laws.IdiomCopy
import Derived.OrdersHeld
import Derived.Laws.BitsLemmas
import Derived.RowKit
import Derived.Test.YtmignbhpofmgeaaDoorWWords
import Derived.Test.YtmignbhpofmgeaaDoorWLast
import Derived.Test.YtmignbhpofmgeaaDoorWTab
import Derived.Test.YtmignbhpofmgeaaDoorWFour
import Derived.Test.YtmignbhpofmgeaaDoorWQPut
import Derived.Test.YtmignbhpofmgeaaDoorWApart
import Derived.Test.YtmignbhpofmgeaaDoorWArr
import Derived.Test.YtmignbhpofmgeaaDoorWZeros
import Derived.Test.YtmignbhpofmgeaaDoorWFoot
import Derived.Test.YtmignbhpofmgeaaDoorWKept
import Derived.Test.YtmignbhpofmgeaaDoorWShare
import Derived.Test.YtmignbhpofmgeaaDoorWN
import Derived.Test.YtmignbhpofmgeaaDoorWFootNe
import Derived.Test.YtmignbhpofmgeaaDoorWAt
import Derived.Test.YtmignbhpofmgeaaDoorWEqStruct
import Derived.Test.YtmignbhpofmgeaaDoorWRepsOne
import Derived.Test.YtmignbhpofmgeaaDoorWInv
import Derived.Test.YtmignbhpofmgeaaDoorWInvWords
import Derived.Test.YtmignbhpofmgeaaDoorWGuard
import Derived.Test.YtmignbhpofmgeaaDoorWNEv
import Derived.Test.YtmignbhpofmgeaaDoorWMore
import Derived.Test.YtmignbhpofmgeaaDoorIter
import Derived.RangeFuncBox
import Derived.Lib.ConvBytes
import Derived.Test.YtmignbhpofmgeaaDoorMy
import Derived.Test.YtmignbhpofmgeaaDoorNa
import Derived.WalkMore
import Derived.Laws.ResultCell
namespace Go.Proofs.YtmignbhpofmgeaaDoor.Top
open Go.RowKit Go.Proofs.YtmignbhpofmgeaaDoorW.PrintWords Go.Proofs.YtmignbhpofmgeaaDoorW.PrintLast Go.Proofs.YtmignbhpofmgeaaDoorW.PrintMore Go.Proofs.YtmignbhpofmgeaaDoor.Iter
set_option linter.unusedVariables false
set_option linter.unusedSimpArgs false

/-- A Maker at B, and the records that were handed out, in the variable at O. -/
structure WAt (O B : Nat) (m : MS) (ls : List (List ByteArray)) (fv rv qv : Value) (W : World) : Prop where
  mak : MkAt B m fv rv W
  out : W.heap[O]? = some (.cells #[qv] 44 (0, 0))
  que : ∃ rows, W.ownsRow 0 61 1 qv ls.length rows ∧ RowsAt rv W rows ls
def WC (O B : Nat) (fv rv qv : Value) (k : Nat) : Prop := k = O ∨ MC B fv rv k ∨ qv.ownBlock = some k
structure WNew (W : World) (fv rv qv fv' rv' qv' : Value) : Prop where
  fnew : NewOr W fv fv'
  rnew : NewOr W rv rv'
  qnew : NewOr W qv qv'
structure WGo (O B : Nat) (fv rv qv : Value) (W : World) (m' : MS) (ls' : List (List ByteArray)) (fv' rv' qv' : Value) (W' : World) : Prop where
  it : WAt O B m' ls' fv' rv' qv' W'
  acts : Acts (WC O B fv rv qv) W W'
  fnew : NewOr W fv fv'
  rnew : NewOr W rv rv'
  qnew : NewOr W qv qv'
theorem WGo.refl {O B : Nat} {m : MS} {ls : List (List ByteArray)} {fv rv qv : Value} {W : World} (h : WAt O B m ls fv rv qv W) : WGo O B fv rv qv W m ls fv rv qv W := ⟨h, Acts.refl _ _, NewOr.refl _ _, NewOr.refl _ _, NewOr.refl _ _⟩
theorem WGo.trans {O B : Nat} {m1 m2 : MS} {l1 l2 : List (List ByteArray)} {fv rv qv f1 r1 q1 f2 r2 q2 : Value} {W W1 W2 : World} (h : WGo O B fv rv qv W m1 l1 f1 r1 q1 W1) (k : WGo O B f1 r1 q1 W1 m2 l2 f2 r2 q2 W2) : WGo O B fv rv qv W m2 l2 f2 r2 q2 W2 :=
  ⟨k.it, h.acts.trans k.acts (fun j hj => by
    rcases hj with rfl | (rfl | hj | hj) | hj
    · exact .inl (.inl rfl)
    · exact .inl (.inr (.inl (.inl rfl)))
    · exact (h.fnew j hj).elim (fun e => .inl (.inr (.inl (.inr (.inl e))))) .inr
    · exact (h.rnew j hj).elim (fun e => .inl (.inr (.inl (.inr (.inr e))))) .inr
    · exact (h.qnew j hj).elim (fun e => .inl (.inr (.inr e))) .inr), h.fnew.trans k.fnew h.acts.size, h.rnew.trans k.rnew h.acts.size, h.qnew.trans k.qnew h.acts.size⟩
theorem WAt.lt {O B : Nat} {m : MS} {ls : List (List ByteArray)} {fv rv qv : Value} {W : World} (h : WAt O B m ls fv rv qv W) : O < W.heap.size := blk_lt h.out
theorem WAt.wc_lt {O B : Nat} {m : MS} {ls : List (List ByteArray)} {fv rv qv : Value} {W : World} (h : WAt O B m ls fv rv qv W) (k : Nat) (hk : WC O B fv rv qv k) : k < W.heap.size := by
  obtain ⟨rows, hq, _⟩ := h.que
  rcases hk with rfl | (rfl | hk | hk) | hk
  · exact h.lt
  · exact h.mak.lt
  · exact row_lt h.mak.frow k hk
  · exact row_lt h.mak.rrow k hk
  · exact row_lt hq k hk
theorem WAt.row_free {O B : Nat} {m : MS} {ls : List (List ByteArray)} {fv rv qv : Value} {W : World} (h : WAt O B m ls fv rv qv W) {v : Value} {n : Nat} {ys : List Value} (hv : W.ownsRow 0 9 1 v n ys) (ha : ∀ k, v.ownBlock = some k → rv.ownBlock ≠ some k) (k : Nat) (hk : v.ownBlock = some k) : ¬ WC O B fv rv qv k := by
  obtain ⟨rows, hq, _⟩ := h.que
  rintro (rfl | (rfl | h1 | h1) | h1)
  · exact row_ne hv h.out (by decide) hk
  · exact row_ne hv h.mak.obj (by decide) hk
  · exact rows_apart hv h.mak.frow (by decide) k hk h1
  · exact ha k hk h1
  · exact rows_apart hv hq (by decide) k hk h1
theorem WAt.rows_keep {O B : Nat} {m : MS} {ls : List (List ByteArray)} {fv rv qv : Value} {W W' : World} (h : WAt O B m ls fv rv qv W) (ha : Acts (WC O B fv rv qv) W W') {rv' : Value} (hn : NewOr W rv rv') {rows : List Value} {rs : List (List ByteArray)} (hr : RowsAt rv W rows rs) : RowsAt rv' W' rows rs :=
  ⟨hr.1, fun i v l hi hl => by
    obtain ⟨h1, h2⟩ := hr.2 i v l hi hl
    exact ⟨owns_keep h1 (fun k hk => ha.same k (row_lt h1 k hk) (h.row_free h1 h2 k hk)), fun k hk hk' => (hn k hk').elim (h2 k hk) (fun hl => by have := row_lt h1 k hk; omega)⟩⟩
theorem WAt.acts {O B : Nat} {m : MS} {ls : List (List ByteArray)} {fv rv qv : Value} {W W' : World} (h : WAt O B m ls fv rv qv W) (ha : Acts (fun _ => False) W W') : WAt O B m ls fv rv qv W' := by
  obtain ⟨rows, hq, hr⟩ := h.que
  have hk : ∀ k, k < W.heap.size → W'.heap[k]? = W.heap[k]? := fun k hk => ha.same k hk (fun h => h)
  exact ⟨h.mak.acts ha (fun _ _ h => h), (hk _ h.lt).trans h.out, ⟨rows, owns_keep hq (fun k e => hk k (row_lt hq k e)), h.rows_keep (ha.weaken (fun _ _ h => h.elim)) (NewOr.refl _ _) hr⟩⟩
theorem WGo.more {O B : Nat} {m1 : MS} {l1 : List (List ByteArray)} {fv rv qv f1 r1 q1 : Value} {W W1 W2 : World} (h : WGo O B fv rv qv W m1 l1 f1 r1 q1 W1) (ha : Acts (fun _ => False) W1 W2) : WGo O B fv rv qv W m1 l1 f1 r1 q1 W2 :=
  ⟨h.it.acts ha, h.acts.trans ha (fun _ h => h.elim), h.fnew, h.rnew, h.qnew⟩
/-- The Maker has gone on. -/
theorem WAt.maker {O B : Nat} {m : MS} {ls : List (List ByteArray)} {fv rv qv : Value} {W W' : World} (h : WAt O B m ls fv rv qv W) {m' : MS} {fv' rv' : Value} (hg : MGo B fv rv W m' fv' rv' W') : WGo O B fv rv qv W m' ls fv' rv' qv W' := by
  obtain ⟨rows, hq, hr⟩ := h.que
  have ha : Acts (WC O B fv rv qv) W W' := hg.acts.weaken (fun k _ e => .inr (.inl e))
  have hO : ¬ MC B fv rv O := fun e => e.elim (fun e => blk_ne h.out h.mak.obj (by decide) e) (fun e => e.elim (row_ne h.mak.frow h.out (by decide)) (row_ne h.mak.rrow h.out (by decide)))
  have hQ : ∀ k, qv.ownBlock = some k → ¬ MC B fv rv k := fun k hk e => e.elim (fun e => row_ne hq h.mak.obj (by decide) (e ▸ hk)) (fun e => e.elim (rows_apart hq h.mak.frow (by decide) k hk) (rows_apart hq h.mak.rrow (by decide) k hk))
  exact ⟨⟨hg.it, (hg.acts.same _ h.lt hO).trans h.out, ⟨rows, owns_keep hq (fun k e => hg.acts.same k (row_lt hq k e) (hQ k e)), h.rows_keep ha hg.rnew hr⟩⟩, ha, hg.fnew, hg.rnew, NewOr.refl _ _⟩
theorem WAt.push {O B : Nat} {m : MS} {ls : List (List ByteArray)} {fv rv qv : Value} {W W2 : World} {o : Obj} (h : WAt O B m ls fv rv qv W) {qv' out : Value} {l : List ByteArray} {rows : List Value} (hq : W.ownsRow 0 61 1 qv ls.length rows) (hr : RowsAt rv W rows ls)
    (hown : W2.ownsRow 0 61 1 qv' (ls.length + 1) (rows ++ [out])) (hg : (W.alloc o).grownBy W2 qv.ownBlock)
    (hat : qv'.ownBlock = qv.ownBlock ∨ qv'.ownBlock = some (W.alloc o).heap.size) (hl : W.ownsRow 0 9 1 out l.length (l.map Value.string)) (hf : ∀ k, out.ownBlock = some k → rv.ownBlock ≠ some k) :
    WGo O B fv rv qv W m (ls ++ [l]) fv rv qv' (W2.setCell ⟨O, 0, none⟩ qv') := by
  have hA := grown_acts hg
  have nq : qv.ownBlock ≠ some O := row_ne hq h.out (by decide)
  have hO2 : W2.heap[O]? = some (.cells #[qv] 44 (0, 0)) := (hA.same O h.lt nq).trans h.out
  have m1 : qv'.ownBlock ≠ some O := row_ne hown hO2 (by decide)
  have hA2 : Acts (WC O B fv rv qv) W (W2.setCell ⟨O, 0, none⟩ qv') := (hA.weaken (fun k _ e => .inr (.inr e))).trans (acts_set (B := O) _ 0 qv') (fun j hj => .inl (.inl hj))
  have hk : ∀ k, k < W.heap.size → k ≠ O → qv.ownBlock ≠ some k → (W2.setCell ⟨O, 0, none⟩ qv').heap[k]? = W.heap[k]? := fun k h1 h2 h3 => (Below.heap_setCell W2 _ _ k h2).trans (hA.same k h1 h3)
  refine ⟨⟨?_, ?_, ⟨rows ++ [out], ?_, ?_, ?_⟩⟩, hA2, NewOr.refl _ _, NewOr.refl _ _, at_new hat⟩
  · refine h.mak.keep (fun k hk' => ?_)
    rcases hk' with rfl | e | e
    · exact hk _ h.mak.lt (blk_ne h.mak.obj h.out (by decide)) (row_ne hq h.mak.obj (by decide))
    · exact hk k (row_lt h.mak.frow k e) (fun e' => row_ne h.mak.frow h.out (by decide) (e' ▸ e)) (rows_apart h.mak.frow hq (by decide) k e)
    · exact hk k (row_lt h.mak.rrow k e) (fun e' => row_ne h.mak.rrow h.out (by decide) (e' ▸ e)) (rows_apart h.mak.rrow hq (by decide) k e)
  · rw [blk_set hO2]; rfl
  · have : W2.ownsRow 0 61 1 qv' (ls ++ [l]).length (rows ++ [out]) := by simpa using hown
    exact owns_keep this (fun k e => Below.heap_setCell W2 _ _ k (fun e' => m1 (by rw [e]; exact congrArg some e')))
  · simp [hr.1]
  · intro i v l' hi hl'
    by_cases hlt : i < rows.length
    · rw [List.getElem?_append_left hlt] at hi
      rw [List.getElem?_append_left (by rw [← hr.1]; exact hlt)] at hl'
      exact (h.rows_keep hA2 (NewOr.refl _ _) hr).2 i v l' hi hl'
    · have hi2 : i = rows.length := by
        have := (List.getElem?_eq_some_iff.1 hi).1; simp at this; omega
      subst hi2
      rw [List.getElem?_append_right (Nat.le_refl _)] at hi
      rw [List.getElem?_append_right (by rw [hr.1]; exact Nat.le_refl _)] at hl'
      simp at hi
      simp [hr.1] at hl'
      subst hi hl'
      exact ⟨owns_keep hl (fun k e => hA2.same k (row_lt hl k e) (h.row_free hl hf k e)), hf⟩
set_option maxRecDepth 100000 in
set_option maxHeartbeats 2000000 in
theorem yield_calls (O B : Nat) (m : MS) (ls : List (List ByteArray)) (fv rv qv : Value) (l : List ByteArray) (oa : Option Addr) (oc : Nat) (W : World) (h : WAt O B m ls fv rv qv W) (hb : ls.length + 1 ≤ 2147483648) (hl : W.ownsRow 0 9 1 (.slice oa l.length oc) l.length (l.map Value.string)) (hf : ∀ k, (Value.slice oa l.length oc).ownBlock = some k → rv.ownBlock ≠ some k) :
    Calls Tryd.prog 39 #[.slice oa l.length oc, .pointer (some ⟨O, 0, none⟩)] W (fun e w' => e = .returned (.bool true) ∧ ∃ qv', WGo O B fv rv qv W m (ls ++ [l]) fv rv qv' w') := by
  obtain ⟨rows, hq, hr⟩ := h.que
  obtain ⟨qa, qc, rfl⟩ := slice_len hq
  obtain ⟨i0, hi, hz0, hz1, hz2⟩ := info_parts elem61
  have c0 := (blk_cell h.out 0).trans rfl
  go_enter Tryd.func39, Tryd.ntmps39
  go_wp2_with (at_builtin; refine wpList_append_own_at _ rfl _ _ 44 rfl 0 61 i0 (.slice none 0 0) 1 24 Tryd.underlying44 hi hz0 hz1 hz2 rfl (by decide) _ ls.length _ rfl (World.ownsRow.alloc hq _) ⟨W.heap.size, 0, none⟩ 1 1 [.slice oa l.length oc] rfl rfl (cell_one_new W _ _) (by simp [Value.oneCell']) (by simp [maxLen]; omega) (by omega) (by simp) ?_; intro v' w3 hown hgrow hnil hat; obtain ⟨g, cap, rfl⟩ := ownsRow_succ hown; have hO3 := ((grown_acts hgrow).same O h.lt (row_ne hq h.out (by decide))).trans h.out; have c1 := (blk_cell hO3 0).trans rfl; have f1 := blk_frozen hO3 0)
  go_ret
  exact ⟨rfl, _, h.push hq hr hown hgrow hat hl hf⟩
theorem WAt.after {O B : Nat} {m : MS} {ls : List (List ByteArray)} {fv rv qv : Value} {W W' : World} (h : WAt O B m ls fv rv qv W) (ha : Acts (MC B fv rv) W W') : W'.heap[O]? = some (.cells #[qv] 44 (0, 0)) ∧ ∃ rows, W'.ownsRow 0 61 1 qv ls.length rows ∧ RowsAt rv W' rows ls := by
  obtain ⟨rows, hq, hr⟩ := h.que
  have ha2 : Acts (WC O B fv rv qv) W W' := ha.weaken (fun k _ e => .inr (.inl e))
  have hO : ¬ MC B fv rv O := fun e => e.elim (fun e => blk_ne h.out h.mak.obj (by decide) e) (fun e => e.elim (row_ne h.mak.frow h.out (by decide)) (row_ne h.mak.rrow h.out (by decide)))
  have hQ : ∀ k, qv.ownBlock = some k → ¬ MC B fv rv k := fun k hk e => e.elim (fun e => row_ne hq h.mak.obj (by decide) (e ▸ hk)) (fun e => e.elim (rows_apart hq h.mak.frow (by decide) k hk) (rows_apart hq h.mak.rrow (by decide) k hk))
  exact ⟨(ha.same _ h.lt hO).trans h.out, rows, owns_keep hq (fun k e => ha.same k (row_lt hq k e) (hQ k e)), h.rows_keep ha2 (NewOr.refl _ _) hr⟩
theorem rows_far {rv : Value} {W W' : World} {rows : List Value} {rs : List (List ByteArray)} {L : Nat} {cs : Array Value} (hr : RowsAt rv W rows rs) (hL : W.heap[L]? = some (.cells cs 35 (0, 0))) (ha : Acts (fun k => k = L) W W') : RowsAt rv W' rows rs :=
  ⟨hr.1, fun i v l hi hl => by
    obtain ⟨h1, h2⟩ := hr.2 i v l hi hl
    exact ⟨owns_keep h1 (fun k e => ha.same k (row_lt h1 k e) (fun e' => row_ne h1 hL (by decide) (e' ▸ e))), h2⟩⟩
theorem load35 (w : World) (g : Nat) (a b : Value) (hg : w.heap[g]? = some (.cells #[a, b] 35 (0, 0))) : (loadVar 35 ⟨g, 0, none⟩).run Tryd.prog w = .ok (.agg #[a, b]) w := run_loadVar_row w g 35 35 #[a, b] (0, 0) _ hg Tryd.underlying35 rfl (by kernel_rfl)
theorem results_cell_tmp35 {fn : Func} {p u : Tmp} (h : fn.results = #[.cell p 35, .tmp u]) (tmps : Array Value) (w : World) (g : Nat) (a b : Value)
    (hp : tmps.getD p undef = .pointer (some ⟨g, 0, none⟩)) (hg : w.heap[g]? = some (.cells #[a, b] 35 (0, 0))) :
    (results fn tmps).run Tryd.prog w = .ok (.tuple #[.agg #[a, b], tmps.getD u undef]) w := by
  have hp' : tmps[p]?.getD undef = .pointer (some ⟨g, 0, none⟩) := by simpa using hp
  simp [results, h, hp', asAddr, load35 w g a b hg]
theorem results_tmp_cell35 {fn : Func} {p u : Tmp} (h : fn.results = #[.tmp u, .cell p 35]) (tmps : Array Value) (w : World) (g : Nat) (a b : Value)
    (hp : tmps.getD p undef = .pointer (some ⟨g, 0, none⟩)) (hg : w.heap[g]? = some (.cells #[a, b] 35 (0, 0))) :
    (results fn tmps).run Tryd.prog w = .ok (.tuple #[tmps.getD u undef, .agg #[a, b]]) w := by
  have hp' : tmps[p]?.getD undef = .pointer (some ⟨g, 0, none⟩) := by simpa using hp
  simp [results, h, hp', asAddr, load35 w g a b hg]
set_option maxRecDepth 100000 in
set_option maxHeartbeats 4000000 in
theorem end_calls (B : Nat) (m : MS) (fv rv : Value) (at_ : Int) (fn : Value) (W : World) (h : MkAt B m fv rv W) (hF : m.F ≤ 2147483648) (hn : m.record.length + 1 ≤ 2147483648) (hst : m.stopped = 0) :
    Calls Tryd.prog 50 #[.pointer (some ⟨B, 0, none⟩), .int .i64 0, .int .i64 0, .int .i64 at_, fn] W (fun e w' => e = .returned (.tuple #[.agg #[.int .i64 0, .int .i64 0], .bool true]) ∧ Acts (MC B fv rv) W w') := by
  obtain ⟨W1, hW1⟩ : ∃ W1, W.alloc (.cells #[.int .i64 0, .int .i64 0] 35) = W1 := ⟨_, rfl⟩
  have hx : W1.heap[W.heap.size]? = some (.cells #[.int .i64 0, .int .i64 0] 35 (0, 0)) := by rw [← hW1]; simpa using heap_alloc_new W (.cells #[.int .i64 0, .int .i64 0] 35)
  have hA1 : Acts (fun _ => False) W W1 := by rw [← hW1]; exact Acts.alloc _ _ _
  have h1 := h.acts hA1 (fun _ _ h => h)
  have hT : takeM m ⟨false, false, false, false, false, 0⟩ = ({ m with stopped := 0 }, [], false, 0) := by simp [takeM, take1, gatherM, gather3, gather2, gather1, hst]
  have hsc := fun w => sclose_calls 0 w
  have hS : closeSc 0 = (⟨false, false, false, false, false, 0⟩, 0) := rfl
  rw [hS] at hsc
  dsimp only [Ev.cells] at hsc
  have hnM : ¬ MC B fv rv W.heap.size := fun e => by
    rcases e with e | e | e
    · have := h.lt; omega
    · have := row_lt h.frow _ e; omega
    · have := row_lt h.rrow _ e; omega
  go_enter Tryd.func50, Tryd.ntmps50
  go_wp2_with (first
    | (go_at_call 30; (with_reducible refine (hsc _).mono ?_); rintro e w2 ⟨rfl, hA2⟩; have hA3 := hA2.trans (Acts.alloc (fun _ => False) w2 (.cells #[.bool false, .bool false, .bool false, .bool false, .bool false, .int .u8 0] 77)) (fun _ h => .inl h); have htk := take_calls B m ⟨false, false, false, false, false, 0⟩ fv rv _ (h1.acts hA3 (fun _ _ h => h)) hF hn; unfold TkTo at htk; rw [hT] at htk; dsimp only [Ev.cells] at htk)
    | (go_at_call 44; (with_reducible refine htk.mono ?_); rintro e w4 ⟨out, fv', rv', rfl, hg, hout, _, _⟩; clear htk; have hA5 : Acts (MC B fv rv) W1 w4 := (hA3.weaken (fun _ _ h => h.elim)).trans hg.acts (fun _ h => .inl h); have hx4 := (hA5.same _ (blk_lt hx) hnM).trans hx; have l0 := (blk_cell hx4 0).trans rfl; have l1 := (blk_cell hx4 1).trans rfl; have k0 := blk_frozen hx4 0; have k1 := blk_frozen hx4 1))
  refine bodyPost_ret (results_cell_tmp35 rfl _ _ W.heap.size (.int .i64 0) (.int .i64 0) rfl (flt_stored hx4 _ _)) rfl ?_
  exact ⟨rfl, ((hA1.weaken (fun _ _ h => h.elim)).trans hA5 (fun _ h => .inl h)).trans (flt_acts _ _ _ _) (fun j e => .inr (by omega))⟩
def txt : List Int := [97, 44, 34, 98, 34, 10]
/-- Where the walk stands behind so many bytes. -/
def stA : Nat → Int × MS × List (List ByteArray)
  | 0 => (0, initM 9 9 9 false, [])
  | i + 1 => ((scanS 44 34 1 (stA i).1 (txt.getD i 0)).2.1, (takeM (stA i).2.1 (scanS 44 34 1 (stA i).1 (txt.getD i 0)).1).1,
      if (takeM (stA i).2.1 (scanS 44 34 1 (stA i).1 (txt.getD i 0)).1).2.2.1 = true then (stA i).2.2 ++ [(takeM (stA i).2.1 (scanS 44 34 1 (stA i).1 (txt.getD i 0)).1).2.1] else (stA i).2.2)
theorem tab_utf : ∀ i, i < 6 → stepU 0 (txt.getD i 0) = (0, true) := by decide
theorem tab_scan (i : Nat) (h : i < 6) : (scanS 44 34 1 (stA i).1 (txt.getD i 0)).2.2 = 0 := by
  rcases i with _ | _ | _ | _ | _ | _ | i <;> first | omega | kernel_rfl
theorem tab_take (i : Nat) (h : i < 6) : (takeM (stA i).2.1 (scanS 44 34 1 (stA i).1 (txt.getD i 0)).1).2.2.2 = 0 := by
  rcases i with _ | _ | _ | _ | _ | _ | i <;> first | omega | kernel_rfl
theorem tab_small (i : Nat) (h : i ≤ 6) : (stA i).2.1.F = 9 ∧ Nat.ble (stA i).2.1.record.length 10 = true ∧ Nat.ble (stA i).2.2.length 10 = true := by
  rcases i with _ | _ | _ | _ | _ | _ | _ | i <;> first | omega | (refine ⟨?_, ?_, ?_⟩ <;> kernel_rfl)
theorem tab_end : (stA 6).1 = 0 ∧ (stA 6).2.1.stopped = 0 ∧ (stA 6).2.2.map (List.map (fun b => b.data.toList)) = [[[97], [98]]] := by
  refine ⟨?_, ?_, ?_⟩ <;> kernel_rfl
theorem tab_at (i : Nat) (h : i < 6) (w : World) : (Instr.index 9 (.string ⟨#[97, 44, 34, 98, 34, 10]⟩) (.int .i64 i)).run Tryd.prog w = .ok (.int .u8 (txt.getD i 0)) w := by
  rw [run_index_string (P := Tryd.prog) w 9 _ .i64 i (by kernel_rfl)]
  rcases i with _ | _ | _ | _ | _ | _ | i <;> first | omega | rfl
set_option maxRecDepth 100000 in
set_option maxHeartbeats 8000000 in
theorem wwalk_calls (n0 O : Nat) (W : World) (hU : Utf n0 W) (hO : W.heap[O]? = some (.cells #[.slice none 0 0] 44 (0, 0))) (hOn : n0 ≤ O) :
    Calls Tryd.prog 38 #[.agg #[.int .u8 44, .int .u8 34, .int .i64 1], .agg #[.int .i64 9, .int .i64 9, .int .i64 9, .bool false], .string ⟨#[97, 44, 34, 98, 34, 10]⟩, .func (.func 39) #[] #[.pointer (some ⟨O, 0, none⟩)]] W
      (fun e w' => e = .returned (.tuple #[.agg #[.int .i64 0, .int .i64 0], .bool true]) ∧ (∃ rv qv rows, w'.heap[O]? = some (.cells #[qv] 44 (0, 0)) ∧ w'.ownsRow 0 61 1 qv (stA 6).2.2.length rows ∧ RowsAt rv w' rows (stA 6).2.2) ∧ Acts (fun k => k = O) W w') := by
  obtain ⟨W1, hW1⟩ : ∃ W1, ((W.alloc (.cells #[.int .u8 44, .int .u8 34, .int .i64 1] 23)).alloc (.cells #[.int .i64 9, .int .i64 9, .int .i64 9, .bool false] 25)).alloc (.cells #[.int .i64 0, .int .i64 0] 35) = W1 := ⟨_, rfl⟩
  have hA1 : Acts (fun _ => False) W W1 := by rw [← hW1]; exact ((Acts.alloc (fun _ => False) _ _).trans (Acts.alloc (fun _ => False) _ _) (fun _ h => .inl h)).trans (Acts.alloc (fun _ => False) _ _) (fun _ h => .inl h)
  have hx : W1.heap[W.heap.size]? = some (.cells #[.int .u8 44, .int .u8 34, .int .i64 1] 23 (0, 0)) := by rw [← hW1]; exact blk_alloc (blk_alloc (by simpa using heap_alloc_new W (.cells #[.int .u8 44, .int .u8 34, .int .i64 1] 23)) _) _
  have hy : W1.heap[W.heap.size + 1]? = some (.cells #[.int .i64 9, .int .i64 9, .int .i64 9, .bool false] 25 (0, 0)) := by rw [← hW1]; exact blk_alloc (by simpa using heap_alloc_new (W.alloc (.cells #[.int .u8 44, .int .u8 34, .int .i64 1] 23)) (.cells #[.int .i64 9, .int .i64 9, .int .i64 9, .bool false] 25)) _
  have hz : W1.heap[W.heap.size + 2]? = some (.cells #[.int .i64 0, .int .i64 0] 35 (0, 0)) := by rw [← hW1]; simpa using heap_alloc_new ((W.alloc (.cells #[.int .u8 44, .int .u8 34, .int .i64 1] 23)).alloc (.cells #[.int .i64 9, .int .i64 9, .int .i64 9, .bool false] 25)) (.cells #[.int .i64 0, .int .i64 0] 35)
  have x0 := (blk_cell hx 0).trans rfl
  have x1 := (blk_cell hx 1).trans rfl
  have x2 := (blk_cell hx 2).trans rfl
  have hOl := blk_lt hO
  have hcc := PTopSticky.dialect_Check.calls 44 34 1 0 W1 (by kernel_rfl)
  go_enter Tryd.func38, Tryd.ntmps38
  go_wp2
  refine wp_scope_straight ?_
  go_wp2_with (first
    | (go_at_call 22; ((with_reducible refine hcc.mono ?_); rintro e w2 ⟨rfl, hb⟩; have hA2 : Acts (fun _ => False) W1 w2 := Acts.of_below hb; clear hb; have hy2 := (hA2.same _ (blk_lt hy) (fun h => h)).trans hy; have y0 := (blk_cell hy2 0).trans rfl; have y1 := (blk_cell hy2 1).trans rfl; have y2 := (blk_cell hy2 2).trans rfl; have y3 := (blk_cell hy2 3).trans rfl))
    | (go_at_call 23; ((with_reducible refine (fnew_calls 9 9 9 false _ (by kernel_rfl)).mono ?_); rintro e w3 ⟨B, rfl, hBn, hMB, hA3⟩))
    | (go_at_call 49; ((with_reducible refine (PTopSticky.bom_Strip.calls _ ⟨#[97, 44, 34, 98, 34, 10]⟩ false _ (by kernel_rfl)).mono ?_); rintro e w4 ⟨rfl, hdr⟩)))
  refine wp_label ?_
  obtain ⟨nd, rfl⟩ := hdr.out
  have hA4 : Acts (fun _ => False) w3 (w3.drewN nd) := Acts.drewN _ _ _
  have hA14 := (hA2.trans hA3 (fun _ h => .inl h)).trans hA4 (fun _ h => .inl h)
  have hA04 := hA1.trans hA14 (fun _ h => .inl h)
  obtain ⟨w4, hw4⟩ : ∃ w4, w3.drewN nd = w4 := ⟨_, rfl⟩
  rw [hw4] at hA4 hA14 hA04 ⊢
  have hW0 : WAt O B (initM 9 9 9 false) [] (.slice none 0 0) (.slice none 0 0) (.slice none 0 0) w4 := ⟨hMB.acts hA4 (fun _ _ h => h), (hA04.same _ hOl (fun h => h)).trans hO, ⟨[], World.ownsRow_nil _ _ _ _, rfl, fun i v l hi => by simp at hi⟩⟩
  have HG0 : Hid (WGo O B (.slice none 0 0) (.slice none 0 0) (.slice none 0 0) w4 (stA 0).2.1 (stA 0).2.2 (.slice none 0 0) (.slice none 0 0) (.slice none 0 0) w4) := WGo.refl hW0
  have hxD := (hA14.same _ (blk_lt hx) (fun h => h)).trans hx
  have hzL := (hA14.same _ (blk_lt hz) (fun h => h)).trans hz
  have hBs : W.heap.size + 2 < B := by have := blk_lt hz; have := hA2.size; omega
  have hnD : ¬ WC O B (.slice none 0 0) (.slice none 0 0) (.slice none 0 0) W.heap.size := by
    rintro (e | (e | e | e) | e)
    · omega
    · omega
    · cases e
    · cases e
    · cases e
  have hnL : ¬ WC O B (.slice none 0 0) (.slice none 0 0) (.slice none 0 0) (W.heap.size + 2) := by
    rintro (e | (e | e | e) | e)
    · omega
    · omega
    · cases e
    · cases e
    · cases e
  have hUw : Utf n0 w4 := hU.acts hA04 (fun _ h => h.elim)
  have hUn : ∀ k, WC O B (.slice none 0 0) (.slice none 0 0) (.slice none 0 0) k → n0 ≤ k := by
    rintro k (rfl | (rfl | e | e) | e)
    · exact hOn
    · have := hU.1; omega
    · cases e
    · cases e
    · cases e
  have HU : Hid (Utf n0 w4) := hUw
  have HUn : Hid (∀ k, WC O B (.slice none 0 0) (.slice none 0 0) (.slice none 0 0) k → n0 ≤ k) := hUn
  have HD : Hid (w4.heap[W.heap.size]? = some (.cells #[.int .u8 44, .int .u8 34, .int .i64 1] 23 (0, 0))) := hxD
  have HL : Hid (w4.heap[W.heap.size + 2]? = some (.cells #[.int .i64 0, .int .i64 0] 35 (0, 0))) := hzL
  have HA04 : Hid (Acts (fun _ => False) W w4) := hA04
  clear hU hO hA1 hx hy hz x0 x1 x2 hcc hA2 hA3 hA4 hA14 hA04 hy2 y0 y1 y2 y3 hMB hw4 hW0 hxD hzL hUw hUn hdr
  go_wp2
  go_loopw [52, 16, 17] (fun y u s wl => ∃ (i : Nat) (fv rv qv : Value), i ≤ 6 ∧ y = .int .i64 i ∧ u = .int .i64 0 ∧ s = .int .i64 (stA i).1 ∧ Hid (WGo O B (.slice none 0 0) (.slice none 0 0) (.slice none 0 0) w4 (stA i).2.1 (stA i).2.2 fv rv qv wl)) (fun y _ _ _ => 6 - (intOf y).toNat)
  case atStart => exact ⟨0, _, _, _, Nat.zero_le _, rfl, rfl, rfl, HG0⟩
  case round =>
    obtain ⟨i, fv, rv, qv, hi, rfl, rfl, rfl, HG⟩ := hrel
    by_cases hlt0 : i < 6
    · obtain ⟨c, hc⟩ : ∃ c, txt.getD i 0 = c := ⟨_, rfl⟩
      obtain ⟨st, m, ls, hA⟩ : ∃ st m ls, stA i = (st, m, ls) := ⟨_, _, _, rfl⟩
      have t1 := tab_utf i hlt0
      have t2 := tab_scan i hlt0
      have t3 := tab_take i hlt0
      have t4 := tab_small i hi
      have hidx := tab_at i hlt0
      rw [hA, hc] at t2 t3
      rw [hc] at t1 hidx
      rw [hA] at t4 HG ⊢
      dsimp only at t2 t3 t4 HG ⊢
      obtain ⟨e0, e1, e2, e3, e4, e5, nx, f, hS⟩ : ∃ e0 e1 e2 e3 e4 e5 nx f, scanS 44 34 1 st c = (⟨e0, e1, e2, e3, e4, e5⟩, nx, f) := ⟨_, _, _, _, _, _, _, _, rfl⟩
      rw [hS] at t2 t3
      dsimp only at t2 t3
      subst t2
      obtain ⟨m', l, ok, k, hT⟩ : ∃ m' l ok k, takeM m ⟨e0, e1, e2, e3, e4, e5⟩ = (m', l, ok, k) := ⟨_, _, _, _, rfl⟩
      rw [hT] at t3
      dsimp only at t3
      subst t3
      have hst : stA (i + 1) = (nx, m', if ok = true then ls ++ [l] else ls) := by
        rw [stA, hA, hc]
        dsimp only
        rw [hS]
        dsimp only
        rw [hT]
      have HT : Hid (takeM m ⟨e0, e1, e2, e3, e4, e5⟩ = (m', l, ok, 0)) := hT
      have HSt : Hid (stA (i + 1) = (nx, m', if ok = true then ls ++ [l] else ls)) := hst
      have hsc := fun w => scan_calls 44 34 1 st c w
      rw [hS] at hsc
      dsimp only [Ev.cells] at hsc
      have hg0 := HG.out
      have hstep := step_calls n0 0 c wr (HU.out.acts hg0.acts HUn.out) (by decide)
      rw [t1, show ((0 : Nat) : Int) = 0 from rfl] at hstep
      dsimp only at hstep
      have hxw := (hg0.acts.same _ (blk_lt HD.out) hnD).trans HD.out
      obtain ⟨t5, t6, t7⟩ := t4
      have t6' := Nat.le_of_ble_eq_true t6
      have t7' := Nat.le_of_ble_eq_true t7
      clear hg0 hS hT hst hA t1 t6 t7 hc
      go_wp2_with (go_at_call 25; ((with_reducible refine hstep.mono ?_); rintro e w1 ⟨rfl, hA25⟩; have hxr := (hA25.same _ (blk_lt hxw) (fun h => h)).trans hxw))
      refine start_ (n := 14) (S := fun w' => w'.heap[W.heap.size]? = some (.cells #[.int .u8 44, .int .u8 34, .int .i64 1] 23 (0, 0))) (ds := [11]) #[false, false, false, false, false, false, false, false, false, false, false, false, false, false] (by kernel_rfl) rfl rfl hxr (fun hHeld => ?_)
      refine take_ (i := 0) (N := some 72) (v := ?_) (a' := ?_) #[true, false, false, false, false, false, false, false, false, false, false, false, false, false] rfl rfl (by kernel_rfl) (fun _ _ _ h => h) (Or.inl ⟨by rfl, ?_⟩) hHeld ?_ ?_
      rotate_left
      · intro w' s0
        have y0 := (blk_cell s0 0).trans rfl
        have y1 := (blk_cell s0 1).trans rfl
        have y2 := (blk_cell s0 2).trans rfl
        clear s0
        go_simp
        with_reducible rfl
      rotate_left
      · simp only [Act.put, List.setIfInBounds_toArray, List.set_cons_zero, List.set_cons_succ]
        rfl
      refine pure_ (i := 1) (N := some 73) (v := ?_) (a' := ?_) #[true, true, false, false, false, false, false, false, false, false, false, false, false, false] rfl rfl (by kernel_rfl) (fun _ _ _ h => h) (Or.inl ⟨by rfl, ?_⟩) ?_ ?_
      rotate_left
      · intro w'
        go_simp
        with_reducible rfl
      rotate_left
      · simp only [Act.put, List.setIfInBounds_toArray, List.set_cons_zero, List.set_cons_succ]
        rfl
      refine pure_ (i := 2) (N := some 74) (v := ?_) (a' := ?_) #[true, true, true, false, false, false, false, false, false, false, false, false, false, false] rfl rfl (by kernel_rfl) (fun _ _ _ h => h) (Or.inl ⟨by rfl, ?_⟩) ?_ ?_
      rotate_left
      · intro w'
        go_simp
        with_reducible rfl
      rotate_left
      · simp only [Act.put, List.setIfInBounds_toArray, List.set_cons_zero, List.set_cons_succ]
        rfl
      refine pure_ (i := 3) (N := some 75) (v := ?_) (a' := ?_) #[true, true, true, true, false, false, false, false, false, false, false, false, false, false] rfl rfl (by kernel_rfl) (fun _ _ _ h => h) (Or.inl ⟨by rfl, ?_⟩) ?_ ?_
      rotate_left
      · intro w'
        go_simp
        with_reducible rfl
      rotate_left
      · simp only [Act.put, List.setIfInBounds_toArray, List.set_cons_zero, List.set_cons_succ]
        rfl
      refine pure_ (i := 4) (N := some 76) (v := ?_) (a' := ?_) #[true, true, true, true, true, false, false, false, false, false, false, false, false, false] rfl rfl (by kernel_rfl) (fun _ _ _ h => h) (Or.inl ⟨by rfl, ?_⟩) ?_ ?_
      rotate_left
      · intro w'
        go_simp
        with_reducible rfl
      rotate_left
      · simp only [Act.put, List.setIfInBounds_toArray, List.set_cons_zero, List.set_cons_succ]
        rfl
      refine join_ (σ := Nat) 3 #[true, true, true, true, true, true, true, true, true, true, true, false, false, false] (fun s_ => [(77, .tuple #[.agg #[.bool e0, .bool e1, .bool e2, .bool e3, .bool e4, .int .u8 e5], .int .i64 nx, .int .i64 0]), (21, .pointer (some ⟨s_, 0, none⟩)), (71, .tuple #[.agg #[.bool e0, .bool e1, .bool e2, .bool e3, .bool e4, .int .u8 e5], .int .i64 nx, .int .i64 0]), (78, .agg #[.bool e0, .bool e1, .bool e2, .bool e3, .bool e4, .int .u8 e5]), (79, .int .i64 nx), (80, .int .i64 0)]) (fun s_ w' => Acts (fun _ => False) w1 w' ∧ w'.heap[s_]? = some (.cells #[.bool false, .bool false, .bool false, .bool false, .bool false, .int .u8 0] 77 (0, 0)) ∧ w1.heap.size ≤ s_) ?_ ?_
      rotate_left
      · intro hCont
        refine two_ (i := 5) (j := 10) (Ni := some 77) (Nj := some 21) #[true, true, true, true, true, true, false, false, false, false, false, false, false, false] #[true, true, true, true, true, false, false, false, false, false, true, false, false, false] rfl rfl rfl rfl (by kernel_rfl) (by decide) (by decide) (fun K hK => ?_) (fun K hK => ?_)
        · skip
          refine goes_ Tryd.func42 (by kernel_rfl) rfl #[.agg #[.int .u8 44, .int .u8 34, .int .i64 1], .int .i64 st, .int .u8 c] (by rfl) rfl rfl (by simp only [List.map_toArray, List.map_cons, List.map_nil]; rfl) ?_
          with_reducible refine (hsc _).mono ?_
          rintro e w2 ⟨rfl, hA1⟩
          refine ⟨_, rfl, ?_⟩
          refine hK.out _ _ ((hA1.same _ (blk_lt hxr) (fun h => h)).trans hxr) (fun hHeld => ?_)
          clear hK K
          refine norm_ (a' := ?_) ?_ ?_
          rotate_left
          · show Act.put _ (some 77) _ = _
            simp only [Act.put, List.setIfInBounds_toArray, List.set_cons_zero, List.set_cons_succ]
            rfl
          refine pure_ (i := 6) (N := some 71) (v := ?_) (a' := ?_) #[true, true, true, true, true, true, true, false, false, false, false, false, false, false] rfl rfl (by kernel_rfl) (fun _ _ _ h => h) (Or.inl ⟨by rfl, ?_⟩) ?_ ?_
          rotate_left
          · intro w'
            go_simp
            with_reducible rfl
          rotate_left
          · simp only [Act.put, List.setIfInBounds_toArray, List.set_cons_zero, List.set_cons_succ]
            rfl
          refine pure_ (i := 7) (N := some 78) (v := ?_) (a' := ?_) #[true, true, true, true, true, true, true, true, false, false, false, false, false, false] rfl rfl (by kernel_rfl) (fun _ _ _ h => h) (Or.inl ⟨by rfl, ?_⟩) ?_ ?_
          rotate_left
          · intro w'
            go_simp
            with_reducible rfl
          rotate_left
          · simp only [Act.put, List.setIfInBounds_toArray, List.set_cons_zero, List.set_cons_succ]
            rfl
          refine pure_ (i := 8) (N := some 79) (v := ?_) (a' := ?_) #[true, true, true, true, true, true, true, true, true, false, false, false, false, false] rfl rfl (by kernel_rfl) (fun _ _ _ h => h) (Or.inl ⟨by rfl, ?_⟩) ?_ ?_
          rotate_left
          · intro w'
            go_simp
            with_reducible rfl
          rotate_left
          · simp only [Act.put, List.setIfInBounds_toArray, List.set_cons_zero, List.set_cons_succ]
            rfl
          refine pure_ (i := 9) (N := some 80) (v := ?_) (a' := ?_) #[true, true, true, true, true, true, true, true, true, true, false, false, false, false] rfl rfl (by kernel_rfl) (fun _ _ _ h => h) (Or.inl ⟨by rfl, ?_⟩) ?_ ?_
          rotate_left
          · intro w'
            go_simp
            with_reducible rfl
          rotate_left
          · simp only [Act.put, List.setIfInBounds_toArray, List.set_cons_zero, List.set_cons_succ]
            rfl
          refine one_ (i := 10) (N := some 21) #[true, true, true, true, true, true, true, true, true, true, true, false, false, false] rfl rfl (by kernel_rfl) (by decide) (fun K hK => ?_)
          refine box_step ?hg (N := 21) ?hd (cs := #[.bool false, .bool false, .bool false, .bool false, .bool false, .int .u8 0]) (t := 77) ?hr ?_; (case hd => rfl); (case hg => rfl); (case hr => first | (go_simp; done) | (go_simp; rfl))
          intro s1 hg w3 hbox hb
          have hA2 : Acts (fun _ => False) w1 w3 := (Acts.drew (fun _ => False) w1).trans (hA1.trans (C' := fun _ => False) (Acts.of_below hb) (fun _ h => .inl h)) (fun _ h => .inl h)
          refine hK.out _ _ ((hA2.same _ (blk_lt hxr) (fun h => h)).trans hxr) (fun hHeld => ?_)
          clear hK K
          refine norm_ (a' := ?_) ?_ ?_
          rotate_left
          · show Act.put _ (some 21) _ = _
            simp only [Act.put, List.setIfInBounds_toArray, List.set_cons_zero, List.set_cons_succ]
            rfl
          exact norm_ (by simp only [putAll, Act.put, List.setIfInBounds_toArray, List.set_cons_zero, List.set_cons_succ]) (hCont s1 _ ⟨hA2, hbox, by rw [hg]; exact hA1.size⟩)
        · skip
          refine box_step ?hg (N := 21) ?hd (cs := #[.bool false, .bool false, .bool false, .bool false, .bool false, .int .u8 0]) (t := 77) ?hr ?_; (case hd => rfl); (case hg => rfl); (case hr => first | (go_simp; done) | (go_simp; rfl))
          intro s1 hg w2 hbox hb
          have hA1 : Acts (fun _ => False) w1 w2 := (Acts.drew (fun _ => False) w1).trans (C' := fun _ => False) (Acts.of_below hb) (fun _ h => .inl h)
          refine hK.out _ _ ((hA1.same _ (blk_lt hxr) (fun h => h)).trans hxr) (fun hHeld => ?_)
          clear hK K
          refine norm_ (a' := ?_) ?_ ?_
          rotate_left
          · show Act.put _ (some 21) _ = _
            simp only [Act.put, List.setIfInBounds_toArray, List.set_cons_zero, List.set_cons_succ]
            rfl
          refine one_ (i := 5) (N := some 77) #[true, true, true, true, true, true, false, false, false, false, true, false, false, false] rfl rfl (by kernel_rfl) (by decide) (fun K hK => ?_)
          refine goes_ Tryd.func42 (by kernel_rfl) rfl #[.agg #[.int .u8 44, .int .u8 34, .int .i64 1], .int .i64 st, .int .u8 c] (by rfl) rfl rfl (by simp only [List.map_toArray, List.map_cons, List.map_nil]; rfl) ?_
          with_reducible refine (hsc _).mono ?_
          rintro e w3 ⟨rfl, hA2⟩
          refine ⟨_, rfl, ?_⟩
          have hA3 : Acts (fun _ => False) w1 w3 := hA1.trans hA2 (fun _ h => .inl h)
          refine hK.out _ _ ((hA3.same _ (blk_lt hxr) (fun h => h)).trans hxr) (fun hHeld => ?_)
          clear hK K
          refine norm_ (a' := ?_) ?_ ?_
          rotate_left
          · show Act.put _ (some 77) _ = _
            simp only [Act.put, List.setIfInBounds_toArray, List.set_cons_zero, List.set_cons_succ]
            rfl
          refine pure_ (i := 6) (N := some 71) (v := ?_) (a' := ?_) #[true, true, true, true, true, true, true, false, false, false, true, false, false, false] rfl rfl (by kernel_rfl) (fun _ _ _ h => h) (Or.inl ⟨by rfl, ?_⟩) ?_ ?_
          rotate_left
          · intro w'
            go_simp
            with_reducible rfl
          rotate_left
          · simp only [Act.put, List.setIfInBounds_toArray, List.set_cons_zero, List.set_cons_succ]
            rfl
          refine pure_ (i := 7) (N := some 78) (v := ?_) (a' := ?_) #[true, true, true, true, true, true, true, true, false, false, true, false, false, false] rfl rfl (by kernel_rfl) (fun _ _ _ h => h) (Or.inl ⟨by rfl, ?_⟩) ?_ ?_
          rotate_left
          · intro w'
            go_simp
            with_reducible rfl
          rotate_left
          · simp only [Act.put, List.setIfInBounds_toArray, List.set_cons_zero, List.set_cons_succ]
            rfl
          refine pure_ (i := 8) (N := some 79) (v := ?_) (a' := ?_) #[true, true, true, true, true, true, true, true, true, false, true, false, false, false] rfl rfl (by kernel_rfl) (fun _ _ _ h => h) (Or.inl ⟨by rfl, ?_⟩) ?_ ?_
          rotate_left
          · intro w'
            go_simp
            with_reducible rfl
          rotate_left
          · simp only [Act.put, List.setIfInBounds_toArray, List.set_cons_zero, List.set_cons_succ]
            rfl
          refine pure_ (i := 9) (N := some 80) (v := ?_) (a' := ?_) #[true, true, true, true, true, true, true, true, true, true, true, false, false, false] rfl rfl (by kernel_rfl) (fun _ _ _ h => h) (Or.inl ⟨by rfl, ?_⟩) ?_ ?_
          rotate_left
          · intro w'
            go_simp
            with_reducible rfl
          rotate_left
          · simp only [Act.put, List.setIfInBounds_toArray, List.set_cons_zero, List.set_cons_succ]
            rfl
          exact norm_ (by simp only [putAll, Act.put, List.setIfInBounds_toArray, List.set_cons_zero, List.set_cons_succ]) (hCont s1 _ ⟨hA3, (hA2.same s1 (blk_lt hbox) (fun h => h)).trans hbox, by rw [hg]; exact Nat.le_refl w1.heap.size⟩)
      rintro s2 w2 ⟨hA2, hs2, hge⟩
      have y0 := (blk_cell hs2 0).trans rfl
      have z0 := blk_frozen hs2 0
      have y1 := (blk_cell hs2 1).trans rfl
      have z1 := blk_frozen hs2 1
      have y2 := (blk_cell hs2 2).trans rfl
      have z2 := blk_frozen hs2 2
      have y3 := (blk_cell hs2 3).trans rfl
      have z3 := blk_frozen hs2 3
      have y4 := (blk_cell hs2 4).trans rfl
      have z4 := blk_frozen hs2 4
      have y5 := (blk_cell hs2 5).trans rfl
      have z5 := blk_frozen hs2 5
      obtain ⟨w3, hw3⟩ : ∃ w3, ((((((w2.setCell ⟨s2, 0, none⟩ (.bool e0)).setCell ⟨s2, 1, none⟩ (.bool e1)).setCell ⟨s2, 2, none⟩ (.bool e2)).setCell ⟨s2, 3, none⟩ (.bool e3)).setCell ⟨s2, 4, none⟩ (.bool e4)).setCell ⟨s2, 5, none⟩ (.int .u8 e5)) = w3 := ⟨_, rfl⟩
      have hx3 : w3.heap[s2]? = some (.cells #[.bool e0, .bool e1, .bool e2, .bool e3, .bool e4, .int .u8 e5] 77 (0, 0)) := by rw [← hw3]; exact ev_stored hs2 rfl _ _ _ _ _ _
      have hA3 : Acts (fun _ => False) w1 w3 := by rw [← hw3]; exact hA2.trans (ev_stored_acts w2 s2 _ _ _ _ _ _) (fun j e => .inr (by omega))
      refine norm_ (a' := ?_) ?_ ?_
      rotate_left
      · simp only [putAll, Act.put, List.setIfInBounds_toArray, List.set_cons_zero, List.set_cons_succ]
        rfl
      refine last_ (i := 11) (N := none) #[true, true, true, true, true, true, true, true, true, true, true, true, false, false] rfl rfl (by kernel_rfl) (by decide) (fun K hK => ?_)
      refine skip_ (w1 := w3) (by rfl) rfl ?_ ?_
      · rw [← hw3]
        go_simp
      refine hK.out _ _ ?_
      clear hK K hHeld
      refine pure_ (i := 12) (N := some 22) (v := ?_) (a' := ?_) #[true, true, true, true, true, true, true, true, true, true, true, true, true, false] rfl rfl (by kernel_rfl) (fun _ _ _ h => h) (Or.inl ⟨by rfl, ?_⟩) ?_ ?_
      rotate_left
      · intro w'
        go_simp
        with_reducible rfl
      rotate_left
      · simp only [Act.put, List.setIfInBounds_toArray, List.set_cons_zero, List.set_cons_succ]
        rfl
      refine pure_ (i := 13) (N := some 23) (v := ?_) (a' := ?_) #[true, true, true, true, true, true, true, true, true, true, true, true, true, true] rfl rfl (by kernel_rfl) (fun _ _ _ h => h) (Or.inl ⟨by rfl, ?_⟩) ?_ ?_
      rotate_left
      · intro w'
        go_simp
        with_reducible rfl
      rotate_left
      · simp only [Act.put, List.setIfInBounds_toArray, List.set_cons_zero, List.set_cons_succ]
        rfl
      refine done_ (by kernel_rfl) ?_
      have hgo3 := WGo.more HG.out (hA25.trans hA3 (fun _ h => .inl h))
      have htk := take_calls B m ⟨e0, e1, e2, e3, e4, e5⟩ fv rv w3 hgo3.it.mak (by omega) (by omega)
      unfold TkTo at htk
      rw [HT.out] at htk
      dsimp only [Ev.cells] at htk
      have x0 := (blk_cell hx3 0).trans rfl
      have x1 := (blk_cell hx3 1).trans rfl
      have x2 := (blk_cell hx3 2).trans rfl
      have x3 := (blk_cell hx3 3).trans rfl
      have x4 := (blk_cell hx3 4).trans rfl
      have x5 := (blk_cell hx3 5).trans rfl
      have HG3 : Hid (WGo O B (.slice none 0 0) (.slice none 0 0) (.slice none 0 0) w4 _ _ _ _ _ w3) := hgo3
      clear hw3 hs2 hA2 hA3 hx3 hsc y0 y1 y2 y3 y4 y5 z0 z1 z2 z3 z4 z5 hgo3 hxr hxw
      cases ok with
      | false =>
        go_wp2_with (first
          | (go_at_call 44; ((with_reducible refine htk.mono ?_); rintro e w5 ⟨out, fv', rv', rfl, hg, hout, hno, hfree⟩; have HG5 : Hid (WGo O B (.slice none 0 0) (.slice none 0 0) (.slice none 0 0) w4 _ _ _ _ _ w5) := HG3.out.trans (HG3.out.it.maker hg); clear htk hg hout hno hfree)))
        have hst2 := HSt.out
        go_roundw
        case rel => exact ⟨i + 1, _, _, _, by omega, by go_num, rfl, by rw [hst2], by rw [hst2]; exact HG5⟩
        case measure => simp [intOf]; omega
      | true =>
        go_wp2_with (first
          | (go_at_call 44; ((with_reducible refine htk.mono ?_); rintro e w5 ⟨out, fv', rv', rfl, hg, hout, hno, hfree⟩; obtain ⟨oa, oc, rfl⟩ := slice_len hout; have HG5 : Hid (WGo O B (.slice none 0 0) (.slice none 0 0) (.slice none 0 0) w4 _ _ _ _ _ w5) := HG3.out.trans (HG3.out.it.maker hg); have hyc := yield_calls O B _ _ _ _ _ l oa oc w5 HG5.out.it (by omega) hout hfree; clear htk hg hout hno hfree))
          | (go_at_call 39; ((with_reducible refine hyc.mono ?_); rintro e w6 ⟨rfl, qv6, hg6⟩; have HG6 : Hid (WGo O B (.slice none 0 0) (.slice none 0 0) (.slice none 0 0) w4 _ _ _ _ _ w6) := HG5.out.trans hg6; clear hyc hg6)))
        have hst2 := HSt.out
        go_roundw
        case rel => exact ⟨i + 1, _, _, _, by omega, by go_num, rfl, by rw [hst2], by rw [hst2]; exact HG6⟩
        case measure => simp [intOf]; omega
    · obtain rfl : i = 6 := by omega
      have hg0 := HG.out
      obtain ⟨z1, z2, z3⟩ := tab_end
      obtain ⟨t5, t6, t7⟩ := tab_small 6 (Nat.le_refl _)
      have t6' := Nat.le_of_ble_eq_true t6
      have hend := end_calls B (stA 6).2.1 fv rv 6 (.func (.func 39) #[] #[.pointer (some ⟨O, 0, none⟩)]) wr hg0.it.mak (by omega) (by omega) z2
      have hzr := (hg0.acts.same _ (blk_lt HL.out) hnL).trans HL.out
      rw [z1]
      have hlM : ¬ MC B fv rv (W.heap.size + 2) := fun e => by
        have hL2 := blk_lt HL.out
        rcases e with e | e | e
        · omega
        · rcases hg0.fnew _ e with e' | e'
          · cases e'
          · omega
        · rcases hg0.rnew _ e with e' | e'
          · cases e'
          · omega
      have Hg0 : Hid (WGo O B (.slice none 0 0) (.slice none 0 0) (.slice none 0 0) w4 _ _ _ _ _ wr) := hg0
      clear hg0 HG z1 z2 z3 t5 t6 t7 t6'
      go_wp2_with (go_at_call 50; ((with_reducible refine hend.mono ?_); rintro e w7 ⟨rfl, hA7⟩; have hz7 := (hA7.same _ (blk_lt hzr) hlM).trans hzr; have l0 := (blk_cell hz7 0).trans rfl; have l1 := (blk_cell hz7 1).trans rfl; have k0 := blk_frozen hz7 0; have k1 := blk_frozen hz7 1))
      rw [Exit.noGoto_ret]
      refine bodyPost_ret (results_cell_tmp35 rfl _ _ (W.heap.size + 2) (.int .i64 0) (.int .i64 0) ?_ ?_) ?_ ?_
      · rfl
      · exact flt_stored hz7 _ _
      · rfl
      have hg0 := Hg0.out
      obtain ⟨o1, rows, o2, o3⟩ := hg0.it.after hA7
      have hAL := flt_acts w7 (W.heap.size + 2) (.int .i64 0) (.int .i64 0)
      refine ⟨rfl, ⟨rv, qv, rows, (hAL.same _ (blk_lt o1) (by omega)).trans o1, owns_keep o2 (fun k e => hAL.same k (row_lt o2 k e) (fun e' => row_ne o2 hz7 (by decide) (e' ▸ e))), rows_far o3 hz7 hAL⟩, ?_⟩
      have hs4 := HA04.out.size
      have hAll : Acts (fun k => k = O) W wr := (HA04.out.weaken (fun _ _ h => h.elim)).trans hg0.acts (fun j hj => by
        rcases hj with e | (e | e | e) | e
        · exact .inl e
        · exact .inr (by omega)
        · cases e
        · cases e
        · cases e)
      exact (hAll.trans hA7 (fun j hj => by
        rcases hj with e | e | e
        · exact .inr (by omega)
        · rcases hg0.fnew _ e with e' | e'
          · cases e'
          · exact .inr (by omega)
        · rcases hg0.rnew _ e with e' | e'
          · cases e'
          · exact .inr (by omega))).trans hAL (fun j e => .inr (by omega))
end Go.Proofs.YtmignbhpofmgeaaDoor.Top
