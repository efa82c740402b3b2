/- fields.Maker: add and put. -/
import Derived.Test.YtmignbhpofmgeaaDoorProg
import Derived.Below
import Derived.Deep.Draws
import Derived.Deep.AppendLies
import Derived.Maps.AppendAt
import Derived.OwnWalk
import Derived.Laws.BytesArg
import Derived.Laws.MakeOwn
import Derived.Laws.OwnMore
import Derived.Deep.OwnRows
import Derived.Tactics
import Derived.Lib.ConvBytes
import Derived.Laws.Slices
import Derived.WalkKit
import Derived.KernelRfl
import Derived.RowKit3
import Derived.Deep.LoopGhost
import Derived.Deep.QuietTactic
import Derived.BigQuiet
import Derived.WideLaws
import Derived.Deep.DeepCutAuto
import Derived.Deep.CutBlock
import Derived.Deep.RegionHeld3
import Derived.Laws.Rows
import Derived.Lib.AppendStr
import Derived.ArgAppend
import Derived.Laws.IdiomCopy
import Derived.OrdersHeld
import Derived.Laws.BitsLemmas
import Derived.RowKit
import Derived.Test.YtmignbhpofmgeaaDoorWWords
import Derived.Test.YtmignbhpofmgeaaDoorWLast
import Derived.Test.YtmignbhpofmgeaaDoorWTab
import Derived.Test.YtmignbhpofmgeaaDoorWFour
import Derived.Test.YtmignbhpofmgeaaDoorWQPut
import Derived.Test.YtmignbhpofmgeaaDoorWApart
import Derived.Test.YtmignbhpofmgeaaDoorWArr
import Derived.Test.YtmignbhpofmgeaaDoorWZeros
import Derived.Test.YtmignbhpofmgeaaDoorWFoot
import Derived.Test.YtmignbhpofmgeaaDoorWKept
import Derived.Test.YtmignbhpofmgeaaDoorWShare
import Derived.Test.YtmignbhpofmgeaaDoorWN
import Derived.Test.YtmignbhpofmgeaaDoorWFootNe
import Derived.Test.YtmignbhpofmgeaaDoorWAt
import Derived.Test.YtmignbhpofmgeaaDoorWEqStruct
import Derived.Test.YtmignbhpofmgeaaDoorWRepsOne
import Derived.Test.YtmignbhpofmgeaaDoorWInv
import Derived.Test.YtmignbhpofmgeaaDoorWInvWords
import Derived.Test.YtmignbhpofmgeaaDoorWGuard
import Derived.Test.YtmignbhpofmgeaaDoorWNEv
import Derived.Test.YtmignbhpofmgeaaDoorWMore
import Derived.Test.YtmignbhpofmgeaaDoorIter
import Derived.RangeFuncBox
import Derived.Lib.ConvBytes
import Derived.Test.YtmignbhpofmgeaaDoorMa
namespace Go.Proofs.YtmignbhpofmgeaaDoor.Top
open Go.RowKit Go.Proofs.YtmignbhpofmgeaaDoorW.PrintWords Go.Proofs.YtmignbhpofmgeaaDoorW.PrintLast Go.Proofs.YtmignbhpofmgeaaDoorW.PrintMore Go.Proofs.YtmignbhpofmgeaaDoor.Iter
set_option linter.unusedVariables false
set_option linter.unusedSimpArgs false

/-- From v in W the value v' has come: its block is v's, or new. -/
def NewOr (W : World) (v v' : Value) : Prop := ∀ k, v'.ownBlock = some k → v.ownBlock = some k ∨ W.heap.size ≤ k
theorem NewOr.refl (W : World) (v : Value) : NewOr W v v := fun _ h => .inl h
theorem NewOr.trans {W W' : World} {a b c : Value} (h : NewOr W a b) (k : NewOr W' b c) (hs : W.heap.size ≤ W'.heap.size) : NewOr W a c := fun j hj => (k j hj).elim (h j) (fun hl => .inr (Nat.le_trans hs hl))
theorem NewOr.nil (W : World) (v : Value) (n c : Nat) : NewOr W v (.slice none n c) := fun k h => by cases h
/-- What a Maker's call may turn. -/
def MC (B : Nat) (fv rv : Value) (k : Nat) : Prop := k = B ∨ fv.ownBlock = some k ∨ rv.ownBlock = some k
/-- A Maker at B has gone from (fv, rv) in W to m', (fv', rv') in W'. -/
structure MGo (B : Nat) (fv rv : Value) (W : World) (m' : MS) (fv' rv' : Value) (W' : World) : Prop where
  it : MkAt B m' fv' rv' W'
  acts : Acts (MC B fv rv) W W'
  fnew : NewOr W fv fv'
  rnew : NewOr W rv rv'
theorem MGo.refl {B : Nat} {m : MS} {fv rv : Value} {W : World} (h : MkAt B m fv rv W) : MGo B fv rv W m fv rv W := ⟨h, Acts.refl _ _, NewOr.refl _ _, NewOr.refl _ _⟩
theorem MGo.trans {B : Nat} {m m2 : MS} {fv rv fv1 rv1 fv2 rv2 : Value} {W W1 W2 : World} (h : MGo B fv rv W m fv1 rv1 W1) (k : MGo B fv1 rv1 W1 m2 fv2 rv2 W2) : MGo B fv rv W m2 fv2 rv2 W2 :=
  ⟨k.it, h.acts.trans k.acts (fun j hj => by
    rcases hj with rfl | hj | hj
    · exact .inl (.inl rfl)
    · exact (h.fnew j hj).elim (fun e => .inl (.inr (.inl e))) .inr
    · exact (h.rnew j hj).elim (fun e => .inl (.inr (.inr e))) .inr), h.fnew.trans k.fnew h.acts.size, h.rnew.trans k.rnew h.acts.size⟩
/-- Rows of things of two kinds lie apart. -/
theorem rows_apart {W : World} {base base' e e' s s' n n' : Nat} {v v' : Value} {xs xs' : List Value} (h : W.ownsRow base e s v n xs) (h' : W.ownsRow base' e' s' v' n' xs') (hne : e ≠ e') (k : Nat) (hk : v.ownBlock = some k) : v'.ownBlock ≠ some k := by
  rcases h.2 with ⟨rfl, _⟩ | ⟨g, cap, cur, rfl, _, h2, _⟩
  · cases hk
  · obtain rfl := Option.some.inj hk
    exact row_ne h' h2 (fun e => hne e.symm)
theorem row_lt {W : World} {base e s n : Nat} {v : Value} {xs : List Value} (h : W.ownsRow base e s v n xs) (k : Nat) (hk : v.ownBlock = some k) : k < W.heap.size := (h.lt k hk).2
theorem MkAt.apart {B : Nat} {m : MS} {fv rv : Value} {W : World} (h : MkAt B m fv rv W) (k : Nat) (hk : fv.ownBlock = some k) : rv.ownBlock ≠ some k := rows_apart h.frow h.rrow (by decide) k hk
theorem grown_row {W W' : World} {base e s n : Nat} {row : Option Nat} {v : Value} {xs : List Value} (hg : W.grownBy W' row) (h : W.ownsRow base e s v n xs) (hr : ∀ k, v.ownBlock = some k → row ≠ some k) : W'.ownsRow base e s v n xs :=
  owns_keep h (fun k hk => hg.block k (row_lt h k hk) (fun e => hr k hk e.symm))
/-- What append tells of the block. -/
theorem at_new {W : World} {o : Obj} {v v' : Value} (h : v'.ownBlock = v.ownBlock ∨ v'.ownBlock = some (W.alloc o).heap.size) : NewOr W v v' := fun k hk => by
  rcases h with h | h
  · exact .inl (h ▸ hk)
  · rw [h] at hk; obtain rfl := Option.some.inj hk; exact .inr (by simp)
theorem MkAt.acts {B : Nat} {m : MS} {fv rv : Value} {C : Nat → Prop} {W W' : World} (h : MkAt B m fv rv W) (ha : Acts C W W') (hc : ∀ k, MC B fv rv k → ¬ C k) : MkAt B m fv rv W' :=
  h.keep (fun k hk => ha.same k (by rcases hk with rfl | hk | hk
                                    · exact h.lt
                                    · exact row_lt h.frow k hk
                                    · exact row_lt h.rrow k hk) (hc k hk))
/-- A thing of it is grown in a step of append; what lies elsewhere is kept. -/
theorem grown_acts {W W2 : World} {o : Obj} {v : Value} (hg : (W.alloc o).grownBy W2 v.ownBlock) : Acts (fun k => v.ownBlock = some k) W W2 :=
  (Acts.alloc _ W o).trans (Acts.grown (C := fun k => v.ownBlock = some k) hg (fun r hr => hr)) (fun _ h => .inl h)
/-- The field has grown, and it is written back. -/
theorem MkAt.push_field {B : Nat} {m : MS} {fv rv fv' : Value} {W W2 : World} {o : Obj} (h : MkAt B m fv rv W) (b : Int) (hown : W2.ownsRow 0 5 1 fv' (m.field.length + 1) (m.field.map (Value.int .u8) ++ [.int .u8 b])) (hg : (W.alloc o).grownBy W2 fv.ownBlock)
    (hat : fv'.ownBlock = fv.ownBlock ∨ fv'.ownBlock = some (W.alloc o).heap.size) : MGo B fv rv W { m with field := m.field ++ [b] } fv' rv (W2.setCell ⟨B, 4, none⟩ fv') := by
  have hA := grown_acts hg
  have hobj : W2.heap[B]? = _ := (hA.same B h.lt h.ne.1).trans h.obj
  have hr : W2.ownsRow 0 9 1 rv m.record.length (m.record.map Value.string) := owns_keep h.rrow (fun k hk => hA.same k (row_lt h.rrow k hk) (fun e => h.apart k e hk))
  have n1 : fv'.ownBlock ≠ some B := row_ne hown hobj (by decide)
  refine ⟨⟨?_, ?_, ?_⟩, (hA.weaken (fun k _ e => .inr (.inl e))).trans (acts_set (B := B) _ 4 fv') (fun j hj => .inl (.inl hj)), at_new hat, NewOr.refl _ _⟩
  · rw [blk_set hobj]; rfl
  · have : W2.ownsRow 0 5 1 fv' (m.field ++ [b]).length ((m.field ++ [b]).map (Value.int .u8)) := by simpa using hown
    exact owns_keep this (fun k e => Below.heap_setCell W2 _ _ k (fun e' => n1 (by rw [e]; exact congrArg some e')))
  · exact owns_keep hr (fun k e => Below.heap_setCell W2 _ _ k (fun e' => h.ne.2 (by rw [e]; exact congrArg some e')))
/-- The record has grown, and it is written back. -/
theorem MkAt.push_record {B : Nat} {m : MS} {fv rv rv' : Value} {W W2 : World} {o : Obj} (h : MkAt B m fv rv W) (b : ByteArray) (hown : W2.ownsRow 0 9 1 rv' (m.record.length + 1) (m.record.map Value.string ++ [.string b])) (hg : (W.alloc o).grownBy W2 rv.ownBlock)
    (hat : rv'.ownBlock = rv.ownBlock ∨ rv'.ownBlock = some (W.alloc o).heap.size) : MGo B fv rv W { m with record := m.record ++ [b] } fv rv' (W2.setCell ⟨B, 5, none⟩ rv') := by
  have hA := grown_acts hg
  have hobj : W2.heap[B]? = _ := (hA.same B h.lt h.ne.2).trans h.obj
  have hr : W2.ownsRow 0 5 1 fv m.field.length (m.field.map (Value.int .u8)) := owns_keep h.frow (fun k hk => hA.same k (row_lt h.frow k hk) (fun e => h.apart k hk e))
  have n1 : rv'.ownBlock ≠ some B := row_ne hown hobj (by decide)
  refine ⟨⟨?_, ?_, ?_⟩, (hA.weaken (fun k _ e => .inr (.inr e))).trans (acts_set (B := B) _ 5 rv') (fun j hj => .inl (.inl hj)), NewOr.refl _ _, at_new hat⟩
  · rw [blk_set hobj]; rfl
  · exact owns_keep hr (fun k e => Below.heap_setCell W2 _ _ k (fun e' => h.ne.1 (by rw [e]; exact congrArg some e')))
  · have : W2.ownsRow 0 9 1 rv' (m.record ++ [b]).length ((m.record ++ [b]).map Value.string) := by simpa using hown
    exact owns_keep this (fun k e => Below.heap_setCell W2 _ _ k (fun e' => n1 (by rw [e]; exact congrArg some e')))
theorem MGo.drewn {B n : Nat} {m' : MS} {fv rv fv' rv' : Value} {W W' : World} (h : MGo B fv rv (W.drewN n) m' fv' rv' W') : MGo B fv rv W m' fv' rv' W' := ⟨h.it, (Acts.drewN _ W n).trans h.acts (fun _ h => .inl h), h.fnew, h.rnew⟩
/-- A Maker's call comes to what f says. -/
def MTo (B : Nat) (fv rv : Value) (W : World) (m' : MS) (r : Value) (e : Ending) (w' : World) : Prop := e = .returned r ∧ ∃ fv' rv', MGo B fv rv W m' fv' rv' w'
theorem elem5 : (Tryd.prog.info? 5).map (fun i => (i.zero, i.size, i.bytes)) = some (some (.int .u8 0), 1, 1) := by kernel_rfl
theorem elem9 : (Tryd.prog.info? 9).map (fun i => (i.zero, i.size, i.bytes)) = some (some (.string ByteArray.empty), 1, 16) := by kernel_rfl

def addM (m : MS) (b : Int) : MS × Int := if (m.field.length : Int) ≥ m.F then (m, 7) else ({ m with field := m.field ++ [b] }, 0)
theorem slice_len {W : World} {base e s n : Nat} {v : Value} {xs : List Value} (h : W.ownsRow base e s v n xs) : ∃ a c, v = .slice a n c := by
  rcases h.2 with ⟨rfl, h0⟩ | ⟨g, cap, cur, rfl, _⟩
  · subst h0; exact ⟨_, _, rfl⟩
  · exact ⟨_, _, rfl⟩
set_option maxRecDepth 100000 in
set_option maxHeartbeats 2000000 in
theorem add_calls (B : Nat) (m : MS) (b : Int) (fv rv : Value) (W : World) (h : MkAt B m fv rv W) (hF : m.F ≤ 2147483648) :
    Calls Tryd.prog 59 #[.pointer (some ⟨B, 0, none⟩), .int .u8 b] W (MTo B fv rv W (addM m b).1 (.int .i64 (addM m b).2)) := by
  have c0 := (blk_cell h.obj 0).trans rfl
  have c4 := (blk_cell h.obj 4).trans rfl
  have f4 := blk_frozen h.obj 4
  have hrow := h.frow
  obtain ⟨fa, fc, rfl⟩ := slice_len h.frow
  simp only [MS.cells] at c0 c4
  obtain ⟨i0, hi, hz0, hz1, hz2⟩ := info_parts elem5
  by_cases hc : (m.field.length : Int) ≥ m.F
  · have e : addM m b = (m, 7) := if_pos hc
    rw [e]
    go_enter Tryd.func59, Tryd.ntmps59
    go_wp2
    go_quiet (fail)
    go_wp2
    go_ret
    exact ⟨rfl, _, _, (h.keep (fun _ _ => rfl)), Acts.drewN _ _ _, NewOr.refl _ _, NewOr.refl _ _⟩
  · have e : addM m b = ({ m with field := m.field ++ [b] }, 0) := if_neg hc
    rw [e]
    go_enter Tryd.func59, Tryd.ntmps59
    go_wp2
    go_quiet (fail)
    go_wp2_with (at_builtin; refine wpList_append_own_at _ rfl _ _ 37 rfl 0 5 i0 (.int .u8 0) 1 1 Tryd.underlying37 hi hz0 hz1 hz2 rfl (by decide) _ m.field.length _ rfl (World.ownsRow.alloc (owns_keep (W' := W.drewN nq) hrow (fun _ _ => rfl)) _) ⟨W.heap.size, 0, none⟩ 1 1 [.int .u8 b] rfl rfl (cell_one_new (W.drewN nq) _ _) (by simp [Value.oneCell']) (by simp [maxLen]; omega) (by omega) (by simp) ?_; intro v' w1 hown hgrow hnil hat; obtain ⟨g, cap, rfl⟩ := ownsRow_succ hown; have hB1 := ((grown_acts hgrow).same B h.lt h.ne.1).trans h.obj; have c1 := (blk_cell hB1 4).trans rfl; have f1 := blk_frozen hB1 4; simp only [MS.cells] at c1)
    go_ret
    exact ⟨rfl, _, _, MGo.drewn ((h.keep (W' := W.drewN nq) (fun _ _ => rfl)).push_field b hown hgrow hat)⟩

/-- The field is empty again, its room is kept. -/
theorem MkAt.reslice {B : Nat} {m : MS} {fv rv fv' : Value} {W : World} (h : MkAt B m fv rv W) (hr : W.ownsRow 0 5 1 fv' 0 []) (hb : fv'.ownBlock = fv.ownBlock) : MGo B fv rv W { m with field := [] } fv' rv (W.setCell ⟨B, 4, none⟩ fv') := by
  have n1 : fv'.ownBlock ≠ some B := row_ne hr h.obj (by decide)
  refine ⟨⟨?_, ?_, ?_⟩, (acts_set (B := B) _ 4 fv').weaken (fun k _ e => .inl e), fun k hk => .inl (hb ▸ hk), NewOr.refl _ _⟩
  · rw [blk_set h.obj]; rfl
  · exact owns_keep hr (fun k e => Below.heap_setCell W _ _ k (fun e' => n1 (by rw [e]; exact congrArg some e')))
  · exact owns_keep h.rrow (fun k e => Below.heap_setCell W _ _ k (fun e' => h.ne.2 (by rw [e]; exact congrArg some e')))
theorem row_cut {W : World} {n : Nat} {a : Option Addr} {c : Nat} {xs : List Value} (h : W.ownsRow 0 5 1 (.slice a n c) n xs) : W.ownsRow 0 5 1 (.slice a 0 c) 0 [] := by
  rcases h.2 with ⟨e, h0⟩ | ⟨g, cap, cur, e, h1, h2, h3, h4, h5, h6⟩
  · cases e; exact World.ownsRow_nil _ _ _ _
  · cases e; exact ⟨rfl, .inr ⟨g, c, cur, rfl, h1, h2, Nat.zero_le _, h4, h5, rfl⟩⟩

theorem run_op_append {P : Program} {w w1 : World} {oi : Oper} {a : Act} {s x : Operand} {t : TypeId} {v : Value} (ho : oi.op = .call { callee := .builtin .append, args := #[s, x], argTypes := #[t, t] }) (hr : (Builtin.append_ #[t, t] oi.type #[a.eval s, a.eval x]).run P w = .ok v w1) : (execOp a.eval oi).run P w = .ok (.value v) w1 := by
  unfold execOp
  simp only [ho, resolve, invoke, builtin, Sem.run_bind, Sem.run_pure, Result.andThen_ok, List.map_toArray, List.map_cons, List.map_nil, hr]

theorem conv_bytes (W : World) (n : Nat) (xs : List Int) (v : Value) (h : W.ownsRow 0 5 1 v n (xs.map (Value.int .u8))) : (convert 37 9 v).run Tryd.prog W = .ok (.string (strOfNums xs)) W := by
  rcases h.2 with ⟨rfl, h0⟩ | ⟨g, cap, cur, rfl, h1, h2, h3, h4, h5, h6⟩
  · subst h0
    have hl : xs = [] := by have := h.1; simpa using this
    subst hl
    exact (run_convert_bytes_nil W 37 5 Tryd.underlying37 (by kernel_rfl) 0 0 9 (by kernel_rfl)).trans (by rfl)
  · have hl : xs.length = n := by have := h.1; simpa using this
    refine run_convert_bytes_arg W 37 5 Tryd.underlying37 (by kernel_rfl) g 0 n cap xs hl (fun i hi => ?_) 9 (by kernel_rfl)
    have h7 : cur.toList.take (n * 1) = xs.map (Value.int .u8) := by simpa using h6
    rw [Nat.zero_add, blk_cell h2 i, ← Array.getElem?_toList, ← List.getElem?_take_of_lt (i := i) (j := n * 1) (by omega), h7]
    rw [List.getElem?_map, List.getD_eq_getElem?_getD, List.getElem?_eq_getElem (by omega)]
    rfl
structure SPut (B : Nat) (m : MS) (fv rv : Value) (W : World) : Prop where
  obj : W.heap[B]? = some (.cells (m.cells fv rv) 96 (0, 0))
  frow : W.ownsRow 0 5 1 fv m.field.length (m.field.map (Value.int .u8))
theorem slice_cap {W : World} {base e s n : Nat} {v : Value} {xs : List Value} (h : W.ownsRow base e s v n xs) : ∃ a c, v = .slice a n c ∧ n ≤ c := by
  rcases h.2 with ⟨rfl, h0⟩ | ⟨g, cap, cur, rfl, _, _, h3, _⟩
  · subst h0; exact ⟨_, _, rfl, Nat.le_refl _⟩
  · exact ⟨_, _, rfl, h3⟩
def putM (m : MS) : MS := { m with record := m.record ++ [strOfNums m.field], field := [] }
set_option maxRecDepth 100000 in
set_option maxHeartbeats 2000000 in
theorem put_calls (B : Nat) (m : MS) (fv rv : Value) (W : World) (h : MkAt B m fv rv W) (hn : m.record.length ≤ 2147483648) :
    Calls Tryd.prog 66 #[.pointer (some ⟨B, 0, none⟩)] W (MTo B fv rv W (putM m) (.tuple #[])) := by
  obtain ⟨i0, hi, hz0, hz1, hz2⟩ := info_parts elem9
  obtain ⟨ra, rc, rfl⟩ := slice_len h.rrow
  obtain ⟨fa, fc, hfv, hfc⟩ := slice_cap h.frow
  have hcut : ∀ w', (Instr.slice 37 fv none (some (.int .i64 0)) none).run Tryd.prog w' = .ok (.slice fa 0 fc) w' := by
    obtain ⟨j0, hj, hj0, hj1, hj2⟩ := info_parts elem5
    rw [hfv]
    exact (print_take_of (P := Tryd.prog) (Value.int .u8) 0 37 5 .i64 Tryd.underlying37 hj hj1 fa fc m.field 0 (by omega) (by omega) hfc).1
  have hrs : ∀ w' : World, w'.ownsRow 0 5 1 fv m.field.length (m.field.map (Value.int .u8)) → w'.ownsRow 0 5 1 (.slice fa 0 fc) 0 [] := fun w' h' => row_cut (hfv ▸ h')
  have hrb : (Value.slice fa 0 fc).ownBlock = fv.ownBlock := by rw [hfv]; cases fa <;> rfl
  clear hfv hfc
  have hconv : ∀ w', SPut B m fv (.slice ra m.record.length rc) w' → (convert 37 9 fv).run Tryd.prog w' = .ok (.string (strOfNums m.field)) w' := fun w' h' => conv_bytes w' _ _ _ h'.frow
  go_enter Tryd.func66, Tryd.ntmps66
  go_wp2
  refine start_ (n := 15) (S := fun w' => SPut B m fv (.slice ra m.record.length rc) w') (ds := [14]) #[false, false, false, false, false, false, false, false, false, false, false, false, false, false, false] (by kernel_rfl) rfl rfl (⟨h.obj, owns_keep h.frow (fun _ _ => rfl)⟩) (fun hHeld => ?_)
  refine pure_ (i := 0) (N := some 2) (v := ?_) (a' := ?_) #[true, false, false, false, false, false, false, false, false, false, false, false, false, false, false] rfl rfl (by kernel_rfl) (fun _ _ _ h => h) (Or.inl ⟨by rfl, ?_⟩) ?_ ?_
  rotate_left
  · intro w'
    go_simp
    with_reducible rfl
  rotate_left
  · simp only [Act.put, List.setIfInBounds_toArray, List.set_cons_zero, List.set_cons_succ]
    rfl
  refine pure_ (i := 1) (N := some 3) (v := ?_) (a' := ?_) #[true, true, false, false, false, false, false, false, false, false, false, false, false, false, false] rfl rfl (by kernel_rfl) (fun _ _ _ h => h) (Or.inl ⟨by rfl, ?_⟩) ?_ ?_
  rotate_left
  · intro w'
    go_simp
    with_reducible rfl
  rotate_left
  · simp only [Act.put, List.setIfInBounds_toArray, List.set_cons_zero, List.set_cons_succ]
    rfl
  refine pure_ (i := 2) (N := some 4) (v := ?_) (a' := ?_) #[true, true, true, false, false, false, false, false, false, false, false, false, false, false, false] rfl rfl (by kernel_rfl) (fun _ _ _ h => h) (Or.inl ⟨by rfl, ?_⟩) ?_ ?_
  rotate_left
  · intro w'
    go_simp
    with_reducible rfl
  rotate_left
  · simp only [Act.put, List.setIfInBounds_toArray, List.set_cons_zero, List.set_cons_succ]
    rfl
  refine pure_ (i := 3) (N := some 5) (v := ?_) (a' := ?_) #[true, true, true, true, false, false, false, false, false, false, false, false, false, false, false] rfl rfl (by kernel_rfl) (fun _ _ _ h => h) (Or.inl ⟨by rfl, ?_⟩) ?_ ?_
  rotate_left
  · intro w'
    go_simp
    with_reducible rfl
  rotate_left
  · simp only [Act.put, List.setIfInBounds_toArray, List.set_cons_zero, List.set_cons_succ]
    rfl
  refine take_ (i := 4) (N := some 6) (v := ?_) (a' := ?_) #[true, true, true, true, true, false, false, false, false, false, false, false, false, false, false] rfl rfl (by kernel_rfl) (fun _ _ _ h => h) (Or.inl ⟨by rfl, ?_⟩) hHeld ?_ ?_
  rotate_left
  · intro w' s0
    have c := (blk_cell s0.obj 5).trans rfl
    simp only [MS.cells] at c
    go_simp
    with_reducible rfl
  rotate_left
  · simp only [Act.put, List.setIfInBounds_toArray, List.set_cons_zero, List.set_cons_succ]
    rfl
  refine pure_ (i := 5) (N := some 7) (v := ?_) (a' := ?_) #[true, true, true, true, true, true, false, false, false, false, false, false, false, false, false] rfl rfl (by kernel_rfl) (fun _ _ _ h => h) (Or.inl ⟨by rfl, ?_⟩) ?_ ?_
  rotate_left
  · intro w'
    go_simp
    with_reducible rfl
  rotate_left
  · simp only [Act.put, List.setIfInBounds_toArray, List.set_cons_zero, List.set_cons_succ]
    rfl
  refine pure_ (i := 6) (N := some 8) (v := ?_) (a' := ?_) #[true, true, true, true, true, true, true, false, false, false, false, false, false, false, false] rfl rfl (by kernel_rfl) (fun _ _ _ h => h) (Or.inl ⟨by rfl, ?_⟩) ?_ ?_
  rotate_left
  · intro w'
    go_simp
    with_reducible rfl
  rotate_left
  · simp only [Act.put, List.setIfInBounds_toArray, List.set_cons_zero, List.set_cons_succ]
    rfl
  refine pure_ (i := 7) (N := some 9) (v := ?_) (a' := ?_) #[true, true, true, true, true, true, true, true, false, false, false, false, false, false, false] rfl rfl (by kernel_rfl) (fun _ _ _ h => h) (Or.inl ⟨by rfl, ?_⟩) ?_ ?_
  rotate_left
  · intro w'
    go_simp
    with_reducible rfl
  rotate_left
  · simp only [Act.put, List.setIfInBounds_toArray, List.set_cons_zero, List.set_cons_succ]
    rfl
  refine take_ (i := 8) (N := some 10) (v := ?_) (a' := ?_) #[true, true, true, true, true, true, true, true, true, false, false, false, false, false, false] rfl rfl (by kernel_rfl) (fun _ _ _ h => h) (Or.inl ⟨by rfl, ?_⟩) hHeld ?_ ?_
  rotate_left
  · intro w' s0
    have c := (blk_cell s0.obj 4).trans rfl
    simp only [MS.cells] at c
    go_simp
    with_reducible rfl
  rotate_left
  · simp only [Act.put, List.setIfInBounds_toArray, List.set_cons_zero, List.set_cons_succ]
    rfl
  refine take_ (i := 9) (N := some 11) (v := ?_) (a' := ?_) #[true, true, true, true, true, true, true, true, true, true, false, false, false, false, false] rfl rfl (by kernel_rfl) (fun _ _ _ h => h) (Or.inl ⟨by rfl, ?_⟩) hHeld ?_ ?_
  rotate_left
  · intro w' s0
    have hv := hconv _ s0
    go_simp
    with_reducible rfl
  rotate_left
  · simp only [Act.put, List.setIfInBounds_toArray, List.set_cons_zero, List.set_cons_succ]
    rfl
  refine one_ (i := 10) (N := some 12) #[true, true, true, true, true, true, true, true, true, true, true, false, false, false, false] rfl rfl (by kernel_rfl) (by decide) (fun K hK => ?_)
  refine value_ (w1 := ?_) (v := ?_) (by rfl) rfl ?_ ?_
  rotate_left 2
  · go_simp
    constructor
    · rfl
    · rfl
  refine hK.out _ _ ⟨(((Acts.alloc (fun _ => False) _ _).same B h.lt (fun h => h)).trans h.obj), World.ownsRow.alloc hHeld.frow _⟩ (fun hHeld => ?_)
  clear hK K
  refine norm_ (a' := ?_) ?_ ?_
  rotate_left
  · show Act.put _ (some 12) _ = _
    simp only [Act.put, List.setIfInBounds_toArray, List.set_cons_zero, List.set_cons_succ]
    rfl
  obtain ⟨v1, w1, hr, hown, hgrow, _, hat⟩ := run_append_own_at (P := Tryd.prog) (W.drew.alloc (.cells #[.string (strOfNums m.field)] 9)) 0 61 61 9 i0 (.string ByteArray.empty) 1 16 Tryd.underlying61 hi hz0 hz1 hz2 rfl (by decide) _ m.record.length _ (World.ownsRow.alloc (owns_keep (W' := W.drew) h.rrow (fun _ _ => rfl)) _) ⟨W.heap.size, 0, none⟩ 1 1 [.string (strOfNums m.field)] rfl (cell_one_new W.drew _ _) (by simp [Value.oneCell']) (by simp [maxLen]; omega) (by omega) (by simp)
  obtain ⟨g, cap, rfl⟩ := ownsRow_succ hown
  have hP := MkAt.push_record (m := m) (h.keep (W' := W.drew) (fun _ _ => rfl)) _ hown hgrow hat
  have hA := grown_acts hgrow
  refine one_ (i := 11) (N := some 13) #[true, true, true, true, true, true, true, true, true, true, true, true, false, false, false] rfl rfl (by kernel_rfl) (by decide) (fun K hK => ?_)
  refine value_ (w1 := w1) (v := .slice (some ⟨g, 0, none⟩) (m.record.length + 1) cap) (by rfl) rfl ?_ ?_
  · exact run_op_append rfl hr
  refine hK.out _ _ ⟨(hA.same B h.lt h.ne.2).trans h.obj, owns_keep h.frow (fun k hk => hA.same k (row_lt h.frow k hk) (fun e => h.apart k hk e))⟩ (fun hHeld => ?_)
  clear hK K
  refine norm_ (a' := ?_) ?_ ?_
  rotate_left
  · show Act.put _ (some 13) _ = _
    simp only [Act.put, List.setIfInBounds_toArray, List.set_cons_zero, List.set_cons_succ]
    rfl
  refine pure_ (i := 12) (N := some 14) (v := ?_) (a' := ?_) #[true, true, true, true, true, true, true, true, true, true, true, true, true, false, false] rfl rfl (by kernel_rfl) (fun _ _ _ h => h) (Or.inl ⟨by rfl, ?_⟩) ?_ ?_
  rotate_left
  · intro w'
    go_simp
    with_reducible rfl
  rotate_left
  · simp only [Act.put, List.setIfInBounds_toArray, List.set_cons_zero, List.set_cons_succ]
    rfl
  refine pure_ (i := 13) (N := some 15) (v := ?_) (a' := ?_) #[true, true, true, true, true, true, true, true, true, true, true, true, true, true, false] rfl rfl (by kernel_rfl) (fun _ _ _ h => h) (Or.inl ⟨by rfl, ?_⟩) ?_ ?_
  rotate_left
  · intro w'
    go_simp
    with_reducible rfl
  rotate_left
  · simp only [Act.put, List.setIfInBounds_toArray, List.set_cons_zero, List.set_cons_succ]
    rfl
  have hB1 := (hA.same B h.lt h.ne.2).trans h.obj
  have f1 := blk_frozen hB1 5
  have c1 := (blk_cell hB1 5).trans rfl
  simp only [MS.cells] at c1
  refine last_ (i := 14) (N := none) #[true, true, true, true, true, true, true, true, true, true, true, true, true, true, true] rfl rfl (by kernel_rfl) (by decide) (fun K hK => ?_)
  refine skip_ (w1 := w1.setCell ⟨B, 5, none⟩ (.slice (some ⟨g, 0, none⟩) (m.record.length + 1) cap)) (by rfl) rfl ?_ ?_
  · go_simp
  refine hK.out _ _ ?_
  clear hK K
  refine done_ (by kernel_rfl) ?_
  clear hHeld
  have hM := hP.it
  have c2 := (blk_cell hM.obj 4).trans rfl
  have f2 := blk_frozen hM.obj 4
  simp only [MS.cells] at c2
  go_wp2
  refine bodyPost_end (results_none (fn := Tryd.f66) rfl _ _ _) rfl ?_
  exact ⟨rfl, _, _, MGo.trans (MGo.drewn (n := 1) hP) (MkAt.reslice hM (hrs _ hM.frow) hrb)⟩
end Go.Proofs.YtmignbhpofmgeaaDoor.Top
