/- What the proof of quillpentop.TopOther rests on: the kit's words as print.sh lays them for this seat, the functions' contracts, the plain laws (part 2 of 9, put together by wip/tools/shake.py). -/
import Derived.Test.YtmignbhpofmgeaaDoorS0
import Derived.RangeFuncNested
import Derived.RangeFuncBound
import Derived.RangeFuncCalls
import Derived.RangeFuncLeaves
import Derived.Test.YtmignbhpofmgeaaDoorProg
import Derived.RangeFuncBox
import Derived.Test.YtmignbhpofmgeaaDoorRows
import Derived.OpenShut
import Derived.Deep.DeepHandedRow
import Derived.Lib.LaidTab
import Derived.ProofKit
import Derived.LaidMore
namespace Go.Proofs.YtmignbhpofmgeaaDoor.Iter
open Go.RowKit
/-- From W to W' nothing has turned but the blocks of C, and new ones. -/
structure Acts (C : Nat → Prop) (W W' : World) : Prop where
  os : W'.os = W.os
  tape : W'.tape = W.tape
  output : W'.output = W.output
  size : W.heap.size ≤ W'.heap.size
  same : ∀ k, k < W.heap.size → ¬ C k → W'.heap[k]? = W.heap[k]?
theorem Acts.refl (C : Nat → Prop) (W : World) : Acts C W W := ⟨rfl, rfl, rfl, Nat.le_refl _, fun _ _ _ => rfl⟩
theorem Acts.weaken {C C' : Nat → Prop} {W W' : World} (h : Acts C W W') (hc : ∀ k, k < W.heap.size → C k → C' k) : Acts C' W W' :=
  ⟨h.os, h.tape, h.output, h.size, fun k hk hn => h.same k hk (fun hC => hn (hc k hk hC))⟩
/-- Two stretches: what the second one turns lay in C, or is newer than the first one's begin. -/
theorem Acts.trans {C C' : Nat → Prop} {A B D : World} (h : Acts C A B) (k : Acts C' B D) (hc : ∀ j, C' j → C j ∨ A.heap.size ≤ j) : Acts C A D :=
  ⟨k.os.trans h.os, k.tape.trans h.tape, k.output.trans h.output, Nat.le_trans h.size k.size, fun j hj hn =>
    (k.same j (Nat.lt_of_lt_of_le hj h.size) (fun hC => (hc j hC).elim hn (fun hle => by omega))).trans (h.same j hj hn)⟩
theorem Acts.of_below {C : Nat → Prop} {W W' : World} (h : Below W.heap.size W W') : Acts C W W' := ⟨h.os, h.tape, h.output, h.size, fun k hk _ => h.block k hk⟩
theorem Acts.below {C : Nat → Prop} {n : Nat} {W W' : World} (h : Acts C W W') (hn : n ≤ W.heap.size) (hc : ∀ k, k < n → ¬ C k) : Below n W W' := ⟨h.os, h.tape, h.output, h.size, fun k hk => h.same k (by omega) (hc k hk)⟩
theorem Acts.alloc (C : Nat → Prop) (W : World) (o : Obj) : Acts C W (W.alloc o) := Acts.of_below ((Below.refl _ W).alloc (Nat.le_refl _) o)
theorem Acts.setCell {C : Nat → Prop} (W : World) (g i : Nat) (v : Value) (hg : C g) : Acts C W (W.setCell ⟨g, i, none⟩ v) :=
  ⟨rfl, rfl, rfl, by simp [World.setCell], fun k _ hn => Below.heap_setCell W _ v k (fun e => hn (by rw [e]; exact hg))⟩
theorem Acts.drew (C : Nat → Prop) (W : World) : Acts C W W.drew := ⟨rfl, rfl, rfl, Nat.le_refl _, fun _ _ _ => rfl⟩
theorem Acts.drewN (C : Nat → Prop) (W : World) (n : Nat) : Acts C W (W.drewN n) := ⟨rfl, rfl, rfl, Nat.le_refl _, fun _ _ _ => rfl⟩
theorem Acts.grown {C : Nat → Prop} {W W' : World} {row : Option Nat} (hg : W.grownBy W' row) (hr : ∀ r, row = some r → C r) : Acts C W W' :=
  ⟨hg.os, hg.tape, hg.output, hg.size, fun k hk hn => hg.block k hk (fun e => hn (hr k e.symm))⟩
end Go.Proofs.YtmignbhpofmgeaaDoor.Iter
namespace Go.Proofs.YtmignbhpofmgeaaDoor.Top
open Go.RowKit Go.Proofs.YtmignbhpofmgeaaDoorW.PrintWords Go.Proofs.YtmignbhpofmgeaaDoorW.PrintLast Go.Proofs.YtmignbhpofmgeaaDoorW.PrintMore Go.Proofs.YtmignbhpofmgeaaDoor.Iter
set_option linter.unusedVariables false
set_option linter.unusedSimpArgs false
/-- What a Maker holds. -/
structure MS where
  F : Int
  Fs : Int
  R : Int
  U : Bool
  field : List Int
  record : List ByteArray
  begun : Int
  count : Int
  width : Int
  stopped : Int
def MS.cells (m : MS) (fv rv : Value) : Array Value := #[.int .i64 m.F, .int .i64 m.Fs, .int .i64 m.R, .bool m.U, fv, rv, .int .i64 m.begun, .int .i64 m.count, .int .i64 m.width, .int .i64 m.stopped]
/-- A Maker lies in block B. -/
structure MkAt (B : Nat) (m : MS) (fv rv : Value) (W : World) : Prop where
  obj : W.heap[B]? = some (.cells (m.cells fv rv) 96 (0, 0))
  frow : W.ownsRow 0 5 1 fv m.field.length (m.field.map (Value.int .u8))
  rrow : W.ownsRow 0 9 1 rv m.record.length (m.record.map Value.string)
theorem MkAt.lt {B : Nat} {m : MS} {fv rv : Value} {W : World} (h : MkAt B m fv rv W) : B < W.heap.size := (Array.getElem?_eq_some_iff.1 h.obj).1
theorem owns_keep {W W' : World} {base e size n : Nat} {v : Value} {xs : List Value} (h : W.ownsRow base e size v n xs) (hk : ∀ k, v.ownBlock = some k → W'.heap[k]? = W.heap[k]?) : W'.ownsRow base e size v n xs := by
  refine ⟨h.1, h.2.imp id ?_⟩
  rintro ⟨g, cap, cur, rfl, h1, h2, h3⟩
  exact ⟨g, cap, cur, rfl, h1, (hk g rfl).trans h2, h3⟩
/-- A row's block holds its own kind of things. -/
theorem row_ne {W : World} {base B t : Nat} {cs : Array Value} {e size n : Nat} {v : Value} {xs : List Value} (h : W.ownsRow base e size v n xs) (hB : W.heap[B]? = some (.cells cs t (0, 0))) (hne : e ≠ t) : v.ownBlock ≠ some B := fun hk => by
  rcases h.2 with ⟨rfl, _⟩ | ⟨g, cap, cur, rfl, _, h2, _⟩
  · cases hk
  · obtain rfl := Option.some.inj hk
    rw [h2] at hB
    cases hB
    exact hne rfl
theorem MkAt.keep {B : Nat} {m : MS} {fv rv : Value} {W W' : World} (h : MkAt B m fv rv W) (hk : ∀ k, (k = B ∨ fv.ownBlock = some k ∨ rv.ownBlock = some k) → W'.heap[k]? = W.heap[k]?) : MkAt B m fv rv W' :=
  ⟨(hk B (.inl rfl)).trans h.obj, owns_keep h.frow (fun k e => hk k (.inr (.inl e))), owns_keep h.rrow (fun k e => hk k (.inr (.inr e)))⟩
theorem MkAt.ne {B : Nat} {m : MS} {fv rv : Value} {W : World} (h : MkAt B m fv rv W) : fv.ownBlock ≠ some B ∧ rv.ownBlock ≠ some B := ⟨row_ne h.frow h.obj (by decide), row_ne h.rrow h.obj (by decide)⟩
theorem blk_set {W : World} {B t : Nat} {cs : Array Value} (h : W.heap[B]? = some (.cells cs t (0, 0))) (j : Nat) (v : Value) : (W.setCell ⟨B, j, none⟩ v).heap[B]? = some (.cells (cs.setIfInBounds j v) t (0, 0)) := by
  simp [World.setCell, Array.getElem?_modify, h]
/-- A number of it is written. -/
theorem MkAt.set {B : Nat} {m m' : MS} {fv rv : Value} {W : World} (h : MkAt B m fv rv W) (j : Nat) (v : Value) (hc : (m.cells fv rv).setIfInBounds j v = m'.cells fv rv) (hf : m'.field = m.field) (hr : m'.record = m.record) : MkAt B m' fv rv (W.setCell ⟨B, j, none⟩ v) := by
  obtain ⟨n1, n2⟩ := h.ne
  refine ⟨by rw [blk_set h.obj, hc], ?_, ?_⟩
  · rw [hf]; exact owns_keep h.frow (fun k e => Below.heap_setCell W _ _ k (fun e' => n1 (by rw [e]; exact congrArg some e')))
  · rw [hr]; exact owns_keep h.rrow (fun k e => Below.heap_setCell W _ _ k (fun e' => n2 (by rw [e]; exact congrArg some e')))
theorem acts_set {B : Nat} (W : World) (j : Nat) (v : Value) : Acts (fun k => k = B) W (W.setCell ⟨B, j, none⟩ v) := Acts.setCell _ _ _ _ rfl
def beginM (m : MS) : MS × Int := if m.begun ≥ m.R then (m, 9) else ({ m with begun := wrap64 (m.begun + 1) }, 0)
set_option maxHeartbeats 1000000 in
theorem begin_calls (B : Nat) (m : MS) (fv rv : Value) (W : World) (h : MkAt B m fv rv W) :
    Calls Tryd.prog 58 #[.pointer (some ⟨B, 0, none⟩)] W fun e w' => e = .returned (.int .i64 (beginM m).2) ∧ MkAt B (beginM m).1 fv rv w' ∧ Acts (fun k => k = B) W w' := by
  have c2 := (blk_cell h.obj 2).trans rfl
  have c6 := (blk_cell h.obj 6).trans rfl
  have f6 := blk_frozen h.obj 6
  simp only [MS.cells] at c2 c6
  by_cases hc : m.begun ≥ m.R
  · have hd : decide (m.begun ≥ m.R) = true := decide_eq_true hc
    have e : beginM m = (m, 9) := if_pos hc
    rw [e]
    go_enter Tryd.func58, Tryd.ntmps58
    go_wp2
    go_quiet (fail)
    go_wp2
    go_ret
    exact ⟨rfl, h.keep (fun _ _ => rfl), Acts.drewN _ _ _⟩
  · have hd : decide (m.begun ≥ m.R) = false := decide_eq_false hc
    have e : beginM m = ({ m with begun := wrap64 (m.begun + 1) }, 0) := if_neg hc
    rw [e]
    go_enter Tryd.func58, Tryd.ntmps58
    go_wp2
    go_quiet (fail)
    go_wp2
    go_ret
    exact ⟨rfl, (h.keep (W' := W.drewN nq) (fun _ _ => rfl)).set 6 _ rfl rfl rfl, (Acts.drewN _ W nq).trans (acts_set _ _ _) (fun _ h => .inl h)⟩
end Go.Proofs.YtmignbhpofmgeaaDoor.Top
namespace Go.Proofs.YtmignbhpofmgeaaDoor.Top
open Go.RowKit Go.Proofs.YtmignbhpofmgeaaDoorW.PrintWords Go.Proofs.YtmignbhpofmgeaaDoorW.PrintLast Go.Proofs.YtmignbhpofmgeaaDoorW.PrintMore Go.Proofs.YtmignbhpofmgeaaDoor.Iter
set_option linter.unusedVariables false
set_option linter.unusedSimpArgs false
/-- From v in W the value v' has come: its block is v's, or new. -/
def NewOr (W : World) (v v' : Value) : Prop := ∀ k, v'.ownBlock = some k → v.ownBlock = some k ∨ W.heap.size ≤ k
theorem NewOr.refl (W : World) (v : Value) : NewOr W v v := fun _ h => .inl h
theorem NewOr.trans {W W' : World} {a b c : Value} (h : NewOr W a b) (k : NewOr W' b c) (hs : W.heap.size ≤ W'.heap.size) : NewOr W a c := fun j hj => (k j hj).elim (h j) (fun hl => .inr (Nat.le_trans hs hl))
theorem NewOr.nil (W : World) (v : Value) (n c : Nat) : NewOr W v (.slice none n c) := fun k h => by cases h
/-- What a Maker's call may turn. -/
def MC (B : Nat) (fv rv : Value) (k : Nat) : Prop := k = B ∨ fv.ownBlock = some k ∨ rv.ownBlock = some k
/-- A Maker at B has gone from (fv, rv) in W to m', (fv', rv') in W'. -/
structure MGo (B : Nat) (fv rv : Value) (W : World) (m' : MS) (fv' rv' : Value) (W' : World) : Prop where
  it : MkAt B m' fv' rv' W'
  acts : Acts (MC B fv rv) W W'
  fnew : NewOr W fv fv'
  rnew : NewOr W rv rv'
theorem MGo.refl {B : Nat} {m : MS} {fv rv : Value} {W : World} (h : MkAt B m fv rv W) : MGo B fv rv W m fv rv W := ⟨h, Acts.refl _ _, NewOr.refl _ _, NewOr.refl _ _⟩
theorem MGo.trans {B : Nat} {m m2 : MS} {fv rv fv1 rv1 fv2 rv2 : Value} {W W1 W2 : World} (h : MGo B fv rv W m fv1 rv1 W1) (k : MGo B fv1 rv1 W1 m2 fv2 rv2 W2) : MGo B fv rv W m2 fv2 rv2 W2 :=
  ⟨k.it, h.acts.trans k.acts (fun j hj => by
    rcases hj with rfl | hj | hj
    · exact .inl (.inl rfl)
    · exact (h.fnew j hj).elim (fun e => .inl (.inr (.inl e))) .inr
    · exact (h.rnew j hj).elim (fun e => .inl (.inr (.inr e))) .inr), h.fnew.trans k.fnew h.acts.size, h.rnew.trans k.rnew h.acts.size⟩
/-- Rows of things of two kinds lie apart. -/
theorem rows_apart {W : World} {base base' e e' s s' n n' : Nat} {v v' : Value} {xs xs' : List Value} (h : W.ownsRow base e s v n xs) (h' : W.ownsRow base' e' s' v' n' xs') (hne : e ≠ e') (k : Nat) (hk : v.ownBlock = some k) : v'.ownBlock ≠ some k := by
  rcases h.2 with ⟨rfl, _⟩ | ⟨g, cap, cur, rfl, _, h2, _⟩
  · cases hk
  · obtain rfl := Option.some.inj hk
    exact row_ne h' h2 (fun e => hne e.symm)
theorem row_lt {W : World} {base e s n : Nat} {v : Value} {xs : List Value} (h : W.ownsRow base e s v n xs) (k : Nat) (hk : v.ownBlock = some k) : k < W.heap.size := (h.lt k hk).2
theorem MkAt.apart {B : Nat} {m : MS} {fv rv : Value} {W : World} (h : MkAt B m fv rv W) (k : Nat) (hk : fv.ownBlock = some k) : rv.ownBlock ≠ some k := rows_apart h.frow h.rrow (by decide) k hk
/-- What append tells of the block. -/
theorem at_new {W : World} {o : Obj} {v v' : Value} (h : v'.ownBlock = v.ownBlock ∨ v'.ownBlock = some (W.alloc o).heap.size) : NewOr W v v' := fun k hk => by
  rcases h with h | h
  · exact .inl (h ▸ hk)
  · rw [h] at hk; obtain rfl := Option.some.inj hk; exact .inr (by simp)
theorem MkAt.acts {B : Nat} {m : MS} {fv rv : Value} {C : Nat → Prop} {W W' : World} (h : MkAt B m fv rv W) (ha : Acts C W W') (hc : ∀ k, MC B fv rv k → ¬ C k) : MkAt B m fv rv W' :=
  h.keep (fun k hk => ha.same k (by rcases hk with rfl | hk | hk
                                    · exact h.lt
                                    · exact row_lt h.frow k hk
                                    · exact row_lt h.rrow k hk) (hc k hk))
/-- A thing of it is grown in a step of append; what lies elsewhere is kept. -/
theorem grown_acts {W W2 : World} {o : Obj} {v : Value} (hg : (W.alloc o).grownBy W2 v.ownBlock) : Acts (fun k => v.ownBlock = some k) W W2 :=
  (Acts.alloc _ W o).trans (Acts.grown (C := fun k => v.ownBlock = some k) hg (fun r hr => hr)) (fun _ h => .inl h)
/-- The field has grown, and it is written back. -/
theorem MkAt.push_field {B : Nat} {m : MS} {fv rv fv' : Value} {W W2 : World} {o : Obj} (h : MkAt B m fv rv W) (b : Int) (hown : W2.ownsRow 0 5 1 fv' (m.field.length + 1) (m.field.map (Value.int .u8) ++ [.int .u8 b])) (hg : (W.alloc o).grownBy W2 fv.ownBlock)
    (hat : fv'.ownBlock = fv.ownBlock ∨ fv'.ownBlock = some (W.alloc o).heap.size) : MGo B fv rv W { m with field := m.field ++ [b] } fv' rv (W2.setCell ⟨B, 4, none⟩ fv') := by
  have hA := grown_acts hg
  have hobj : W2.heap[B]? = _ := (hA.same B h.lt h.ne.1).trans h.obj
  have hr : W2.ownsRow 0 9 1 rv m.record.length (m.record.map Value.string) := owns_keep h.rrow (fun k hk => hA.same k (row_lt h.rrow k hk) (fun e => h.apart k e hk))
  have n1 : fv'.ownBlock ≠ some B := row_ne hown hobj (by decide)
  refine ⟨⟨?_, ?_, ?_⟩, (hA.weaken (fun k _ e => .inr (.inl e))).trans (acts_set (B := B) _ 4 fv') (fun j hj => .inl (.inl hj)), at_new hat, NewOr.refl _ _⟩
  · rw [blk_set hobj]; rfl
  · have : W2.ownsRow 0 5 1 fv' (m.field ++ [b]).length ((m.field ++ [b]).map (Value.int .u8)) := by simpa using hown
    exact owns_keep this (fun k e => Below.heap_setCell W2 _ _ k (fun e' => n1 (by rw [e]; exact congrArg some e')))
  · exact owns_keep hr (fun k e => Below.heap_setCell W2 _ _ k (fun e' => h.ne.2 (by rw [e]; exact congrArg some e')))
/-- The record has grown, and it is written back. -/
theorem MkAt.push_record {B : Nat} {m : MS} {fv rv rv' : Value} {W W2 : World} {o : Obj} (h : MkAt B m fv rv W) (b : ByteArray) (hown : W2.ownsRow 0 9 1 rv' (m.record.length + 1) (m.record.map Value.string ++ [.string b])) (hg : (W.alloc o).grownBy W2 rv.ownBlock)
    (hat : rv'.ownBlock = rv.ownBlock ∨ rv'.ownBlock = some (W.alloc o).heap.size) : MGo B fv rv W { m with record := m.record ++ [b] } fv rv' (W2.setCell ⟨B, 5, none⟩ rv') := by
  have hA := grown_acts hg
  have hobj : W2.heap[B]? = _ := (hA.same B h.lt h.ne.2).trans h.obj
  have hr : W2.ownsRow 0 5 1 fv m.field.length (m.field.map (Value.int .u8)) := owns_keep h.frow (fun k hk => hA.same k (row_lt h.frow k hk) (fun e => h.apart k hk e))
  have n1 : rv'.ownBlock ≠ some B := row_ne hown hobj (by decide)
  refine ⟨⟨?_, ?_, ?_⟩, (hA.weaken (fun k _ e => .inr (.inr e))).trans (acts_set (B := B) _ 5 rv') (fun j hj => .inl (.inl hj)), NewOr.refl _ _, at_new hat⟩
  · rw [blk_set hobj]; rfl
  · exact owns_keep hr (fun k e => Below.heap_setCell W2 _ _ k (fun e' => h.ne.1 (by rw [e]; exact congrArg some e')))
  · have : W2.ownsRow 0 9 1 rv' (m.record ++ [b]).length ((m.record ++ [b]).map Value.string) := by simpa using hown
    exact owns_keep this (fun k e => Below.heap_setCell W2 _ _ k (fun e' => n1 (by rw [e]; exact congrArg some e')))
theorem MGo.drewn {B n : Nat} {m' : MS} {fv rv fv' rv' : Value} {W W' : World} (h : MGo B fv rv (W.drewN n) m' fv' rv' W') : MGo B fv rv W m' fv' rv' W' := ⟨h.it, (Acts.drewN _ W n).trans h.acts (fun _ h => .inl h), h.fnew, h.rnew⟩
/-- A Maker's call comes to what f says. -/
def MTo (B : Nat) (fv rv : Value) (W : World) (m' : MS) (r : Value) (e : Ending) (w' : World) : Prop := e = .returned r ∧ ∃ fv' rv', MGo B fv rv W m' fv' rv' w'
theorem elem5 : (Tryd.prog.info? 5).map (fun i => (i.zero, i.size, i.bytes)) = some (some (.int .u8 0), 1, 1) := by kernel_rfl
theorem elem9 : (Tryd.prog.info? 9).map (fun i => (i.zero, i.size, i.bytes)) = some (some (.string ByteArray.empty), 1, 16) := by kernel_rfl
def addM (m : MS) (b : Int) : MS × Int := if (m.field.length : Int) ≥ m.F then (m, 7) else ({ m with field := m.field ++ [b] }, 0)
theorem slice_len {W : World} {base e s n : Nat} {v : Value} {xs : List Value} (h : W.ownsRow base e s v n xs) : ∃ a c, v = .slice a n c := by
  rcases h.2 with ⟨rfl, h0⟩ | ⟨g, cap, cur, rfl, _⟩
  · subst h0; exact ⟨_, _, rfl⟩
  · exact ⟨_, _, rfl⟩
set_option maxRecDepth 100000 in
set_option maxHeartbeats 2000000 in
theorem add_calls (B : Nat) (m : MS) (b : Int) (fv rv : Value) (W : World) (h : MkAt B m fv rv W) (hF : m.F ≤ 2147483648) :
    Calls Tryd.prog 59 #[.pointer (some ⟨B, 0, none⟩), .int .u8 b] W (MTo B fv rv W (addM m b).1 (.int .i64 (addM m b).2)) := by
  have c0 := (blk_cell h.obj 0).trans rfl
  have c4 := (blk_cell h.obj 4).trans rfl
  have f4 := blk_frozen h.obj 4
  have hrow := h.frow
  obtain ⟨fa, fc, rfl⟩ := slice_len h.frow
  simp only [MS.cells] at c0 c4
  obtain ⟨i0, hi, hz0, hz1, hz2⟩ := info_parts elem5
  by_cases hc : (m.field.length : Int) ≥ m.F
  · have e : addM m b = (m, 7) := if_pos hc
    rw [e]
    go_enter Tryd.func59, Tryd.ntmps59
    go_wp2
    go_quiet (fail)
    go_wp2
    go_ret
    exact ⟨rfl, _, _, (h.keep (fun _ _ => rfl)), Acts.drewN _ _ _, NewOr.refl _ _, NewOr.refl _ _⟩
  · have e : addM m b = ({ m with field := m.field ++ [b] }, 0) := if_neg hc
    rw [e]
    go_enter Tryd.func59, Tryd.ntmps59
    go_wp2
    go_quiet (fail)
    go_wp2_with (at_builtin; refine wpList_append_own_at _ rfl _ _ 37 rfl 0 5 i0 (.int .u8 0) 1 1 Tryd.underlying37 hi hz0 hz1 hz2 rfl (by decide) _ m.field.length _ rfl (World.ownsRow.alloc (owns_keep (W' := W.drewN nq) hrow (fun _ _ => rfl)) _) ⟨W.heap.size, 0, none⟩ 1 1 [.int .u8 b] rfl rfl (cell_one_new (W.drewN nq) _ _) (by simp [Value.oneCell']) (by simp [maxLen]; omega) (by omega) (by simp) ?_; intro v' w1 hown hgrow hnil hat; obtain ⟨g, cap, rfl⟩ := ownsRow_succ hown; have hB1 := ((grown_acts hgrow).same B h.lt h.ne.1).trans h.obj; have c1 := (blk_cell hB1 4).trans rfl; have f1 := blk_frozen hB1 4; simp only [MS.cells] at c1)
    go_ret
    exact ⟨rfl, _, _, MGo.drewn ((h.keep (W' := W.drewN nq) (fun _ _ => rfl)).push_field b hown hgrow hat)⟩
/-- The field is empty again, its room is kept. -/
theorem MkAt.reslice {B : Nat} {m : MS} {fv rv fv' : Value} {W : World} (h : MkAt B m fv rv W) (hr : W.ownsRow 0 5 1 fv' 0 []) (hb : fv'.ownBlock = fv.ownBlock) : MGo B fv rv W { m with field := [] } fv' rv (W.setCell ⟨B, 4, none⟩ fv') := by
  have n1 : fv'.ownBlock ≠ some B := row_ne hr h.obj (by decide)
  refine ⟨⟨?_, ?_, ?_⟩, (acts_set (B := B) _ 4 fv').weaken (fun k _ e => .inl e), fun k hk => .inl (hb ▸ hk), NewOr.refl _ _⟩
  · rw [blk_set h.obj]; rfl
  · exact owns_keep hr (fun k e => Below.heap_setCell W _ _ k (fun e' => n1 (by rw [e]; exact congrArg some e')))
  · exact owns_keep h.rrow (fun k e => Below.heap_setCell W _ _ k (fun e' => h.ne.2 (by rw [e]; exact congrArg some e')))
theorem row_cut {W : World} {n : Nat} {a : Option Addr} {c : Nat} {xs : List Value} (h : W.ownsRow 0 5 1 (.slice a n c) n xs) : W.ownsRow 0 5 1 (.slice a 0 c) 0 [] := by
  rcases h.2 with ⟨e, h0⟩ | ⟨g, cap, cur, e, h1, h2, h3, h4, h5, h6⟩
  · cases e; exact World.ownsRow_nil _ _ _ _
  · cases e; exact ⟨rfl, .inr ⟨g, c, cur, rfl, h1, h2, Nat.zero_le _, h4, h5, rfl⟩⟩
theorem run_op_append {P : Program} {w w1 : World} {oi : Oper} {a : Act} {s x : Operand} {t : TypeId} {v : Value} (ho : oi.op = .call { callee := .builtin .append, args := #[s, x], argTypes := #[t, t] }) (hr : (Builtin.append_ #[t, t] oi.type #[a.eval s, a.eval x]).run P w = .ok v w1) : (execOp a.eval oi).run P w = .ok (.value v) w1 := by
  unfold execOp
  simp only [ho, resolve, invoke, builtin, Sem.run_bind, Sem.run_pure, Result.andThen_ok, List.map_toArray, List.map_cons, List.map_nil, hr]
theorem conv_bytes (W : World) (n : Nat) (xs : List Int) (v : Value) (h : W.ownsRow 0 5 1 v n (xs.map (Value.int .u8))) : (convert 37 9 v).run Tryd.prog W = .ok (.string (strOfNums xs)) W := by
  rcases h.2 with ⟨rfl, h0⟩ | ⟨g, cap, cur, rfl, h1, h2, h3, h4, h5, h6⟩
  · subst h0
    have hl : xs = [] := by have := h.1; simpa using this
    subst hl
    exact (run_convert_bytes_nil W 37 5 Tryd.underlying37 (by kernel_rfl) 0 0 9 (by kernel_rfl)).trans (by rfl)
  · have hl : xs.length = n := by have := h.1; simpa using this
    refine run_convert_bytes_arg W 37 5 Tryd.underlying37 (by kernel_rfl) g 0 n cap xs hl (fun i hi => ?_) 9 (by kernel_rfl)
    have h7 : cur.toList.take (n * 1) = xs.map (Value.int .u8) := by simpa using h6
    rw [Nat.zero_add, blk_cell h2 i, ← Array.getElem?_toList, ← List.getElem?_take_of_lt (i := i) (j := n * 1) (by omega), h7]
    rw [List.getElem?_map, List.getD_eq_getElem?_getD, List.getElem?_eq_getElem (by omega)]
    rfl
structure SPut (B : Nat) (m : MS) (fv rv : Value) (W : World) : Prop where
  obj : W.heap[B]? = some (.cells (m.cells fv rv) 96 (0, 0))
  frow : W.ownsRow 0 5 1 fv m.field.length (m.field.map (Value.int .u8))
theorem slice_cap {W : World} {base e s n : Nat} {v : Value} {xs : List Value} (h : W.ownsRow base e s v n xs) : ∃ a c, v = .slice a n c ∧ n ≤ c := by
  rcases h.2 with ⟨rfl, h0⟩ | ⟨g, cap, cur, rfl, _, _, h3, _⟩
  · subst h0; exact ⟨_, _, rfl, Nat.le_refl _⟩
  · exact ⟨_, _, rfl, h3⟩
def putM (m : MS) : MS := { m with record := m.record ++ [strOfNums m.field], field := [] }
set_option maxRecDepth 100000 in
set_option maxHeartbeats 2000000 in
theorem put_calls (B : Nat) (m : MS) (fv rv : Value) (W : World) (h : MkAt B m fv rv W) (hn : m.record.length ≤ 2147483648) :
    Calls Tryd.prog 66 #[.pointer (some ⟨B, 0, none⟩)] W (MTo B fv rv W (putM m) (.tuple #[])) := by
  obtain ⟨i0, hi, hz0, hz1, hz2⟩ := info_parts elem9
  obtain ⟨ra, rc, rfl⟩ := slice_len h.rrow
  obtain ⟨fa, fc, hfv, hfc⟩ := slice_cap h.frow
  have hcut : ∀ w', (Instr.slice 37 fv none (some (.int .i64 0)) none).run Tryd.prog w' = .ok (.slice fa 0 fc) w' := by
    obtain ⟨j0, hj, hj0, hj1, hj2⟩ := info_parts elem5
    rw [hfv]
    exact (print_take_of (P := Tryd.prog) (Value.int .u8) 0 37 5 .i64 Tryd.underlying37 hj hj1 fa fc m.field 0 (by omega) (by omega) hfc).1
  have hrs : ∀ w' : World, w'.ownsRow 0 5 1 fv m.field.length (m.field.map (Value.int .u8)) → w'.ownsRow 0 5 1 (.slice fa 0 fc) 0 [] := fun w' h' => row_cut (hfv ▸ h')
  have hrb : (Value.slice fa 0 fc).ownBlock = fv.ownBlock := by rw [hfv]; cases fa <;> rfl
  clear hfv hfc
  have hconv : ∀ w', SPut B m fv (.slice ra m.record.length rc) w' → (convert 37 9 fv).run Tryd.prog w' = .ok (.string (strOfNums m.field)) w' := fun w' h' => conv_bytes w' _ _ _ h'.frow
  go_enter Tryd.func66, Tryd.ntmps66
  go_wp2
  refine start_ (n := 15) (S := fun w' => SPut B m fv (.slice ra m.record.length rc) w') (ds := [14]) #[false, false, false, false, false, false, false, false, false, false, false, false, false, false, false] (by kernel_rfl) rfl rfl (⟨h.obj, owns_keep h.frow (fun _ _ => rfl)⟩) (fun hHeld => ?_)
  refine pure_ (i := 0) (N := some 2) (v := ?_) (a' := ?_) #[true, false, false, false, false, false, false, false, false, false, false, false, false, false, false] rfl rfl (by kernel_rfl) (fun _ _ _ h => h) (Or.inl ⟨by rfl, ?_⟩) ?_ ?_
  rotate_left
  · intro w'
    go_simp
    with_reducible rfl
  rotate_left
  · simp only [Act.put, List.setIfInBounds_toArray, List.set_cons_zero, List.set_cons_succ]
    rfl
  refine pure_ (i := 1) (N := some 3) (v := ?_) (a' := ?_) #[true, true, false, false, false, false, false, false, false, false, false, false, false, false, false] rfl rfl (by kernel_rfl) (fun _ _ _ h => h) (Or.inl ⟨by rfl, ?_⟩) ?_ ?_
  rotate_left
  · intro w'
    go_simp
    with_reducible rfl
  rotate_left
  · simp only [Act.put, List.setIfInBounds_toArray, List.set_cons_zero, List.set_cons_succ]
    rfl
  refine pure_ (i := 2) (N := some 4) (v := ?_) (a' := ?_) #[true, true, true, false, false, false, false, false, false, false, false, false, false, false, false] rfl rfl (by kernel_rfl) (fun _ _ _ h => h) (Or.inl ⟨by rfl, ?_⟩) ?_ ?_
  rotate_left
  · intro w'
    go_simp
    with_reducible rfl
  rotate_left
  · simp only [Act.put, List.setIfInBounds_toArray, List.set_cons_zero, List.set_cons_succ]
    rfl
  refine pure_ (i := 3) (N := some 5) (v := ?_) (a' := ?_) #[true, true, true, true, false, false, false, false, false, false, false, false, false, false, false] rfl rfl (by kernel_rfl) (fun _ _ _ h => h) (Or.inl ⟨by rfl, ?_⟩) ?_ ?_
  rotate_left
  · intro w'
    go_simp
    with_reducible rfl
  rotate_left
  · simp only [Act.put, List.setIfInBounds_toArray, List.set_cons_zero, List.set_cons_succ]
    rfl
  refine take_ (i := 4) (N := some 6) (v := ?_) (a' := ?_) #[true, true, true, true, true, false, false, false, false, false, false, false, false, false, false] rfl rfl (by kernel_rfl) (fun _ _ _ h => h) (Or.inl ⟨by rfl, ?_⟩) hHeld ?_ ?_
  rotate_left
  · intro w' s0
    have c := (blk_cell s0.obj 5).trans rfl
    simp only [MS.cells] at c
    go_simp
    with_reducible rfl
  rotate_left
  · simp only [Act.put, List.setIfInBounds_toArray, List.set_cons_zero, List.set_cons_succ]
    rfl
  refine pure_ (i := 5) (N := some 7) (v := ?_) (a' := ?_) #[true, true, true, true, true, true, false, false, false, false, false, false, false, false, false] rfl rfl (by kernel_rfl) (fun _ _ _ h => h) (Or.inl ⟨by rfl, ?_⟩) ?_ ?_
  rotate_left
  · intro w'
    go_simp
    with_reducible rfl
  rotate_left
  · simp only [Act.put, List.setIfInBounds_toArray, List.set_cons_zero, List.set_cons_succ]
    rfl
  refine pure_ (i := 6) (N := some 8) (v := ?_) (a' := ?_) #[true, true, true, true, true, true, true, false, false, false, false, false, false, false, false] rfl rfl (by kernel_rfl) (fun _ _ _ h => h) (Or.inl ⟨by rfl, ?_⟩) ?_ ?_
  rotate_left
  · intro w'
    go_simp
    with_reducible rfl
  rotate_left
  · simp only [Act.put, List.setIfInBounds_toArray, List.set_cons_zero, List.set_cons_succ]
    rfl
  refine pure_ (i := 7) (N := some 9) (v := ?_) (a' := ?_) #[true, true, true, true, true, true, true, true, false, false, false, false, false, false, false] rfl rfl (by kernel_rfl) (fun _ _ _ h => h) (Or.inl ⟨by rfl, ?_⟩) ?_ ?_
  rotate_left
  · intro w'
    go_simp
    with_reducible rfl
  rotate_left
  · simp only [Act.put, List.setIfInBounds_toArray, List.set_cons_zero, List.set_cons_succ]
    rfl
  refine take_ (i := 8) (N := some 10) (v := ?_) (a' := ?_) #[true, true, true, true, true, true, true, true, true, false, false, false, false, false, false] rfl rfl (by kernel_rfl) (fun _ _ _ h => h) (Or.inl ⟨by rfl, ?_⟩) hHeld ?_ ?_
  rotate_left
  · intro w' s0
    have c := (blk_cell s0.obj 4).trans rfl
    simp only [MS.cells] at c
    go_simp
    with_reducible rfl
  rotate_left
  · simp only [Act.put, List.setIfInBounds_toArray, List.set_cons_zero, List.set_cons_succ]
    rfl
  refine take_ (i := 9) (N := some 11) (v := ?_) (a' := ?_) #[true, true, true, true, true, true, true, true, true, true, false, false, false, false, false] rfl rfl (by kernel_rfl) (fun _ _ _ h => h) (Or.inl ⟨by rfl, ?_⟩) hHeld ?_ ?_
  rotate_left
  · intro w' s0
    have hv := hconv _ s0
    go_simp
    with_reducible rfl
  rotate_left
  · simp only [Act.put, List.setIfInBounds_toArray, List.set_cons_zero, List.set_cons_succ]
    rfl
  refine one_ (i := 10) (N := some 12) #[true, true, true, true, true, true, true, true, true, true, true, false, false, false, false] rfl rfl (by kernel_rfl) (by decide) (fun K hK => ?_)
  refine value_ (w1 := ?_) (v := ?_) (by rfl) rfl ?_ ?_
  rotate_left 2
  · go_simp
    constructor
    · rfl
    · rfl
  refine hK.out _ _ ⟨(((Acts.alloc (fun _ => False) _ _).same B h.lt (fun h => h)).trans h.obj), World.ownsRow.alloc hHeld.frow _⟩ (fun hHeld => ?_)
  clear hK K
  refine norm_ (a' := ?_) ?_ ?_
  rotate_left
  · show Act.put _ (some 12) _ = _
    simp only [Act.put, List.setIfInBounds_toArray, List.set_cons_zero, List.set_cons_succ]
    rfl
  obtain ⟨v1, w1, hr, hown, hgrow, _, hat⟩ := run_append_own_at (P := Tryd.prog) (W.drew.alloc (.cells #[.string (strOfNums m.field)] 9)) 0 61 61 9 i0 (.string ByteArray.empty) 1 16 Tryd.underlying61 hi hz0 hz1 hz2 rfl (by decide) _ m.record.length _ (World.ownsRow.alloc (owns_keep (W' := W.drew) h.rrow (fun _ _ => rfl)) _) ⟨W.heap.size, 0, none⟩ 1 1 [.string (strOfNums m.field)] rfl (cell_one_new W.drew _ _) (by simp [Value.oneCell']) (by simp [maxLen]; omega) (by omega) (by simp)
  obtain ⟨g, cap, rfl⟩ := ownsRow_succ hown
  have hP := MkAt.push_record (m := m) (h.keep (W' := W.drew) (fun _ _ => rfl)) _ hown hgrow hat
  have hA := grown_acts hgrow
  refine one_ (i := 11) (N := some 13) #[true, true, true, true, true, true, true, true, true, true, true, true, false, false, false] rfl rfl (by kernel_rfl) (by decide) (fun K hK => ?_)
  refine value_ (w1 := w1) (v := .slice (some ⟨g, 0, none⟩) (m.record.length + 1) cap) (by rfl) rfl ?_ ?_
  · exact run_op_append rfl hr
  refine hK.out _ _ ⟨(hA.same B h.lt h.ne.2).trans h.obj, owns_keep h.frow (fun k hk => hA.same k (row_lt h.frow k hk) (fun e => h.apart k hk e))⟩ (fun hHeld => ?_)
  clear hK K
  refine norm_ (a' := ?_) ?_ ?_
  rotate_left
  · show Act.put _ (some 13) _ = _
    simp only [Act.put, List.setIfInBounds_toArray, List.set_cons_zero, List.set_cons_succ]
    rfl
  refine pure_ (i := 12) (N := some 14) (v := ?_) (a' := ?_) #[true, true, true, true, true, true, true, true, true, true, true, true, true, false, false] rfl rfl (by kernel_rfl) (fun _ _ _ h => h) (Or.inl ⟨by rfl, ?_⟩) ?_ ?_
  rotate_left
  · intro w'
    go_simp
    with_reducible rfl
  rotate_left
  · simp only [Act.put, List.setIfInBounds_toArray, List.set_cons_zero, List.set_cons_succ]
    rfl
  refine pure_ (i := 13) (N := some 15) (v := ?_) (a' := ?_) #[true, true, true, true, true, true, true, true, true, true, true, true, true, true, false] rfl rfl (by kernel_rfl) (fun _ _ _ h => h) (Or.inl ⟨by rfl, ?_⟩) ?_ ?_
  rotate_left
  · intro w'
    go_simp
    with_reducible rfl
  rotate_left
  · simp only [Act.put, List.setIfInBounds_toArray, List.set_cons_zero, List.set_cons_succ]
    rfl
  have hB1 := (hA.same B h.lt h.ne.2).trans h.obj
  have f1 := blk_frozen hB1 5
  have c1 := (blk_cell hB1 5).trans rfl
  simp only [MS.cells] at c1
  refine last_ (i := 14) (N := none) #[true, true, true, true, true, true, true, true, true, true, true, true, true, true, true] rfl rfl (by kernel_rfl) (by decide) (fun K hK => ?_)
  refine skip_ (w1 := w1.setCell ⟨B, 5, none⟩ (.slice (some ⟨g, 0, none⟩) (m.record.length + 1) cap)) (by rfl) rfl ?_ ?_
  · go_simp
  refine hK.out _ _ ?_
  clear hK K
  refine done_ (by kernel_rfl) ?_
  clear hHeld
  have hM := hP.it
  have c2 := (blk_cell hM.obj 4).trans rfl
  have f2 := blk_frozen hM.obj 4
  simp only [MS.cells] at c2
  go_wp2
  refine bodyPost_end (results_none (fn := Tryd.f66) rfl _ _ _) rfl ?_
  exact ⟨rfl, _, _, MGo.trans (MGo.drewn (n := 1) hP) (MkAt.reslice hM (hrs _ hM.frow) hrb)⟩
end Go.Proofs.YtmignbhpofmgeaaDoor.Top
namespace Go.Proofs.YtmignbhpofmgeaaDoor.Top
open Go.RowKit Go.Proofs.YtmignbhpofmgeaaDoorW.PrintWords Go.Proofs.YtmignbhpofmgeaaDoorW.PrintLast Go.Proofs.YtmignbhpofmgeaaDoorW.PrintMore Go.Proofs.YtmignbhpofmgeaaDoor.Iter
set_option linter.unusedVariables false
set_option linter.unusedSimpArgs false
/-- Must records have as many fields as the first one? -/
def uniM (m : MS) : Bool := m.U && decide (m.count > 0)
set_option maxRecDepth 100000 in
set_option maxHeartbeats 2000000 in
theorem uniform_calls (B : Nat) (m : MS) (fv rv : Value) (W : World) (h : MkAt B m fv rv W) :
    Calls Tryd.prog 67 #[.pointer (some ⟨B, 0, none⟩)] W (fun e w' => e = .returned (.bool (uniM m)) ∧ MkAt B m fv rv w' ∧ Acts (fun _ => False) W w') := by
  have c3 := (blk_cell h.obj 3).trans rfl
  have c7 := (blk_cell h.obj 7).trans rfl
  simp only [MS.cells] at c3 c7
  by_cases hU : m.U = true
  · rw [show uniM m = decide (m.count > 0) from by simp [uniM, hU]]
    go_enter Tryd.func67, Tryd.ntmps67
    go_wp2
    go_ret
    exact ⟨rfl, h.keep (fun _ _ => rfl), Acts.refl _ _⟩
  · rw [show uniM m = false from by simp [uniM, hU]]
    go_enter Tryd.func67, Tryd.ntmps67
    go_wp2
    go_ret
    exact ⟨rfl, h.keep (fun _ _ => rfl), Acts.refl _ _⟩
def nextM (m : MS) : MS × Int := if ((putM m).record.length : Int) ≥ m.Fs then (putM m, 8) else if uniM m = true ∧ ((putM m).record.length : Int) = m.width then (putM m, 10) else (putM m, 0)
def lineM (m : MS) : MS × Int := if uniM m = true ∧ ((putM m).record.length : Int) ≠ m.width then (putM m, 10) else (putM m, 0)
theorem MGo.keep {B : Nat} {m : MS} {fv rv fv' rv' : Value} {W W' W2 : World} (h : MGo B fv rv W m fv' rv' W') (hk : MkAt B m fv' rv' W2) (ha : Acts (fun _ => False) W' W2) : MGo B fv rv W m fv' rv' W2 := ⟨hk, h.acts.trans ha (fun _ h => h.elim), h.fnew, h.rnew⟩
set_option maxRecDepth 100000 in
set_option maxHeartbeats 2000000 in
theorem next_calls (B : Nat) (m : MS) (fv rv : Value) (W : World) (h : MkAt B m fv rv W) (hn : m.record.length ≤ 2147483648) :
    Calls Tryd.prog 60 #[.pointer (some ⟨B, 0, none⟩)] W (MTo B fv rv W (nextM m).1 (.int .i64 (nextM m).2)) := by
  obtain ⟨n, hln⟩ : ∃ n : Nat, (putM m).record.length = n := ⟨_, rfl⟩
  by_cases h1 : m.Fs ≤ (n : Int)
  · rw [show nextM m = (putM m, 8) from by unfold nextM; rw [hln, if_pos h1]]
    go_enter Tryd.func60, Tryd.ntmps60
    go_wp2_with (go_at_call 66; (with_reducible refine (put_calls B m fv rv W h hn).mono ?_); rintro e w1 ⟨rfl, fv1, rv1, hg⟩; have hm := hg.it; obtain ⟨ra, rc, rfl⟩ := slice_len hm.rrow; rw [hln] at *; have c1 := (blk_cell hm.obj 1).trans rfl; have c5 := (blk_cell hm.obj 5).trans rfl; simp only [MS.cells, putM] at c1 c5)
    go_ret
    exact ⟨rfl, _, _, hg⟩
  · cases hu : uniM m with
    | false =>
      rw [show nextM m = (putM m, 0) from by unfold nextM; rw [hln, if_neg h1, hu, if_neg (by simp)]]
      go_enter Tryd.func60, Tryd.ntmps60
      go_wp2_with (first | (go_at_call 66; (with_reducible refine (put_calls B m fv rv W h hn).mono ?_); rintro e w1 ⟨rfl, fv1, rv1, hg⟩; have hm := hg.it; obtain ⟨ra, rc, rfl⟩ := slice_len hm.rrow; rw [hln] at *; have c1 := (blk_cell hm.obj 1).trans rfl; have c5 := (blk_cell hm.obj 5).trans rfl; simp only [MS.cells, putM] at c1 c5) | (go_at_call 67; (with_reducible refine (uniform_calls B (putM m) fv1 _ w1 hm).mono ?_); rintro e w2 ⟨rfl, hm2, ha2⟩; rw [show uniM (putM m) = uniM m from rfl, hu]; have c8 := (blk_cell hm2.obj 8).trans rfl; have c5 := (blk_cell hm2.obj 5).trans rfl; simp only [MS.cells, putM] at c8 c5))
      go_ret
      exact ⟨rfl, _, _, hg.keep hm2 ha2⟩
    | true =>
      by_cases h2 : (n : Int) = m.width
      · rw [show nextM m = (putM m, 10) from by unfold nextM; rw [hln, if_neg h1, hu, if_pos ⟨rfl, h2⟩]]
        go_enter Tryd.func60, Tryd.ntmps60
        go_wp2_with (first | (go_at_call 66; (with_reducible refine (put_calls B m fv rv W h hn).mono ?_); rintro e w1 ⟨rfl, fv1, rv1, hg⟩; have hm := hg.it; obtain ⟨ra, rc, rfl⟩ := slice_len hm.rrow; rw [hln] at *; have c1 := (blk_cell hm.obj 1).trans rfl; have c5 := (blk_cell hm.obj 5).trans rfl; simp only [MS.cells, putM] at c1 c5) | (go_at_call 67; (with_reducible refine (uniform_calls B (putM m) fv1 _ w1 hm).mono ?_); rintro e w2 ⟨rfl, hm2, ha2⟩; rw [show uniM (putM m) = uniM m from rfl, hu]; have c8 := (blk_cell hm2.obj 8).trans rfl; have c5 := (blk_cell hm2.obj 5).trans rfl; simp only [MS.cells, putM] at c8 c5))
        go_ret
        exact ⟨rfl, _, _, hg.keep hm2 ha2⟩
      · rw [show nextM m = (putM m, 0) from by unfold nextM; rw [hln, if_neg h1, hu, if_neg (fun h => h2 h.2)]]
        go_enter Tryd.func60, Tryd.ntmps60
        go_wp2_with (first | (go_at_call 66; (with_reducible refine (put_calls B m fv rv W h hn).mono ?_); rintro e w1 ⟨rfl, fv1, rv1, hg⟩; have hm := hg.it; obtain ⟨ra, rc, rfl⟩ := slice_len hm.rrow; rw [hln] at *; have c1 := (blk_cell hm.obj 1).trans rfl; have c5 := (blk_cell hm.obj 5).trans rfl; simp only [MS.cells, putM] at c1 c5) | (go_at_call 67; (with_reducible refine (uniform_calls B (putM m) fv1 _ w1 hm).mono ?_); rintro e w2 ⟨rfl, hm2, ha2⟩; rw [show uniM (putM m) = uniM m from rfl, hu]; have c8 := (blk_cell hm2.obj 8).trans rfl; have c5 := (blk_cell hm2.obj 5).trans rfl; simp only [MS.cells, putM] at c8 c5))
        go_ret
        exact ⟨rfl, _, _, hg.keep hm2 ha2⟩
set_option maxRecDepth 100000 in
set_option maxHeartbeats 2000000 in
theorem line_calls (B : Nat) (m : MS) (fv rv : Value) (W : World) (h : MkAt B m fv rv W) (hn : m.record.length ≤ 2147483648) :
    Calls Tryd.prog 61 #[.pointer (some ⟨B, 0, none⟩)] W (MTo B fv rv W (lineM m).1 (.int .i64 (lineM m).2)) := by
  obtain ⟨n, hln⟩ : ∃ n : Nat, (putM m).record.length = n := ⟨_, rfl⟩
  cases hu : uniM m with
  | false =>
    rw [show lineM m = (putM m, 0) from by unfold lineM; rw [hln, hu, if_neg (by simp)]]
    go_enter Tryd.func61, Tryd.ntmps61
    go_wp2_with (go_at_call 66; (with_reducible refine (put_calls B m fv rv W h hn).mono ?_); rintro e w1 ⟨rfl, fv1, rv1, hg⟩; have hm := hg.it; obtain ⟨ra, rc, rfl⟩ := slice_len hm.rrow; rw [hln] at *; have c1 := (blk_cell hm.obj 1).trans rfl; have c5 := (blk_cell hm.obj 5).trans rfl; simp only [MS.cells, putM] at c1 c5)
    refine start_ (n := 14) (S := fun w' => MkAt B (putM m) fv1 (.slice ra n rc) w' ∧ Acts (fun _ => False) w1 w') (ds := []) #[false, false, false, false, false, false, false, false, false, false, false, false, false, false] (by kernel_rfl) rfl rfl (⟨hm.keep (fun _ _ => rfl), Acts.drew _ _⟩) (fun hHeld => ?_)
    refine pure_ (i := 0) (N := some 5) (v := ?_) (a' := ?_) #[true, false, false, false, false, false, false, false, false, false, false, false, false, false] rfl rfl (by kernel_rfl) (fun _ _ _ h => h) (Or.inl ⟨by rfl, ?_⟩) ?_ ?_
    rotate_left
    · intro w'
      go_simp
      with_reducible rfl
    rotate_left
    · simp only [Act.put, List.setIfInBounds_toArray, List.set_cons_zero, List.set_cons_succ]
      rfl
    refine one_ (i := 1) (N := some 6) #[true, true, false, false, false, false, false, false, false, false, false, false, false, false] rfl rfl (by kernel_rfl) (by decide) (fun K hK => ?_)
    refine goes_ Tryd.func67 (by kernel_rfl) rfl #[.pointer (some ⟨B, 0, none⟩)] (by rfl) rfl rfl (by simp only [List.map_toArray, List.map_cons, List.map_nil]; rfl) ?_
    with_reducible refine (uniform_calls B (putM m) fv1 _ _ hHeld.1).mono ?_
    rintro e w2 ⟨rfl, hm2, ha2⟩
    refine ⟨_, rfl, ?_⟩
    rw [show uniM (putM m) = uniM m from rfl, hu]
    refine hK.out _ _ (⟨hm2, hHeld.2.trans ha2 (fun _ h => h.elim)⟩) (fun hHeld => ?_)
    clear hK K
    refine norm_ (a' := ?_) ?_ ?_
    rotate_left
    · show Act.put _ (some 6) _ = _
      simp only [Act.put, List.setIfInBounds_toArray, List.set_cons_zero, List.set_cons_succ]
      rfl
    refine pure_ (i := 2) (N := some 7) (v := ?_) (a' := ?_) #[true, true, true, false, false, false, false, false, false, false, false, false, false, false] rfl rfl (by kernel_rfl) (fun _ _ _ h => h) (Or.inl ⟨by rfl, ?_⟩) ?_ ?_
    rotate_left
    · intro w'
      go_simp
      with_reducible rfl
    rotate_left
    · simp only [Act.put, List.setIfInBounds_toArray, List.set_cons_zero, List.set_cons_succ]
      rfl
    refine pure_ (i := 3) (N := some 8) (v := undef) (a' := ?_) #[true, true, true, true, false, false, false, false, false, false, false, false, false, false] rfl rfl (by kernel_rfl) (fun _ _ _ h => h) (Or.inr ⟨by rfl, rfl⟩) ?_ ?_
    rotate_left
    · simp only [Act.put, List.setIfInBounds_toArray, List.set_cons_zero, List.set_cons_succ]
      rfl
    refine pure_ (i := 4) (N := some 9) (v := undef) (a' := ?_) #[true, true, true, true, true, false, false, false, false, false, false, false, false, false] rfl rfl (by kernel_rfl) (fun _ _ _ h => h) (Or.inr ⟨by rfl, rfl⟩) ?_ ?_
    rotate_left
    · simp only [Act.put, List.setIfInBounds_toArray, List.set_cons_zero, List.set_cons_succ]
      rfl
    refine pure_ (i := 5) (N := some 10) (v := undef) (a' := ?_) #[true, true, true, true, true, true, false, false, false, false, false, false, false, false] rfl rfl (by kernel_rfl) (fun _ _ _ h => h) (Or.inr ⟨by rfl, rfl⟩) ?_ ?_
    rotate_left
    · simp only [Act.put, List.setIfInBounds_toArray, List.set_cons_zero, List.set_cons_succ]
      rfl
    refine pure_ (i := 6) (N := some 11) (v := undef) (a' := ?_) #[true, true, true, true, true, true, true, false, false, false, false, false, false, false] rfl rfl (by kernel_rfl) (fun _ _ _ h => h) (Or.inr ⟨by rfl, rfl⟩) ?_ ?_
    rotate_left
    · simp only [Act.put, List.setIfInBounds_toArray, List.set_cons_zero, List.set_cons_succ]
      rfl
    refine pure_ (i := 7) (N := some 12) (v := undef) (a' := ?_) #[true, true, true, true, true, true, true, true, false, false, false, false, false, false] rfl rfl (by kernel_rfl) (fun _ _ _ h => h) (Or.inr ⟨by rfl, rfl⟩) ?_ ?_
    rotate_left
    · simp only [Act.put, List.setIfInBounds_toArray, List.set_cons_zero, List.set_cons_succ]
      rfl
    refine pure_ (i := 8) (N := some 13) (v := undef) (a' := ?_) #[true, true, true, true, true, true, true, true, true, false, false, false, false, false] rfl rfl (by kernel_rfl) (fun _ _ _ h => h) (Or.inr ⟨by rfl, rfl⟩) ?_ ?_
    rotate_left
    · simp only [Act.put, List.setIfInBounds_toArray, List.set_cons_zero, List.set_cons_succ]
      rfl
    refine pure_ (i := 9) (N := some 14) (v := undef) (a' := ?_) #[true, true, true, true, true, true, true, true, true, true, false, false, false, false] rfl rfl (by kernel_rfl) (fun _ _ _ h => h) (Or.inr ⟨by rfl, rfl⟩) ?_ ?_
    rotate_left
    · simp only [Act.put, List.setIfInBounds_toArray, List.set_cons_zero, List.set_cons_succ]
      rfl
    refine pure_ (i := 10) (N := some 15) (v := undef) (a' := ?_) #[true, true, true, true, true, true, true, true, true, true, true, false, false, false] rfl rfl (by kernel_rfl) (fun _ _ _ h => h) (Or.inr ⟨by rfl, rfl⟩) ?_ ?_
    rotate_left
    · simp only [Act.put, List.setIfInBounds_toArray, List.set_cons_zero, List.set_cons_succ]
      rfl
    refine pure_ (i := 11) (N := some 16) (v := undef) (a' := ?_) #[true, true, true, true, true, true, true, true, true, true, true, true, false, false] rfl rfl (by kernel_rfl) (fun _ _ _ h => h) (Or.inr ⟨by rfl, rfl⟩) ?_ ?_
    rotate_left
    · simp only [Act.put, List.setIfInBounds_toArray, List.set_cons_zero, List.set_cons_succ]
      rfl
    refine pure_ (i := 12) (N := some 17) (v := undef) (a' := ?_) #[true, true, true, true, true, true, true, true, true, true, true, true, true, false] rfl rfl (by kernel_rfl) (fun _ _ _ h => h) (Or.inr ⟨by rfl, rfl⟩) ?_ ?_
    rotate_left
    · simp only [Act.put, List.setIfInBounds_toArray, List.set_cons_zero, List.set_cons_succ]
      rfl
    refine pure_ (i := 13) (N := some 18) (v := ?_) (a' := ?_) #[true, true, true, true, true, true, true, true, true, true, true, true, true, true] rfl rfl (by kernel_rfl) (fun _ _ _ h => h) (Or.inl ⟨by rfl, ?_⟩) ?_ ?_
    rotate_left
    · intro w'
      go_simp
      with_reducible rfl
    rotate_left
    · simp only [Act.put, List.setIfInBounds_toArray, List.set_cons_zero, List.set_cons_succ]
      rfl
    refine done_ (by kernel_rfl) ?_
    go_wp2
    go_ret
    exact ⟨rfl, _, _, hg.keep hHeld.1 hHeld.2⟩
  | true =>
    by_cases h2 : (n : Int) = m.width
    · rw [show lineM m = (putM m, 0) from by unfold lineM; rw [hln, hu, if_neg (fun h => h.2 h2)]]
      go_enter Tryd.func61, Tryd.ntmps61
      go_wp2_with (go_at_call 66; (with_reducible refine (put_calls B m fv rv W h hn).mono ?_); rintro e w1 ⟨rfl, fv1, rv1, hg⟩; have hm := hg.it; obtain ⟨ra, rc, rfl⟩ := slice_len hm.rrow; rw [hln] at *; have c1 := (blk_cell hm.obj 1).trans rfl; have c5 := (blk_cell hm.obj 5).trans rfl; simp only [MS.cells, putM] at c1 c5)
      refine start_ (n := 14) (S := fun w' => MkAt B (putM m) fv1 (.slice ra n rc) w' ∧ Acts (fun _ => False) w1 w') (ds := []) #[false, false, false, false, false, false, false, false, false, false, false, false, false, false] (by kernel_rfl) rfl rfl (⟨hm.keep (fun _ _ => rfl), Acts.drew _ _⟩) (fun hHeld => ?_)
      refine pure_ (i := 0) (N := some 5) (v := ?_) (a' := ?_) #[true, false, false, false, false, false, false, false, false, false, false, false, false, false] rfl rfl (by kernel_rfl) (fun _ _ _ h => h) (Or.inl ⟨by rfl, ?_⟩) ?_ ?_
      rotate_left
      · intro w'
        go_simp
        with_reducible rfl
      rotate_left
      · simp only [Act.put, List.setIfInBounds_toArray, List.set_cons_zero, List.set_cons_succ]
        rfl
      refine one_ (i := 1) (N := some 6) #[true, true, false, false, false, false, false, false, false, false, false, false, false, false] rfl rfl (by kernel_rfl) (by decide) (fun K hK => ?_)
      refine goes_ Tryd.func67 (by kernel_rfl) rfl #[.pointer (some ⟨B, 0, none⟩)] (by rfl) rfl rfl (by simp only [List.map_toArray, List.map_cons, List.map_nil]; rfl) ?_
      with_reducible refine (uniform_calls B (putM m) fv1 _ _ hHeld.1).mono ?_
      rintro e w2 ⟨rfl, hm2, ha2⟩
      refine ⟨_, rfl, ?_⟩
      rw [show uniM (putM m) = uniM m from rfl, hu]
      refine hK.out _ _ (⟨hm2, hHeld.2.trans ha2 (fun _ h => h.elim)⟩) (fun hHeld => ?_)
      clear hK K
      refine norm_ (a' := ?_) ?_ ?_
      rotate_left
      · show Act.put _ (some 6) _ = _
        simp only [Act.put, List.setIfInBounds_toArray, List.set_cons_zero, List.set_cons_succ]
        rfl
      refine pure_ (i := 2) (N := some 7) (v := ?_) (a' := ?_) #[true, true, true, false, false, false, false, false, false, false, false, false, false, false] rfl rfl (by kernel_rfl) (fun _ _ _ h => h) (Or.inl ⟨by rfl, ?_⟩) ?_ ?_
      rotate_left
      · intro w'
        go_simp
        with_reducible rfl
      rotate_left
      · simp only [Act.put, List.setIfInBounds_toArray, List.set_cons_zero, List.set_cons_succ]
        rfl
      refine pure_ (i := 3) (N := some 8) (v := ?_) (a' := ?_) #[true, true, true, true, false, false, false, false, false, false, false, false, false, false] rfl rfl (by kernel_rfl) (fun _ _ _ h => h) (Or.inl ⟨by rfl, ?_⟩) ?_ ?_
      rotate_left
      · intro w'
        go_simp
        with_reducible rfl
      rotate_left
      · simp only [Act.put, List.setIfInBounds_toArray, List.set_cons_zero, List.set_cons_succ]
        rfl
      refine pure_ (i := 4) (N := some 9) (v := ?_) (a' := ?_) #[true, true, true, true, true, false, false, false, false, false, false, false, false, false] rfl rfl (by kernel_rfl) (fun _ _ _ h => h) (Or.inl ⟨by rfl, ?_⟩) ?_ ?_
      rotate_left
      · intro w'
        go_simp
        with_reducible rfl
      rotate_left
      · simp only [Act.put, List.setIfInBounds_toArray, List.set_cons_zero, List.set_cons_succ]
        rfl
      refine pure_ (i := 5) (N := some 10) (v := ?_) (a' := ?_) #[true, true, true, true, true, true, false, false, false, false, false, false, false, false] rfl rfl (by kernel_rfl) (fun _ _ _ h => h) (Or.inl ⟨by rfl, ?_⟩) ?_ ?_
      rotate_left
      · intro w'
        go_simp
        with_reducible rfl
      rotate_left
      · simp only [Act.put, List.setIfInBounds_toArray, List.set_cons_zero, List.set_cons_succ]
        rfl
      refine take_ (i := 6) (N := some 11) (v := ?_) (a' := ?_) #[true, true, true, true, true, true, true, false, false, false, false, false, false, false] rfl rfl (by kernel_rfl) (fun _ _ _ h => h) (Or.inl ⟨by rfl, ?_⟩) hHeld ?_ ?_
      rotate_left
      · intro w' s0
        have c := (blk_cell s0.1.obj 5).trans rfl
        simp only [MS.cells, putM] at c
        go_simp
        with_reducible rfl
      rotate_left
      · simp only [Act.put, List.setIfInBounds_toArray, List.set_cons_zero, List.set_cons_succ]
        rfl
      refine pure_ (i := 7) (N := some 12) (v := ?_) (a' := ?_) #[true, true, true, true, true, true, true, true, false, false, false, false, false, false] rfl rfl (by kernel_rfl) (fun _ _ _ h => h) (Or.inl ⟨by rfl, ?_⟩) ?_ ?_
      rotate_left
      · intro w'
        go_simp
        with_reducible rfl
      rotate_left
      · simp only [Act.put, List.setIfInBounds_toArray, List.set_cons_zero, List.set_cons_succ]
        rfl
      refine pure_ (i := 8) (N := some 13) (v := ?_) (a' := ?_) #[true, true, true, true, true, true, true, true, true, false, false, false, false, false] rfl rfl (by kernel_rfl) (fun _ _ _ h => h) (Or.inl ⟨by rfl, ?_⟩) ?_ ?_
      rotate_left
      · intro w'
        go_simp
        with_reducible rfl
      rotate_left
      · simp only [Act.put, List.setIfInBounds_toArray, List.set_cons_zero, List.set_cons_succ]
        rfl
      refine pure_ (i := 9) (N := some 14) (v := ?_) (a' := ?_) #[true, true, true, true, true, true, true, true, true, true, false, false, false, false] rfl rfl (by kernel_rfl) (fun _ _ _ h => h) (Or.inl ⟨by rfl, ?_⟩) ?_ ?_
      rotate_left
      · intro w'
        go_simp
        with_reducible rfl
      rotate_left
      · simp only [Act.put, List.setIfInBounds_toArray, List.set_cons_zero, List.set_cons_succ]
        rfl
      refine pure_ (i := 10) (N := some 15) (v := ?_) (a' := ?_) #[true, true, true, true, true, true, true, true, true, true, true, false, false, false] rfl rfl (by kernel_rfl) (fun _ _ _ h => h) (Or.inl ⟨by rfl, ?_⟩) ?_ ?_
      rotate_left
      · intro w'
        go_simp
        with_reducible rfl
      rotate_left
      · simp only [Act.put, List.setIfInBounds_toArray, List.set_cons_zero, List.set_cons_succ]
        rfl
      refine take_ (i := 11) (N := some 16) (v := ?_) (a' := ?_) #[true, true, true, true, true, true, true, true, true, true, true, true, false, false] rfl rfl (by kernel_rfl) (fun _ _ _ h => h) (Or.inl ⟨by rfl, ?_⟩) hHeld ?_ ?_
      rotate_left
      · intro w' s0
        have c := (blk_cell s0.1.obj 8).trans rfl
        simp only [MS.cells, putM] at c
        go_simp
        with_reducible rfl
      rotate_left
      · simp only [Act.put, List.setIfInBounds_toArray, List.set_cons_zero, List.set_cons_succ]
        rfl
      refine pure_ (i := 12) (N := some 17) (v := ?_) (a' := ?_) #[true, true, true, true, true, true, true, true, true, true, true, true, true, false] rfl rfl (by kernel_rfl) (fun _ _ _ h => h) (Or.inl ⟨by rfl, ?_⟩) ?_ ?_
      rotate_left
      · intro w'
        go_simp
        with_reducible rfl
      rotate_left
      · simp only [Act.put, List.setIfInBounds_toArray, List.set_cons_zero, List.set_cons_succ]
        rfl
      refine pure_ (i := 13) (N := some 18) (v := ?_) (a' := ?_) #[true, true, true, true, true, true, true, true, true, true, true, true, true, true] rfl rfl (by kernel_rfl) (fun _ _ _ h => h) (Or.inl ⟨by rfl, ?_⟩) ?_ ?_
      rotate_left
      · intro w'
        go_simp
        with_reducible rfl
      rotate_left
      · simp only [Act.put, List.setIfInBounds_toArray, List.set_cons_zero, List.set_cons_succ]
        rfl
      refine done_ (by kernel_rfl) ?_
      go_wp2
      go_ret
      exact ⟨rfl, _, _, hg.keep hHeld.1 hHeld.2⟩
    · rw [show lineM m = (putM m, 10) from by unfold lineM; rw [hln, hu, if_pos ⟨rfl, h2⟩]]
      go_enter Tryd.func61, Tryd.ntmps61
      go_wp2_with (go_at_call 66; (with_reducible refine (put_calls B m fv rv W h hn).mono ?_); rintro e w1 ⟨rfl, fv1, rv1, hg⟩; have hm := hg.it; obtain ⟨ra, rc, rfl⟩ := slice_len hm.rrow; rw [hln] at *; have c1 := (blk_cell hm.obj 1).trans rfl; have c5 := (blk_cell hm.obj 5).trans rfl; simp only [MS.cells, putM] at c1 c5)
      refine start_ (n := 14) (S := fun w' => MkAt B (putM m) fv1 (.slice ra n rc) w' ∧ Acts (fun _ => False) w1 w') (ds := []) #[false, false, false, false, false, false, false, false, false, false, false, false, false, false] (by kernel_rfl) rfl rfl (⟨hm.keep (fun _ _ => rfl), Acts.drew _ _⟩) (fun hHeld => ?_)
      refine pure_ (i := 0) (N := some 5) (v := ?_) (a' := ?_) #[true, false, false, false, false, false, false, false, false, false, false, false, false, false] rfl rfl (by kernel_rfl) (fun _ _ _ h => h) (Or.inl ⟨by rfl, ?_⟩) ?_ ?_
      rotate_left
      · intro w'
        go_simp
        with_reducible rfl
      rotate_left
      · simp only [Act.put, List.setIfInBounds_toArray, List.set_cons_zero, List.set_cons_succ]
        rfl
      refine one_ (i := 1) (N := some 6) #[true, true, false, false, false, false, false, false, false, false, false, false, false, false] rfl rfl (by kernel_rfl) (by decide) (fun K hK => ?_)
      refine goes_ Tryd.func67 (by kernel_rfl) rfl #[.pointer (some ⟨B, 0, none⟩)] (by rfl) rfl rfl (by simp only [List.map_toArray, List.map_cons, List.map_nil]; rfl) ?_
      with_reducible refine (uniform_calls B (putM m) fv1 _ _ hHeld.1).mono ?_
      rintro e w2 ⟨rfl, hm2, ha2⟩
      refine ⟨_, rfl, ?_⟩
      rw [show uniM (putM m) = uniM m from rfl, hu]
      refine hK.out _ _ (⟨hm2, hHeld.2.trans ha2 (fun _ h => h.elim)⟩) (fun hHeld => ?_)
      clear hK K
      refine norm_ (a' := ?_) ?_ ?_
      rotate_left
      · show Act.put _ (some 6) _ = _
        simp only [Act.put, List.setIfInBounds_toArray, List.set_cons_zero, List.set_cons_succ]
        rfl
      refine pure_ (i := 2) (N := some 7) (v := ?_) (a' := ?_) #[true, true, true, false, false, false, false, false, false, false, false, false, false, false] rfl rfl (by kernel_rfl) (fun _ _ _ h => h) (Or.inl ⟨by rfl, ?_⟩) ?_ ?_
      rotate_left
      · intro w'
        go_simp
        with_reducible rfl
      rotate_left
      · simp only [Act.put, List.setIfInBounds_toArray, List.set_cons_zero, List.set_cons_succ]
        rfl
      refine pure_ (i := 3) (N := some 8) (v := ?_) (a' := ?_) #[true, true, true, true, false, false, false, false, false, false, false, false, false, false] rfl rfl (by kernel_rfl) (fun _ _ _ h => h) (Or.inl ⟨by rfl, ?_⟩) ?_ ?_
      rotate_left
      · intro w'
        go_simp
        with_reducible rfl
      rotate_left
      · simp only [Act.put, List.setIfInBounds_toArray, List.set_cons_zero, List.set_cons_succ]
        rfl
      refine pure_ (i := 4) (N := some 9) (v := ?_) (a' := ?_) #[true, true, true, true, true, false, false, false, false, false, false, false, false, false] rfl rfl (by kernel_rfl) (fun _ _ _ h => h) (Or.inl ⟨by rfl, ?_⟩) ?_ ?_
      rotate_left
      · intro w'
        go_simp
        with_reducible rfl
      rotate_left
      · simp only [Act.put, List.setIfInBounds_toArray, List.set_cons_zero, List.set_cons_succ]
        rfl
      refine pure_ (i := 5) (N := some 10) (v := ?_) (a' := ?_) #[true, true, true, true, true, true, false, false, false, false, false, false, false, false] rfl rfl (by kernel_rfl) (fun _ _ _ h => h) (Or.inl ⟨by rfl, ?_⟩) ?_ ?_
      rotate_left
      · intro w'
        go_simp
        with_reducible rfl
      rotate_left
      · simp only [Act.put, List.setIfInBounds_toArray, List.set_cons_zero, List.set_cons_succ]
        rfl
      refine take_ (i := 6) (N := some 11) (v := ?_) (a' := ?_) #[true, true, true, true, true, true, true, false, false, false, false, false, false, false] rfl rfl (by kernel_rfl) (fun _ _ _ h => h) (Or.inl ⟨by rfl, ?_⟩) hHeld ?_ ?_
      rotate_left
      · intro w' s0
        have c := (blk_cell s0.1.obj 5).trans rfl
        simp only [MS.cells, putM] at c
        go_simp
        with_reducible rfl
      rotate_left
      · simp only [Act.put, List.setIfInBounds_toArray, List.set_cons_zero, List.set_cons_succ]
        rfl
      refine pure_ (i := 7) (N := some 12) (v := ?_) (a' := ?_) #[true, true, true, true, true, true, true, true, false, false, false, false, false, false] rfl rfl (by kernel_rfl) (fun _ _ _ h => h) (Or.inl ⟨by rfl, ?_⟩) ?_ ?_
      rotate_left
      · intro w'
        go_simp
        with_reducible rfl
      rotate_left
      · simp only [Act.put, List.setIfInBounds_toArray, List.set_cons_zero, List.set_cons_succ]
        rfl
      refine pure_ (i := 8) (N := some 13) (v := ?_) (a' := ?_) #[true, true, true, true, true, true, true, true, true, false, false, false, false, false] rfl rfl (by kernel_rfl) (fun _ _ _ h => h) (Or.inl ⟨by rfl, ?_⟩) ?_ ?_
      rotate_left
      · intro w'
        go_simp
        with_reducible rfl
      rotate_left
      · simp only [Act.put, List.setIfInBounds_toArray, List.set_cons_zero, List.set_cons_succ]
        rfl
      refine pure_ (i := 9) (N := some 14) (v := ?_) (a' := ?_) #[true, true, true, true, true, true, true, true, true, true, false, false, false, false] rfl rfl (by kernel_rfl) (fun _ _ _ h => h) (Or.inl ⟨by rfl, ?_⟩) ?_ ?_
      rotate_left
      · intro w'
        go_simp
        with_reducible rfl
      rotate_left
      · simp only [Act.put, List.setIfInBounds_toArray, List.set_cons_zero, List.set_cons_succ]
        rfl
      refine pure_ (i := 10) (N := some 15) (v := ?_) (a' := ?_) #[true, true, true, true, true, true, true, true, true, true, true, false, false, false] rfl rfl (by kernel_rfl) (fun _ _ _ h => h) (Or.inl ⟨by rfl, ?_⟩) ?_ ?_
      rotate_left
      · intro w'
        go_simp
        with_reducible rfl
      rotate_left
      · simp only [Act.put, List.setIfInBounds_toArray, List.set_cons_zero, List.set_cons_succ]
        rfl
      refine take_ (i := 11) (N := some 16) (v := ?_) (a' := ?_) #[true, true, true, true, true, true, true, true, true, true, true, true, false, false] rfl rfl (by kernel_rfl) (fun _ _ _ h => h) (Or.inl ⟨by rfl, ?_⟩) hHeld ?_ ?_
      rotate_left
      · intro w' s0
        have c := (blk_cell s0.1.obj 8).trans rfl
        simp only [MS.cells, putM] at c
        go_simp
        with_reducible rfl
      rotate_left
      · simp only [Act.put, List.setIfInBounds_toArray, List.set_cons_zero, List.set_cons_succ]
        rfl
      refine pure_ (i := 12) (N := some 17) (v := ?_) (a' := ?_) #[true, true, true, true, true, true, true, true, true, true, true, true, true, false] rfl rfl (by kernel_rfl) (fun _ _ _ h => h) (Or.inl ⟨by rfl, ?_⟩) ?_ ?_
      rotate_left
      · intro w'
        go_simp
        with_reducible rfl
      rotate_left
      · simp only [Act.put, List.setIfInBounds_toArray, List.set_cons_zero, List.set_cons_succ]
        rfl
      refine pure_ (i := 13) (N := some 18) (v := ?_) (a' := ?_) #[true, true, true, true, true, true, true, true, true, true, true, true, true, true] rfl rfl (by kernel_rfl) (fun _ _ _ h => h) (Or.inl ⟨by rfl, ?_⟩) ?_ ?_
      rotate_left
      · intro w'
        go_simp
        with_reducible rfl
      rotate_left
      · simp only [Act.put, List.setIfInBounds_toArray, List.set_cons_zero, List.set_cons_succ]
        rfl
      refine done_ (by kernel_rfl) ?_
      go_wp2
      go_ret
      exact ⟨rfl, _, _, hg.keep hHeld.1 hHeld.2⟩
end Go.Proofs.YtmignbhpofmgeaaDoor.Top
namespace Go.Proofs.YtmignbhpofmgeaaDoor.Top
open Go.RowKit Go.Proofs.YtmignbhpofmgeaaDoorW.PrintWords Go.Proofs.YtmignbhpofmgeaaDoorW.PrintLast Go.Proofs.YtmignbhpofmgeaaDoorW.PrintMore Go.Proofs.YtmignbhpofmgeaaDoor.Iter
set_option linter.unusedVariables false
set_option linter.unusedSimpArgs false
/-- What a byte comes to. -/
structure Ev where
  begin : Bool
  add : Bool
  field : Bool
  line : Bool
  record : Bool
  b : Int
def Ev.cells (e : Ev) : Array Value := #[.bool e.begin, .bool e.add, .bool e.field, .bool e.line, .bool e.record, .int .u8 e.b]
def gather1 (m : MS) (e : Ev) : MS × Int := if e.begin = true then beginM m else (m, 0)
def gather2 (m : MS) (e : Ev) : MS × Int := if (gather1 m e).2 = 0 ∧ e.add = true then addM (gather1 m e).1 e.b else gather1 m e
def gather3 (m : MS) (e : Ev) : MS × Int := if (gather2 m e).2 = 0 ∧ e.field = true then nextM (gather2 m e).1 else gather2 m e
def gatherM (m : MS) (e : Ev) : MS × Int := if (gather3 m e).2 = 0 ∧ e.line = true then lineM (gather3 m e).1 else gather3 m e
theorem beginM_keeps (m : MS) : (beginM m).1.F = m.F ∧ (beginM m).1.record = m.record := by unfold beginM; split <;> exact ⟨rfl, rfl⟩
theorem addM_keeps (m : MS) (b : Int) : (addM m b).1.F = m.F ∧ (addM m b).1.record = m.record := by unfold addM; split <;> exact ⟨rfl, rfl⟩
theorem putM_len (m : MS) : (putM m).record.length = m.record.length + 1 := by simp [putM]
theorem nextM_fst (m : MS) : (nextM m).1 = putM m := by unfold nextM; split <;> (try split) <;> rfl
theorem lineM_fst (m : MS) : (lineM m).1 = putM m := by unfold lineM; split <;> rfl
theorem gather1_keeps (m : MS) (e : Ev) : (gather1 m e).1.F = m.F ∧ (gather1 m e).1.record = m.record := by unfold gather1; split; exact beginM_keeps m; exact ⟨rfl, rfl⟩
theorem gather2_keeps (m : MS) (e : Ev) : (gather2 m e).1.F = m.F ∧ (gather2 m e).1.record = m.record := by
  unfold gather2; split
  · exact ⟨(addM_keeps _ _).1.trans (gather1_keeps m e).1, (addM_keeps _ _).2.trans (gather1_keeps m e).2⟩
  · exact gather1_keeps m e
theorem gather3_keeps (m : MS) (e : Ev) : (gather3 m e).1.F = m.F ∧ (gather3 m e).1.record.length ≤ m.record.length + 1 := by
  unfold gather3; split
  · rw [nextM_fst]; exact ⟨(gather2_keeps m e).1, by rw [putM_len, (gather2_keeps m e).2]; exact Nat.le_refl _⟩
  · exact ⟨(gather2_keeps m e).1, by rw [(gather2_keeps m e).2]; omega⟩
theorem gatherM_keeps (m : MS) (e : Ev) : (gatherM m e).1.F = m.F ∧ (gatherM m e).1.record.length ≤ m.record.length + 2 := by
  unfold gatherM; split
  · rw [lineM_fst]; exact ⟨(gather3_keeps m e).1, by rw [putM_len]; have := (gather3_keeps m e).2; omega⟩
  · exact ⟨(gather3_keeps m e).1, by have := (gather3_keeps m e).2; omega⟩
theorem begin_to (B : Nat) (m : MS) (fv rv : Value) (W : World) (h : MkAt B m fv rv W) : Calls Tryd.prog 58 #[.pointer (some ⟨B, 0, none⟩)] W (MTo B fv rv W (beginM m).1 (.int .i64 (beginM m).2)) :=
  (begin_calls B m fv rv W h).mono fun _ _ ⟨h1, h2, h3⟩ => ⟨h1, _, _, h2, h3.weaken (fun _ _ e => .inl e), NewOr.refl _ _, NewOr.refl _ _⟩
theorem MGo.cast {B : Nat} {m m' : MS} {fv rv fv' rv' : Value} {W W' : World} (e : m = m') (h : MGo B fv rv W m fv' rv' W') : MGo B fv rv W m' fv' rv' W' := e ▸ h
/-- The box of the event stays. -/
theorem box_stays {B bx : Nat} {fv rv fv' rv' : Value} {m m' : MS} {W1 w' : World} {o : Obj} (hm : MkAt B m fv rv W1) (hx : W1.heap[bx]? = some o) (hb : bx ≠ B ∧ fv.ownBlock ≠ some bx ∧ rv.ownBlock ≠ some bx) (hg : MGo B fv rv W1 m' fv' rv' w') : w'.heap[bx]? = some o :=
  (hg.acts.same bx (Array.getElem?_eq_some_iff.1 hx).1 (fun h => h.elim hb.1 (fun h => h.elim hb.2.1 hb.2.2))).trans hx
set_option maxRecDepth 100000 in
set_option maxHeartbeats 4000000 in
theorem gather_calls (B : Nat) (m : MS) (e : Ev) (fv rv : Value) (W : World) (h : MkAt B m fv rv W) (hF : m.F ≤ 2147483648) (hn : m.record.length + 1 ≤ 2147483648) :
    Calls Tryd.prog 53 #[.pointer (some ⟨B, 0, none⟩), .agg e.cells] W (MTo B fv rv W (gatherM m e).1 (.int .i64 (gatherM m e).2)) := by
  obtain ⟨W1, hW1⟩ : ∃ W1, W.alloc (.cells e.cells 77) = W1 := ⟨_, rfl⟩
  have hx : W1.heap[W.heap.size]? = some (.cells e.cells 77 (0, 0)) := by rw [← hW1]; simpa using heap_alloc_new W (.cells e.cells 77)
  have hA1 : Acts (fun _ => False) W W1 := by rw [← hW1]; exact Acts.alloc _ _ _
  have hm1 : MkAt B m fv rv W1 := h.acts hA1 (fun _ _ h => h)
  have hbx : W.heap.size ≠ B ∧ fv.ownBlock ≠ some W.heap.size ∧ rv.ownBlock ≠ some W.heap.size := ⟨by have := h.lt; omega, fun e => by have := row_lt h.frow _ e; omega, fun e => by have := row_lt h.rrow _ e; omega⟩
  have hback : ∀ m' fv' rv' w', MGo B fv rv W1 m' fv' rv' w' → MGo B fv rv W m' fv' rv' w' := fun m' fv' rv' w' hg => ⟨hg.it, (hA1.weaken (fun _ _ h => h.elim)).trans hg.acts (fun _ h => .inl h), fun k hk => (hg.fnew k hk).imp id (fun h => Nat.le_trans hA1.size h), fun k hk => (hg.rnew k hk).imp id (fun h => Nat.le_trans hA1.size h)⟩
  have hg : MGo B fv rv W1 m fv rv W1 := MGo.refl hm1
  obtain ⟨e0, e1, e2, e3, e4, e5⟩ := e
  simp only [Ev.cells] at *
  have x0 := (blk_cell hx 0).trans rfl
  have x1 := (blk_cell hx 1).trans rfl
  have x2 := (blk_cell hx 2).trans rfl
  have x3 := (blk_cell hx 3).trans rfl
  have x5 := (blk_cell hx 5).trans rfl
  go_enter Tryd.func53, Tryd.ntmps53
  cases e0 <;> cases e1 <;> cases e2 <;> cases e3
  all_goals go_wp2_with (first | (go_at_call 58; (with_reducible refine (begin_to B _ _ _ _ hg.it).mono ?_); rintro e w' ⟨rfl, fv', rv', hg'⟩; have hg := MGo.trans hg hg'; have hx' := box_stays hm1 hx hbx hg; have x1 := (blk_cell hx' 1).trans rfl; have x2 := (blk_cell hx' 2).trans rfl; have x3 := (blk_cell hx' 3).trans rfl; have x5 := (blk_cell hx' 5).trans rfl; clear hg' hx') | (go_at_call 59; (with_reducible refine (add_calls B _ _ _ _ _ hg.it (by first | omega | (simp only [(beginM_keeps _).1]; omega))).mono ?_); rintro e w' ⟨rfl, fv', rv', hg'⟩; have hg := MGo.trans hg hg'; have hx' := box_stays hm1 hx hbx hg; have x1 := (blk_cell hx' 1).trans rfl; have x2 := (blk_cell hx' 2).trans rfl; have x3 := (blk_cell hx' 3).trans rfl; have x5 := (blk_cell hx' 5).trans rfl; clear hg' hx') | (go_at_call 60; (with_reducible refine (next_calls B _ _ _ _ hg.it (by first | omega | (simp only [nextM_fst, putM_len, (beginM_keeps _).2, (addM_keeps _ _).2]; omega))).mono ?_); rintro e w' ⟨rfl, fv', rv', hg'⟩; have hg := MGo.trans hg hg'; have hx' := box_stays hm1 hx hbx hg; have x1 := (blk_cell hx' 1).trans rfl; have x2 := (blk_cell hx' 2).trans rfl; have x3 := (blk_cell hx' 3).trans rfl; have x5 := (blk_cell hx' 5).trans rfl; clear hg' hx') | (go_at_call 61; (with_reducible refine (line_calls B _ _ _ _ hg.it (by first | omega | (simp only [nextM_fst, putM_len, (beginM_keeps _).2, (addM_keeps _ _).2]; omega))).mono ?_); rintro e w' ⟨rfl, fv', rv', hg'⟩; have hg := MGo.trans hg hg'; have hx' := box_stays hm1 hx hbx hg; have x1 := (blk_cell hx' 1).trans rfl; have x2 := (blk_cell hx' 2).trans rfl; have x3 := (blk_cell hx' 3).trans rfl; have x5 := (blk_cell hx' 5).trans rfl; clear hg' hx'))
  all_goals go_ret
  all_goals exact ⟨by simp [gatherM, gather3, gather2, gather1, *], _, _, hback _ _ _ _ (MGo.cast (by simp [gatherM, gather3, gather2, gather1, *]) hg)⟩
end Go.Proofs.YtmignbhpofmgeaaDoor.Top
namespace Go.Proofs.YtmignbhpofmgeaaDoor.Top
open Go.RowKit Go.Proofs.YtmignbhpofmgeaaDoorW.PrintWords Go.Proofs.YtmignbhpofmgeaaDoorW.PrintLast Go.Proofs.YtmignbhpofmgeaaDoorW.PrintMore Go.Proofs.YtmignbhpofmgeaaDoor.Iter
set_option linter.unusedVariables false
set_option linter.unusedSimpArgs false
/-- The record is handed on. -/
theorem MkAt.drop {B : Nat} {m : MS} {fv rv : Value} {W : World} (h : MkAt B m fv rv W) : MkAt B { m with record := [] } fv (.slice none 0 0) (W.setCell ⟨B, 5, none⟩ (.slice none 0 0)) ∧ Acts (fun k => k = B) W (W.setCell ⟨B, 5, none⟩ (.slice none 0 0)) :=
  ⟨⟨by rw [blk_set h.obj]; rfl, owns_keep h.frow (fun k e => Below.heap_setCell W _ _ k (fun e' => h.ne.1 (by rw [e]; exact congrArg some e'))), World.ownsRow_nil _ _ _ _⟩, acts_set _ 5 _⟩
def take1 (m : MS) (e : Ev) : MS := if m.stopped = 0 then { (gatherM m e).1 with stopped := (gatherM m e).2 } else m
def handed (m : MS) : MS := { m with record := [], width := if m.count = 0 then (m.record.length : Int) else m.width, count := wrap64 (m.count + 1) }
/-- Take: what it holds then; the record that is handed out; is one; the error. -/
def takeM (m : MS) (e : Ev) : MS × List ByteArray × Bool × Int :=
  if (take1 m e).stopped = 0 ∧ e.record = true then (handed (take1 m e), (take1 m e).record, true, 0) else (take1 m e, [], false, (take1 m e).stopped)
/-- What Take comes to. -/
def TkTo (B : Nat) (m : MS) (ev : Ev) (fv rv : Value) (W : World) (e : Ending) (w' : World) : Prop :=
  ∃ out fv' rv', e = .returned (.tuple #[out, .bool (takeM m ev).2.2.1, .int .i64 (takeM m ev).2.2.2]) ∧ MGo B fv rv W (takeM m ev).1 fv' rv' w' ∧
    w'.ownsRow 0 9 1 out (takeM m ev).2.1.length ((takeM m ev).2.1.map Value.string) ∧ NewOr W rv out ∧ (∀ k, out.ownBlock = some k → rv'.ownBlock ≠ some k)
set_option maxRecDepth 100000 in
set_option maxHeartbeats 4000000 in
theorem take_calls (B : Nat) (m : MS) (e : Ev) (fv rv : Value) (W : World) (h : MkAt B m fv rv W) (hF : m.F ≤ 2147483648) (hn : m.record.length + 1 ≤ 2147483648) :
    Calls Tryd.prog 44 #[.pointer (some ⟨B, 0, none⟩), .agg e.cells] W (TkTo B m e fv rv W) := by
  obtain ⟨W1, hW1⟩ : ∃ W1, W.alloc (.cells e.cells 77) = W1 := ⟨_, rfl⟩
  have hx : W1.heap[W.heap.size]? = some (.cells e.cells 77 (0, 0)) := by rw [← hW1]; simpa using heap_alloc_new W (.cells e.cells 77)
  have hA1 : Acts (fun _ => False) W W1 := by rw [← hW1]; exact Acts.alloc _ _ _
  have hm1 : MkAt B m fv rv W1 := h.acts hA1 (fun _ _ h => h)
  have hbx : W.heap.size ≠ B ∧ fv.ownBlock ≠ some W.heap.size ∧ rv.ownBlock ≠ some W.heap.size := ⟨by have := h.lt; omega, fun e => by have := row_lt h.frow _ e; omega, fun e => by have := row_lt h.rrow _ e; omega⟩
  have hback : ∀ m' fv' rv' w', MGo B fv rv W1 m' fv' rv' w' → MGo B fv rv W m' fv' rv' w' := fun m' fv' rv' w' hg => ⟨hg.it, (hA1.weaken (fun _ _ h => h.elim)).trans hg.acts (fun _ h => .inl h), fun k hk => (hg.fnew k hk).imp id (fun h => Nat.le_trans hA1.size h), fun k hk => (hg.rnew k hk).imp id (fun h => Nat.le_trans hA1.size h)⟩
  have hg : MGo B fv rv W1 m fv rv W1 := MGo.refl hm1
  have c9 := (blk_cell hm1.obj 9).trans rfl
  simp only [MS.cells] at c9
  obtain ⟨e0, e1, e2, e3, e4, e5⟩ := e
  simp only [Ev.cells] at *
  have x0 := (blk_cell hx 0).trans rfl
  have x1 := (blk_cell hx 1).trans rfl
  have x2 := (blk_cell hx 2).trans rfl
  have x3 := (blk_cell hx 3).trans rfl
  have x4 := (blk_cell hx 4).trans rfl
  have x5 := (blk_cell hx 5).trans rfl
  by_cases hs : m.stopped = 0
  · have hgc := gather_calls B m ⟨e0, e1, e2, e3, e4, e5⟩ fv rv W1 hm1 hF hn
    simp only [Ev.cells] at hgc
    obtain ⟨M, r, hMr⟩ : ∃ M r, gatherM m ⟨e0, e1, e2, e3, e4, e5⟩ = (M, r) := ⟨_, _, rfl⟩
    rw [hMr] at hgc
    dsimp only at hgc
    unfold TkTo
    by_cases hr : r = 0
    · subst hr
      cases e4 with
      | false =>
        have ht : takeM m ⟨e0, e1, e2, e3, false, e5⟩ = ({ M with stopped := 0 }, [], false, 0) := by simp [takeM, take1, hs, hMr]
        rw [ht]
        go_enter Tryd.func44, Tryd.ntmps44
        go_wp2_with (go_at_call 53; (with_reducible refine hgc.mono ?_); rintro e w1 ⟨rfl, fv1, rv1, hg1⟩; have hm2 := hg1.it; obtain ⟨ra, rc, rfl⟩ := slice_len hm2.rrow; have hy := box_stays hm1 hx hbx hg1; have d9 := (blk_cell hm2.obj 9).trans rfl; have d5 := (blk_cell hm2.obj 5).trans rfl; have d7 := (blk_cell hm2.obj 7).trans rfl; have d8 := (blk_cell hm2.obj 8).trans rfl; have z9 := blk_frozen hm2.obj 9; have z5 := blk_frozen hm2.obj 5; have z7 := blk_frozen hm2.obj 7; have z8 := blk_frozen hm2.obj 8; simp only [MS.cells] at d9 d5 d7 d8; have y4 := (blk_cell hy 4).trans rfl; clear hgc)
        go_quiet (fail)
        go_wp2
        go_ret3
        have hm3 := hm2.set (m' := { M with stopped := 0 }) 9 (.int .i64 0) rfl rfl rfl; have hg3 : MGo B fv rv W1 { M with stopped := 0 } fv1 _ _ := hg1.trans ⟨hm3, (acts_set (B := B) _ 9 _).weaken (fun _ _ e => .inl e), NewOr.refl _ _, NewOr.refl _ _⟩
        exact ⟨_, _, _, rfl, hback _ _ _ _ (hg3.keep (hg3.it.keep (fun _ _ => rfl)) (Acts.drewN _ _ _)), World.ownsRow_nil _ _ _ _, NewOr.nil _ _ _ _, fun k hk => by cases hk⟩
      | true =>
        have ht : takeM m ⟨e0, e1, e2, e3, true, e5⟩ = (handed { M with stopped := 0 }, M.record, true, 0) := by simp [takeM, take1, hs, hMr]
        rw [ht]
        by_cases hc : M.count = 0
        · go_enter Tryd.func44, Tryd.ntmps44
          go_wp2_with (go_at_call 53; (with_reducible refine hgc.mono ?_); rintro e w1 ⟨rfl, fv1, rv1, hg1⟩; have hm2 := hg1.it; obtain ⟨ra, rc, rfl⟩ := slice_len hm2.rrow; have hy := box_stays hm1 hx hbx hg1; have d9 := (blk_cell hm2.obj 9).trans rfl; have d5 := (blk_cell hm2.obj 5).trans rfl; have d7 := (blk_cell hm2.obj 7).trans rfl; have d8 := (blk_cell hm2.obj 8).trans rfl; have z9 := blk_frozen hm2.obj 9; have z5 := blk_frozen hm2.obj 5; have z7 := blk_frozen hm2.obj 7; have z8 := blk_frozen hm2.obj 8; simp only [MS.cells] at d9 d5 d7 d8; have y4 := (blk_cell hy 4).trans rfl; clear hgc)
          go_ret3
          have hm3 := hm2.set (m' := { M with stopped := 0 }) 9 (.int .i64 0) rfl rfl rfl; have hg3 : MGo B fv rv W1 { M with stopped := 0 } fv1 _ _ := hg1.trans ⟨hm3, (acts_set (B := B) _ 9 _).weaken (fun _ _ e => .inl e), NewOr.refl _ _, NewOr.refl _ _⟩
          have hd := hg3.it.drop
          have hw := hd.1.set (m' := { M with record := [], stopped := 0, width := (M.record.length : Int) }) 8 (.int .i64 M.record.length) rfl rfl rfl
          have hc1 := hw.set (m' := handed { M with stopped := 0 }) 7 (.int .i64 1) (by rw [show handed { M with stopped := 0 } = { M with record := [], stopped := 0, width := (M.record.length : Int), count := 1 } from by simp [handed, hc]; unfold wrap64; decide]; rfl) rfl rfl
          refine ⟨_, _, _, rfl, hback _ _ _ _ (hg3.trans ⟨hc1, (hd.2.trans (acts_set (B := B) _ 8 _) (fun _ h => .inl h)).trans (acts_set (B := B) _ 7 _) (fun _ h => .inl h) |>.weaken (fun _ _ e => .inl e), NewOr.refl _ _, NewOr.nil _ _ _ _⟩), ?_, fun k hk => (hg3.rnew k hk).imp id (fun h => Nat.le_trans hA1.size h), fun k _ h => by cases h⟩
          exact owns_keep hg3.it.rrow (fun k e => ((hd.2.trans (acts_set (B := B) _ 8 _) (fun _ h => .inl h)).trans (acts_set (B := B) _ 7 _) (fun _ h => .inl h)).same k (row_lt hg3.it.rrow k e) (fun e' => hg3.it.ne.2 (by subst e'; exact e)))
        · go_enter Tryd.func44, Tryd.ntmps44
          go_wp2_with (go_at_call 53; (with_reducible refine hgc.mono ?_); rintro e w1 ⟨rfl, fv1, rv1, hg1⟩; have hm2 := hg1.it; obtain ⟨ra, rc, rfl⟩ := slice_len hm2.rrow; have hy := box_stays hm1 hx hbx hg1; have d9 := (blk_cell hm2.obj 9).trans rfl; have d5 := (blk_cell hm2.obj 5).trans rfl; have d7 := (blk_cell hm2.obj 7).trans rfl; have d8 := (blk_cell hm2.obj 8).trans rfl; have z9 := blk_frozen hm2.obj 9; have z5 := blk_frozen hm2.obj 5; have z7 := blk_frozen hm2.obj 7; have z8 := blk_frozen hm2.obj 8; simp only [MS.cells] at d9 d5 d7 d8; have y4 := (blk_cell hy 4).trans rfl; clear hgc)
          go_ret3
          have hm3 := hm2.set (m' := { M with stopped := 0 }) 9 (.int .i64 0) rfl rfl rfl; have hg3 : MGo B fv rv W1 { M with stopped := 0 } fv1 _ _ := hg1.trans ⟨hm3, (acts_set (B := B) _ 9 _).weaken (fun _ _ e => .inl e), NewOr.refl _ _, NewOr.refl _ _⟩
          have hd := hg3.it.drop
          have hc1 := hd.1.set (m' := handed { M with stopped := 0 }) 7 (.int .i64 (wrap64 (M.count + 1))) (by rw [show handed { M with stopped := 0 } = { M with record := [], stopped := 0, count := wrap64 (M.count + 1) } from by simp [handed, hc]]; rfl) rfl rfl
          refine ⟨_, _, _, rfl, hback _ _ _ _ (hg3.trans ⟨hc1, (hd.2.trans (acts_set (B := B) _ 7 _) (fun _ h => .inl h)).weaken (fun _ _ e => .inl e), NewOr.refl _ _, NewOr.nil _ _ _ _⟩), ?_, fun k hk => (hg3.rnew k hk).imp id (fun h => Nat.le_trans hA1.size h), fun k _ h => by cases h⟩
          exact owns_keep hg3.it.rrow (fun k e => (hd.2.trans (acts_set (B := B) _ 7 _) (fun _ h => .inl h)).same k (row_lt hg3.it.rrow k e) (fun e' => hg3.it.ne.2 (by subst e'; exact e)))
    · have ht : takeM m ⟨e0, e1, e2, e3, e4, e5⟩ = ({ M with stopped := r }, [], false, r) := by simp [takeM, take1, hs, hMr, hr]
      rw [ht]
      go_enter Tryd.func44, Tryd.ntmps44
      go_wp2_with (go_at_call 53; (with_reducible refine hgc.mono ?_); rintro e w1 ⟨rfl, fv1, rv1, hg1⟩; have hm2 := hg1.it; obtain ⟨ra, rc, rfl⟩ := slice_len hm2.rrow; have hy := box_stays hm1 hx hbx hg1; have d9 := (blk_cell hm2.obj 9).trans rfl; have d5 := (blk_cell hm2.obj 5).trans rfl; have d7 := (blk_cell hm2.obj 7).trans rfl; have d8 := (blk_cell hm2.obj 8).trans rfl; have z9 := blk_frozen hm2.obj 9; have z5 := blk_frozen hm2.obj 5; have z7 := blk_frozen hm2.obj 7; have z8 := blk_frozen hm2.obj 8; simp only [MS.cells] at d9 d5 d7 d8; have y4 := (blk_cell hy 4).trans rfl; clear hgc)
      go_quiet (fail)
      go_wp2
      go_ret3
      have hm3 := hm2.set (m' := { M with stopped := r }) 9 (.int .i64 r) rfl rfl rfl; have hg3 : MGo B fv rv W1 { M with stopped := r } fv1 _ _ := hg1.trans ⟨hm3, (acts_set (B := B) _ 9 _).weaken (fun _ _ e => .inl e), NewOr.refl _ _, NewOr.refl _ _⟩
      exact ⟨_, _, _, rfl, hback _ _ _ _ (hg3.keep (hg3.it.keep (fun _ _ => rfl)) (Acts.drewN _ _ _)), World.ownsRow_nil _ _ _ _, NewOr.nil _ _ _ _, fun k hk => by cases hk⟩
  · have ht : takeM m ⟨e0, e1, e2, e3, e4, e5⟩ = (m, [], false, m.stopped) := by simp [takeM, take1, hs]
    unfold TkTo
    rw [ht]
    go_enter Tryd.func44, Tryd.ntmps44
    go_wp2
    go_quiet (fail)
    go_wp2
    go_ret3
    exact ⟨_, _, _, rfl, hback _ _ _ _ (hg.keep (hg.it.keep (fun _ _ => rfl)) (Acts.drewN _ _ _)), World.ownsRow_nil _ _ _ _, NewOr.nil _ _ _ _, fun k hk => by cases hk⟩
end Go.Proofs.YtmignbhpofmgeaaDoor.Top
namespace Go.Proofs.YtmignbhpofmgeaaDoor.Top
open Go.RowKit Go.Proofs.YtmignbhpofmgeaaDoorW.PrintWords Go.Proofs.YtmignbhpofmgeaaDoorW.PrintLast Go.Proofs.YtmignbhpofmgeaaDoorW.PrintMore Go.Proofs.YtmignbhpofmgeaaDoor.Iter
set_option linter.unusedVariables false
set_option linter.unusedSimpArgs false
/-- The spans of bytes that go on, by states. -/
def utfTab : List (List (Int × Int × Int)) := [[(0, 127, 0), (194, 223, 1), (224, 224, 4), (225, 236, 2), (237, 237, 5), (238, 239, 2), (240, 240, 6), (241, 243, 3), (244, 244, 7)], [(128, 191, 0)], [(128, 191, 1)], [(128, 191, 2)], [(160, 191, 1)], [(128, 159, 1)], [(144, 191, 2)], [(128, 143, 2)]]
def goesOn (s : Int × Int × Int) (b : Int) : Bool := decide (s.1 ≤ b) && decide (b ≤ s.2.1)
def stepIn (L : List (Int × Int × Int)) (b : Int) : Int × Bool := match L.find? (fun s => goesOn s b) with
  | some s => (s.2.2, true)
  | none => (0, false)
def stepU (i : Nat) (b : Int) : Int × Bool := stepIn (utfTab.getD i []) b
/-- One state's spans lie. -/
structure Spans (n0 : Nat) (i : Nat) (L : List (Int × Int × Int)) (W : World) (g o c : Nat) : Prop where
  low : g < n0
  head : W.cell? ⟨0, i, none⟩ = some (.slice (some ⟨g, o, none⟩) L.length c)
  cap : L.length ≤ c
  from_ : ∀ j s, L[j]? = some s → W.cell? ⟨g, o + j * 3, none⟩ = some (.int .u8 s.1)
  to_ : ∀ j s, L[j]? = some s → W.cell? ⟨g, o + j * 3 + 1, none⟩ = some (.int .u8 s.2.1)
  next_ : ∀ j s, L[j]? = some s → W.cell? ⟨g, o + j * 3 + 2, none⟩ = some (.int .i64 s.2.2)
theorem cell_same {W W' : World} {b o : Nat} (h : W'.heap[b]? = W.heap[b]?) : W'.cell? ⟨b, o, none⟩ = W.cell? ⟨b, o, none⟩ := by simp [World.cell?, h]
theorem Spans.keep {n0 i : Nat} {L : List (Int × Int × Int)} {W W' : World} {g o c : Nat} (h : Spans n0 i L W g o c) (hk : ∀ k, k < n0 → W'.heap[k]? = W.heap[k]?) : Spans n0 i L W' g o c :=
  ⟨h.low, (cell_same (hk 0 (by have := h.low; omega))).trans h.head, h.cap, fun j s hj => (cell_same (hk g h.low)).trans (h.from_ j s hj), fun j s hj => (cell_same (hk g h.low)).trans (h.to_ j s hj), fun j s hj => (cell_same (hk g h.low)).trans (h.next_ j s hj)⟩
/-- The table lies in blocks that are older than n0. -/
def Utf (n0 : Nat) (W : World) : Prop := n0 ≤ W.heap.size ∧ ∀ i, i < 8 → ∃ g o c, Spans n0 i (utfTab.getD i []) W g o c
theorem Utf.keep {n0 : Nat} {W W' : World} (h : Utf n0 W) (hs : W.heap.size ≤ W'.heap.size) (hk : ∀ k, k < n0 → W'.heap[k]? = W.heap[k]?) : Utf n0 W' :=
  ⟨Nat.le_trans h.1 hs, fun i hi => let ⟨g, o, c, hh⟩ := h.2 i hi; ⟨g, o, c, hh.keep hk⟩⟩
theorem Utf.acts {n0 : Nat} {C : Nat → Prop} {W W' : World} (h : Utf n0 W) (ha : Acts C W W') (hc : ∀ k, C k → n0 ≤ k) : Utf n0 W' :=
  h.keep ha.size (fun k hk => ha.same k (Nat.lt_of_lt_of_le hk h.1) (fun h => by have := hc k h; omega))
theorem utfTab_short (i : Nat) : (utfTab.getD i []).length ≤ 9 := by
  rcases i with _ | _ | _ | _ | _ | _ | _ | _ | i <;> first | decide | simp [utfTab]
theorem stepIn_skip {L : List (Int × Int × Int)} {b : Int} {k : Nat} (h : ∀ j s, j < k → L[j]? = some s → goesOn s b = false) (hk : L.length ≤ k) : stepIn L b = (0, false) := by
  unfold stepIn
  rw [List.find?_eq_none.2 (fun s hs => by
    obtain ⟨j, hj, rfl⟩ := List.mem_iff_getElem.1 hs
    rw [h j _ (by omega) (List.getElem?_eq_getElem hj)]; simp)]
theorem stepIn_hit {L : List (Int × Int × Int)} {b : Int} {k : Nat} {s : Int × Int × Int} (h : ∀ j s, j < k → L[j]? = some s → goesOn s b = false) (hs : L[k]? = some s) (hg : goesOn s b = true) : stepIn L b = (s.2.2, true) := by
  obtain ⟨hk, rfl⟩ := List.getElem?_eq_some_iff.1 hs
  have : L.find? (fun s => goesOn s b) = some L[k] := by
    rw [List.find?_eq_some_iff_getElem]
    exact ⟨hg, k, hk, rfl, fun j hj => by rw [h j _ hj (List.getElem?_eq_getElem (by omega))]; rfl⟩
  unfold stepIn
  rw [this]
set_option maxRecDepth 100000 in
set_option maxHeartbeats 4000000 in
theorem step_calls (n0 i : Nat) (b : Int) (W : World) (hU : Utf n0 W) (hi : i < 8) :
    Calls Tryd.prog 25 #[.int .i64 i, .int .u8 b] W (fun e w' => e = .returned (.tuple #[.int .i64 (stepU i b).1, .bool (stepU i b).2]) ∧ Acts (fun _ => False) W w') := by
  obtain ⟨g, o, c, hs⟩ := hU.2 i hi
  have h9 := utfTab_short i
  unfold stepU
  obtain ⟨L, hL⟩ : ∃ L, utfTab.getD i [] = L := ⟨_, rfl⟩
  rw [hL] at hs h9 ⊢
  have hn0 := hU.1
  clear hU hL
  have hh := hs.head
  have HS : Hid (Spans n0 i L W g o c) := hs
  clear hs
  go_enter Tryd.func25, Tryd.ntmps25
  go_wp2
  go_loopw [12] (fun x wl => ∃ k : Nat, k ≤ L.length ∧ x = .int .i64 k ∧ Hid (∀ j s, j < k → L[j]? = some s → goesOn s b = false) ∧ Hid (Acts (fun _ => False) W wl)) (fun x _ => L.length - (intOf x).toNat)
  case atStart => exact ⟨0, Nat.zero_le _, rfl, (fun j _ h => by omega), Acts.refl _ _⟩
  case round =>
    obtain ⟨k, hk, rfl, HN, HA⟩ := hrel
    by_cases hlt : k < L.length
    · obtain ⟨s, hsk⟩ : ∃ s, L[k]? = some s := ⟨_, List.getElem?_eq_getElem hlt⟩
      have hs' := HS.out.keep (W' := wr) (fun k hk => HA.out.same k (by omega) (fun h => h))
      have a1 := hs'.from_ k s hsk
      have a2 := hs'.to_ k s hsk
      have a3 := hs'.next_ k s hsk
      clear hs'
      by_cases hg : goesOn s b = true
      · have hg' := hg
        simp only [goesOn, Bool.and_eq_true, decide_eq_true_eq] at hg'
        obtain ⟨g1, g2⟩ := hg'
        go_wp2
        go_ret2
        rw [stepIn_hit HN.out hsk hg]
        exact ⟨rfl, HA.out.trans (Acts.alloc (fun _ => False) _ _) (fun _ h => .inl h)⟩
      · have hn : goesOn s b = false := by simpa using hg
        have HN2 : Hid (∀ j s, j < k + 1 → L[j]? = some s → goesOn s b = false) := fun j s' hj hs' => by
          by_cases e : j = k
          · subst e; rw [hsk] at hs'; obtain rfl := Option.some.inj hs'; exact hn
          · exact HN.out j s' (by omega) hs'
        have HA2 : ∀ o, Hid (Acts (fun _ => False) W (wr.alloc o)) := fun o => HA.out.trans (Acts.alloc (fun _ => False) _ _) (fun _ h => .inl h)
        clear HN hg
        have hn' : ¬ (s.1 ≤ b ∧ b ≤ s.2.1) := by simpa [goesOn] using hn
        clear hn
        by_cases g1 : s.1 ≤ b
        · have g2 : ¬ b ≤ s.2.1 := fun h => hn' ⟨g1, h⟩
          clear hn'
          go_wp2
          go_roundw
          case rel => exact ⟨k + 1, by omega, by go_num, HN2, HA2 _⟩
          case measure => simp [intOf]; omega
        · clear hn'
          go_wp2
          go_roundw
          case rel => exact ⟨k + 1, by omega, by go_num, HN2, HA2 _⟩
          case measure => simp [intOf]; omega
    · obtain rfl : k = L.length := by omega
      go_wp2
      go_ret2
      rw [stepIn_skip HN.out (Nat.le_refl _)]
      exact ⟨rfl, HA.out⟩
end Go.Proofs.YtmignbhpofmgeaaDoor.Top
namespace Go.Proofs.YtmignbhpofmgeaaDoor.Top
open Go.RowKit Go.Proofs.YtmignbhpofmgeaaDoorW.PrintWords Go.Proofs.YtmignbhpofmgeaaDoorW.PrintLast Go.Proofs.YtmignbhpofmgeaaDoorW.PrintMore Go.Proofs.YtmignbhpofmgeaaDoor.Iter
set_option linter.unusedVariables false
set_option linter.unusedSimpArgs false
/-- Bytes lie in a row of their own, not older than n0. -/
structure Bytes (n0 : Nat) (W : World) (v : Value) (xs : List Int) (g cap : Nat) : Prop where
  val : v = .slice (some ⟨g, 0, none⟩) xs.length cap
  new : n0 ≤ g
  room : xs.length ≤ cap
  row : ∃ (cur : Array Value) (t : TypeId) (fz : Nat × Nat), W.heap[g]? = some (.cells cur t fz) ∧ cap ≤ cur.size ∧ (∀ (i : Nat) (x : Int), xs[i]? = some x → cur[i]? = some (Value.int .u8 x)) ∧ (∀ i : Nat, i < cap → ¬ (fz.1 ≤ i ∧ i < fz.2))
theorem Bytes.lt {n0 : Nat} {W : World} {v : Value} {xs : List Int} {g cap : Nat} (h : Bytes n0 W v xs g cap) : g < W.heap.size := by
  obtain ⟨cur, t, fz, h1, _⟩ := h.row
  exact (Array.getElem?_eq_some_iff.1 h1).1
theorem Bytes.cell {n0 : Nat} {W : World} {v : Value} {xs : List Int} {g cap : Nat} (h : Bytes n0 W v xs g cap) (i : Nat) (x : Int) (hi : xs[i]? = some x) : W.cell? ⟨g, i, none⟩ = some (.int .u8 x) := by
  obtain ⟨cur, t, fz, h1, _, h3, _⟩ := h.row
  simp [World.cell?, h1, h3 i x hi]
theorem Bytes.more {n0 : Nat} {W : World} {v : Value} {xs : List Int} {g cap : Nat} (h : Bytes n0 W v xs g cap) (i : Nat) (hi : i < cap) : (W.cell? ⟨g, i, none⟩).isSome = true ∧ W.frozen? ⟨g, i, none⟩ = false := by
  obtain ⟨cur, t, fz, h1, h2, h3, h4⟩ := h.row
  have := h4 i hi
  have hlt : i < cur.size := by omega
  constructor
  · simp [World.cell?, h1, hlt]
  · simp [World.frozen?, h1]; omega
theorem Bytes.keep {n0 : Nat} {W W' : World} {v : Value} {xs : List Int} {g cap : Nat} (h : Bytes n0 W v xs g cap) (hk : W'.heap[g]? = W.heap[g]?) : Bytes n0 W' v xs g cap :=
  ⟨h.val, h.new, h.room, by rw [hk]; exact h.row⟩
theorem wpList_run {P : Program} {w w1 : World} {ops : Array Oper} {rest : List Oper} {o : Oper} {a : Act} {Q : Exit → Act → World → Prop} (hgd : o.guard = none) (s x : Operand) (t : TypeId) {v : Value}
    (ho : o.op = .call { callee := .builtin .append, args := #[s, x], argTypes := #[t, t] }) (hr : (Builtin.append_ #[t, t] o.type #[a.eval s, a.eval x]).run P w = .ok v w1)
    (h : wpList P ops Q rest (a.put o.dst v) w1) : wpList P ops Q (o :: rest) a w := by
  refine wpList_plain hgd fun K hK => ?_
  unfold Oper.wp execOp
  simp only [ho, resolve, invoke, builtin, Sem.run_bind, Sem.run_pure, Result.andThen_ok, List.map_toArray, List.map_cons, List.map_nil, hr]
  exact hK _ _ h
theorem add_plain (b o j : Nat) : (⟨b, o, none⟩ : Addr).add j = ⟨b, o + j, none⟩ := by unfold Addr.add; split <;> simp_all
/-- One byte more. -/
theorem append_byte (n0 : Nat) (W : World) (v : Value) (xs : List Int) (g cap : Nat) (h : Bytes n0 W v xs g cap) (hn : n0 ≤ W.heap.size) (h3 : xs.length ≤ 3) (b : Nat) (c : Int) (hb : W.cell? ⟨b, 0, none⟩ = some (.int .u8 c)) (ty : TypeId) :
    ∃ v' W' g' cap', (Builtin.append_ #[37, 37] ty #[v, .slice (some ⟨b, 0, none⟩) 1 1]).run Tryd.prog W = .ok v' W' ∧ Bytes n0 W' v' (xs ++ [c]) g' cap' ∧ Acts (fun k => k = g) W W' := by
  obtain ⟨i0, hi, hz0, hz1, hz2⟩ := info_parts elem5
  obtain rfl := h.val
  have hnews : ∀ j u, [Value.int .u8 c][j]? = some u → W.cell? ((⟨b, 0, none⟩ : Addr).add j) = some u := fun j u hj => by
    match j, hj with
    | 0, hj => simp at hj; subst hj; rw [add_plain]; exact hb
    | j + 1, hj => simp at hj
  by_cases hr : xs.length + 1 ≤ cap
  · have hm := h.more xs.length (by omega)
    have hx := run_append_room_cells (P := Tryd.prog) (w := W) 37 ty 5 i0 Tryd.underlying37 hi g 0 xs.length cap ⟨b, 0, none⟩ 1 1 [.int .u8 c] (by rw [hz1]; rfl) hnews (by simp [Value.oneCell']) hr
      (fun j hj => by obtain rfl : j = 0 := by simpa using hj
                      rw [hz1, show 0 + xs.length * 1 + 0 = xs.length by omega]; exact hm.1)
      (fun j hj => by obtain rfl : j = 0 := by simpa using hj
                      rw [hz1, show 0 + xs.length * 1 + 0 = xs.length by omega]; exact hm.2)
    rw [hz1, show 0 + xs.length * 1 = xs.length by omega] at hx
    have e1 : W.setCells g xs.length [Value.int .u8 c] = W.setCell ⟨g, xs.length, none⟩ (.int .u8 c) := rfl
    rw [e1] at hx
    have hA : Acts (fun k => k = g) W (W.setCell ⟨g, xs.length, none⟩ (.int .u8 c)) := Acts.setCell _ _ _ _ rfl
    refine ⟨_, _, g, cap, hx, ⟨by simp, h.new, by simpa using hr, ?_⟩, hA⟩
    obtain ⟨cur, t, fz, h1, h2, h4, h5⟩ := h.row
    refine ⟨cur.setIfInBounds xs.length (.int .u8 c), t, fz, by simp [World.setCell, Array.getElem?_modify, h1], by simpa using h2, fun i x hi => ?_, h5⟩
    rw [Array.getElem?_setIfInBounds]
    rcases Nat.lt_trichotomy i xs.length with hl | hl | hl
    · rw [if_neg (by omega)]; rw [List.getElem?_append_left hl] at hi; exact h4 i x hi
    · subst hl
      simp at hi
      subst hi
      rw [if_pos rfl, if_pos (by omega)]
    · rw [List.getElem?_eq_none (by simp; omega)] at hi; cases hi
  · have hr' : cap < xs.length + 1 := by omega
    obtain ⟨v', w', h1, h2, h3'⟩ := run_append_arg_grows (P := Tryd.prog) (w := W) 37 ty 5 i0 (.int .u8 0) 1 1 Tryd.underlying37 hi hz0 hz1 hz2 rfl (by decide) ⟨g, 0, none⟩ xs.length cap (xs.map (Value.int .u8)) (by simp)
      (fun j u hj => by
        rw [List.getElem?_map] at hj
        cases hx : xs[j]? with
        | none => rw [hx] at hj; cases hj
        | some x => rw [hx] at hj; cases hj; rw [add_plain, Nat.zero_add]; exact h.cell j x hx) ⟨b, 0, none⟩ 1 1 [.int .u8 c] rfl hnews hr' (by simp [maxLen]; omega) (by omega)
    rcases h2.2 with ⟨_, h0⟩ | ⟨g', cap', cur, rfl, k1, k2, k3, k4, k5, k6⟩
    · omega
    refine ⟨_, _, g', cap', h1, ⟨by simp, Nat.le_trans hn k1, by simpa using k3, cur, 5, (0, 0), k2, by omega, fun i x hi => ?_, fun i _ => by omega⟩, (Acts.grown (C := fun k => k = g) h3' (fun r hr => by cases hr))⟩
    have hil : i < xs.length + 1 := by
      have := (List.getElem?_eq_some_iff.1 hi).1; simpa using this
    rw [← Array.getElem?_toList, ← List.getElem?_take_of_lt (i := i) (j := (xs.length + 1) * 1) (by omega), k6]
    have e2 : xs.map (Value.int .u8) ++ [Value.int .u8 c] = (xs ++ [c]).map (Value.int .u8) := by simp
    rw [e2, List.getElem?_map, hi]; rfl
theorem equalIn_nil (d g n c : Nat) (W : World) : (Op.equalIn (d + 1) 37 (.slice (some ⟨g, 0, none⟩) n c) (.slice none 0 0)).run Tryd.prog W = .ok false W := by
  rw [Op.equalIn]
  simp [run_underlying Tryd.underlying37]
theorem eql_nil (g n c : Nat) (W : World) : (binOp BinOp.eql 37 (.slice (some ⟨g, 0, none⟩) n c) (.slice none 0 0)).run Tryd.prog W = .ok (.bool false) W := by
  have h := equalIn_nil 9999 g n c W
  simp only [binOp, Op.equal]
  rw [show Op.maxDepth = 9999 + 1 from rfl]
  simp only [Sem.run_bind, h, Result.andThen_ok, Sem.run_pure]
set_option maxRecDepth 100000 in
set_option maxHeartbeats 2000000 in
theorem clone_calls (g : Nat) (c : Int) (W : World) (hc : W.cell? ⟨g, 0, none⟩ = some (.int .u8 c)) :
    Calls Tryd.prog 43 #[.slice (some ⟨g, 0, none⟩) 1 1] W (fun e w' => ∃ v' g' cap', e = .returned v' ∧ Bytes W.heap.size w' v' [c] g' cap' ∧ Acts (fun _ => False) W w') := by
  have hgl : g < W.heap.size := by
    rcases Nat.lt_or_ge g W.heap.size with h | h
    · exact h
    · simp [World.cell?, Array.getElem?_eq_none h] at hc
  have he := fun w' => eql_nil g 1 1 w'
  obtain ⟨i0, hi, hz0, hz1, hz2⟩ := info_parts elem5
  have hA0 : Acts (fun _ => False) W (W.alloc (.cells #[] 5)) := Acts.alloc _ _ _
  have hc' : (W.alloc (.cells #[] 5)).cell? ⟨g, 0, none⟩ = some (.int .u8 c) := (cell_same (hA0.same g hgl (fun h => h))).trans hc
  obtain ⟨v', w1, h1, h2, h3⟩ := run_append_arg_grows (P := Tryd.prog) (w := W.alloc (.cells #[] 5)) 37 37 5 i0 (.int .u8 0) 1 1 Tryd.underlying37 hi hz0 hz1 hz2 rfl (by decide) ⟨W.heap.size, 0, none⟩ 0 0 [] (by simp)
      (fun j u hj => by simp at hj) ⟨g, 0, none⟩ 1 1 [.int .u8 c] rfl (fun j u hj => by
        match j, hj with
        | 0, hj => simp at hj; subst hj; rw [add_plain]; exact hc'
        | j + 1, hj => simp at hj) (by omega) (by simp [maxLen]) (by omega)
  have hF : ∃ g' cap', Bytes W.heap.size w1 v' [c] g' cap' := by
    rcases h2.2 with ⟨_, h0⟩ | ⟨g', cap', cur, rfl, k1, k2, k3, k4, k5, k6⟩
    · omega
    refine ⟨g', cap', ⟨by simp, Nat.le_trans hA0.size k1, by simpa using k3, cur, 5, (0, 0), k2, by omega, fun i x hi => ?_, fun i _ => by omega⟩⟩
    have hil : i < 1 := by
      have := (List.getElem?_eq_some_iff.1 hi).1; simpa using this
    rw [← Array.getElem?_toList, ← List.getElem?_take_of_lt (i := i) (j := (0 + 1) * 1) (by omega), k6]
    obtain rfl : i = 0 := by omega
    simp at hi
    subst hi
    rfl
  have hA : Acts (fun _ => False) W w1 := hA0.trans (Acts.grown (C := fun _ => False) h3 (fun r hr => by cases hr)) (fun _ h => .inl h)
  obtain ⟨g', cap', hB⟩ := hF
  clear h2 h3 hA0 hc'
  go_enter Tryd.func43, Tryd.ntmps43
  go_wp2_with (at_builtin; refine wpList_run rfl _ _ 37 rfl h1 ?_)
  go_ret
  exact ⟨_, _, _, rfl, hB, hA⟩
/-- What a Stripper holds. -/
structure SS where
  held : Int
  over : Bool
  had : Bool
  closed : Bool
def SS.cells (s : SS) : Array Value := #[.int .i64 s.held, .bool s.over, .bool s.had, .bool s.closed]
def SAt (S : Nat) (s : SS) (W : World) : Prop := W.heap[S]? = some (.cells s.cells 98 (0, 0))
theorem SAt.lt {S : Nat} {s : SS} {W : World} (h : SAt S s W) : S < W.heap.size := (Array.getElem?_eq_some_iff.1 h).1
theorem SAt.set {S : Nat} {s s' : SS} {W : World} (h : SAt S s W) (j : Nat) (v : Value) (hc : s.cells.setIfInBounds j v = s'.cells) : SAt S s' (W.setCell ⟨S, j, none⟩ v) := by
  unfold SAt
  rw [blk_set h, hc]
theorem SAt.keep {S : Nat} {s : SS} {W W' : World} (h : SAt S s W) (hk : W'.heap[S]? = W.heap[S]?) : SAt S s W' := hk.trans h
def bomMark : List Int := [239, 187, 191]
def feedS (s : SS) (c : Int) : SS × List Int :=
  if s.closed = true then (s, []) else if s.over = true then (s, [c]) else
  if c = bomMark.getD s.held.toNat 0 then (if s.held = 2 then { s with held := 0, over := true, had := true } else { s with held := s.held + 1 }, [])
  else ({ s with held := 0, over := true }, bomMark.take s.held.toNat ++ [c])
def closeS (s : SS) : SS × List Int := ({ s with held := 0, over := true, closed := true }, bomMark.take s.held.toNat)
theorem feedS_held (s : SS) (c : Int) (h0 : 0 ≤ s.held) (h2 : s.held ≤ 2) : 0 ≤ (feedS s c).1.held ∧ (feedS s c).1.held ≤ 2 := by
  unfold feedS
  split
  · exact ⟨h0, h2⟩
  split
  · exact ⟨h0, h2⟩
  split
  · split <;> (simp only; omega)
  · exact ⟨Int.le_refl _, by show (0 : Int) ≤ 2; decide⟩
theorem mark_bytes (k : Nat) (hk : k ≤ 2) : ((⟨#[239, 187, 191]⟩ : ByteArray).extract 0 k).data.toList.map (fun b => (b.toNat : Int)) = bomMark.take k := by
  rcases k with _ | _ | _ | k <;> first | decide | omega
theorem acts_bytesWorld (W : World) (e : TypeId) (s : ByteArray) : Acts (fun _ => False) W (Lib.bytesWorld W e s) :=
  ⟨rfl, rfl, rfl, by rw [Lib.bytesWorld_size]; omega, fun k hk _ => Lib.bytesWorld_at_old W e s k hk⟩
theorem bytes_conv (W : World) (s : ByteArray) (xs : List Int) (h : s.data.toList.map (fun b => (b.toNat : Int)) = xs) :
    Bytes W.heap.size (Lib.bytesWorld W 5 s) (.slice (some ⟨W.heap.size, 0, none⟩) s.size (grownCap W s.size 0 5)) xs W.heap.size (grownCap W s.size 0 5) := by
  have hl : xs.length = s.size := by rw [← h, List.length_map, Array.length_toList]; rfl
  have hge : s.size ≤ grownCap W s.size 0 5 := grownCap_ge W s.size 0 5
  have hsz : (Lib.bytesCells W 5 s).size = grownCap W s.size 0 5 := by
    simp only [Lib.bytesCells, Array.size_append, Array.size_map, Array.size_replicate]
    have : s.data.size = s.size := rfl
    omega
  refine ⟨by rw [hl], Nat.le_refl _, by rw [hl]; exact hge, _, _, _, Lib.bytesWorld_at_new W 5 s, by omega, fun i x hi => ?_, fun i hi => by omega⟩
  have hi2 : i < s.data.toList.length := by
    have := (List.getElem?_eq_some_iff.1 hi).1
    rw [← h] at this; simpa using this
  have hi3 : i < s.data.size := by simpa using hi2
  rw [← h, List.getElem?_map] at hi
  simp only [Lib.bytesCells]
  rw [Array.getElem?_append_left (by simpa using hi3)]
  simp at hi ⊢
  obtain ⟨b, hb, rfl⟩ := hi
  exact ⟨b, hb, rfl⟩
set_option maxRecDepth 100000 in
set_option maxHeartbeats 2000000 in
theorem close_calls (S : Nat) (s : SS) (W : World) (h : SAt S s W) (h0 : 0 ≤ s.held) (h2 : s.held ≤ 2) :
    Calls Tryd.prog 27 #[.pointer (some ⟨S, 0, none⟩)] W (fun e w' => ∃ v' g' cap', e = .returned v' ∧ Bytes W.heap.size w' v' (closeS s).2 g' cap' ∧ SAt S (closeS s).1 w' ∧ Acts (fun k => k = S) W w') := by
  have c0 := (blk_cell h 0).trans rfl
  simp only [SS.cells] at c0
  have hcut : ∀ w', (Instr.slice 9 (.string ⟨#[239, 187, 191]⟩) none (some (.int .i64 s.held)) none).run Tryd.prog w' = .ok (.string ((⟨#[239, 187, 191]⟩ : ByteArray).extract 0 s.held.toNat)) w' := fun w' => run_slice_string_h (P := Tryd.prog) (w := w') (s := ⟨#[239, 187, 191]⟩) (t := 9) (ht := by kernel_rfl) (kh := .i64) (h := s.held) h0 (by rw [show (⟨#[239, 187, 191]⟩ : ByteArray).size = 3 from rfl]; omega)
  have hk : s.held.toNat ≤ 2 := by omega
  obtain ⟨m, hm⟩ : ∃ m, (⟨#[239, 187, 191]⟩ : ByteArray).extract 0 s.held.toNat = m := ⟨_, rfl⟩
  rw [hm] at hcut
  have hB := bytes_conv W m (bomMark.take s.held.toNat) (by rw [← hm]; exact mark_bytes _ hk)
  have hA := acts_bytesWorld W 5 m
  have hconv := Lib.run_convert_string_bytes (P := Tryd.prog) W 9 37 5 m (u := .string) (by kernel_rfl) Tryd.underlying37 (by kernel_rfl)
  obtain ⟨v, hv⟩ : ∃ v, Value.slice (some ⟨W.heap.size, 0, none⟩) m.size (grownCap W m.size 0 5) = v := ⟨_, rfl⟩
  obtain ⟨w1, hw⟩ : ∃ w1, Lib.bytesWorld W 5 m = w1 := ⟨_, rfl⟩
  rw [hv, hw] at hB hconv
  rw [hw] at hA
  clear hv hw hm
  have h1 : SAt S s w1 := h.keep (hA.same S h.lt (fun h => h))
  have z0 := blk_frozen h1 0
  have z1 := blk_frozen h1 1
  have z3 := blk_frozen h1 3
  have d0 := (blk_cell h1 0).trans rfl
  have d1 := (blk_cell h1 1).trans rfl
  have d3 := (blk_cell h1 3).trans rfl
  simp only [SS.cells] at d0 d1 d3
  go_enter Tryd.func27, Tryd.ntmps27
  go_wp2
  go_ret
  have k1 := h1.set (s' := { s with held := 0 }) 0 (.int .i64 0) rfl
  have k2 := k1.set (s' := { s with held := 0, over := true }) 1 (.bool true) rfl
  have k3 := k2.set (s' := (closeS s).1) 3 (.bool true) rfl
  have hA3 : Acts (fun k => k = S) w1 _ := ((acts_set (B := S) w1 0 (.int .i64 0)).trans (acts_set (B := S) _ 1 (.bool true)) (fun _ h => .inl h)).trans (acts_set (B := S) _ 3 (.bool true)) (fun _ h => .inl h)
  exact ⟨_, _, _, rfl, hB.keep (hA3.same _ hB.lt (fun e => by have := h.lt; omega)), k3, (hA.weaken (fun _ _ h => h.elim)).trans hA3 (fun _ h => .inl h)⟩
/-- Bytes that are handed on. -/
def Handed (n0 : Nat) (W : World) (v : Value) (xs : List Int) : Prop := (xs = [] ∧ v = .slice none 0 0) ∨ ∃ g cap, Bytes n0 W v xs g cap
def FdTo (S : Nat) (s : SS) (c : Int) (W : World) (e : Ending) (w' : World) : Prop :=
  ∃ v', e = .returned v' ∧ Handed W.heap.size w' v' (feedS s c).2 ∧ SAt S (feedS s c).1 w' ∧ Acts (fun k => k = S) W w'
set_option maxRecDepth 100000 in
set_option maxHeartbeats 4000000 in
theorem feed_calls (S : Nat) (s : SS) (W : World) (h : SAt S s W) (h0 : 0 ≤ s.held) (h2 : s.held ≤ 2) (g : Nat) (c : Int) (hc : W.cell? ⟨g, 0, none⟩ = some (.int .u8 c)) (hne : g ≠ S) :
    Calls Tryd.prog 29 #[.pointer (some ⟨S, 0, none⟩), .slice (some ⟨g, 0, none⟩) 1 1] W (FdTo S s c W) := by
  obtain ⟨held, over, had, closed⟩ := s
  have c0 := (blk_cell h 0).trans rfl
  have c1 := (blk_cell h 1).trans rfl
  have c2 := (blk_cell h 2).trans rfl
  have c3 := (blk_cell h 3).trans rfl
  simp only [SS.cells] at c0 c1 c2 c3 h0 h2
  cases closed with
  | true =>
    go_enter Tryd.func29, Tryd.ntmps29
    go_wp2
    go_ret
    exact ⟨_, rfl, .inl ⟨rfl, rfl⟩, h, Acts.refl _ _⟩
  | false =>
    cases over with
    | true =>
      have hcl := clone_calls g c W hc
      go_enter Tryd.func29, Tryd.ntmps29
      go_wp2
      go_loopw [14] (fun y wl => y = .int .i64 0 ∧ wl = W) (fun y _ => 1 - (intOf y).toNat)
      case atStart => exact ⟨rfl, rfl⟩
      case round =>
        obtain ⟨rfl, rfl⟩ := hrel
        go_wp2_with (go_at_call 43; (with_reducible refine hcl.mono ?_); rintro e w1 ⟨v', g', cap', rfl, hB, hA⟩)
        go_ret
        exact ⟨_, rfl, .inr ⟨_, _, hB⟩, h.keep (hA.same S h.lt (fun h => h)), hA.weaken (fun _ _ h => h.elim)⟩
    | false =>
      have hcut : ∀ w', (Instr.slice 9 (.string ⟨#[239, 187, 191]⟩) none (some (.int .i64 held)) none).run Tryd.prog w' = .ok (.string ((⟨#[239, 187, 191]⟩ : ByteArray).extract 0 held.toNat)) w' := fun w' => run_slice_string_h (P := Tryd.prog) (w := w') (s := ⟨#[239, 187, 191]⟩) (t := 9) (ht := by kernel_rfl) (kh := .i64) (h := held) h0 (by rw [show (⟨#[239, 187, 191]⟩ : ByteArray).size = 3 from rfl]; omega)
      have hidx : ∀ w', (Instr.index 9 (.string ⟨#[239, 187, 191]⟩) (.int .i64 held)).run Tryd.prog w' = .ok (.int .u8 (bomMark.getD held.toNat 0)) w' := fun w' => by
        rw [run_index_string (P := Tryd.prog) w' 9 _ .i64 held (by kernel_rfl)]
        have : held = 0 ∨ held = 1 ∨ held = 2 := by omega
        rcases this with rfl | rfl | rfl <;> rfl
      have hk : held.toNat ≤ 2 := by omega
      by_cases hq : c = bomMark.getD held.toNat 0
      · have e3 : held = 0 ∨ held = 1 ∨ held = 2 := by omega
        rw [← hq] at hidx
        have e : feedS ⟨held, false, had, false⟩ c = (if held = 2 then ⟨0, true, true, false⟩ else ⟨held + 1, false, had, false⟩, []) := by simp only [feedS]; rw [if_neg (by simp), if_neg (by simp), if_pos hq]
        unfold FdTo
        rw [e]
        clear e hq
        have z0 := blk_frozen h 0
        have z1 := blk_frozen h 1
        have z2 := blk_frozen h 2
        have hS : Hid (SAt S _ W) := h
        clear h
        rcases e3 with rfl | rfl | rfl
        all_goals go_enter Tryd.func29, Tryd.ntmps29
        all_goals go_wp2
        · go_loopw [14] (fun y wl => (y = .int .i64 0 ∧ wl = W) ∨ (y = .int .i64 1 ∧ Hid (SAt S ⟨1, false, had, false⟩ wl) ∧ Hid (Acts (fun k => k = S) W wl))) (fun y _ => 1 - (intOf y).toNat)
          case atStart => exact .inl ⟨rfl, rfl⟩
          case round =>
            rcases hrel with ⟨rfl, rfl⟩ | ⟨rfl, HS, HA⟩
            · go_wp2
              go_roundw
              case rel => exact .inr ⟨by go_num, hS.out.set (s' := ⟨1, false, had, false⟩) 0 (.int .i64 1) rfl, acts_set _ _ _⟩
              case measure => simp [intOf]
            · go_wp2
              go_ret
              exact ⟨_, rfl, .inl ⟨rfl, rfl⟩, HS.out, HA.out⟩
        · go_loopw [14] (fun y wl => (y = .int .i64 0 ∧ wl = W) ∨ (y = .int .i64 1 ∧ Hid (SAt S ⟨2, false, had, false⟩ wl) ∧ Hid (Acts (fun k => k = S) W wl))) (fun y _ => 1 - (intOf y).toNat)
          case atStart => exact .inl ⟨rfl, rfl⟩
          case round =>
            rcases hrel with ⟨rfl, rfl⟩ | ⟨rfl, HS, HA⟩
            · go_wp2
              go_roundw
              case rel => exact .inr ⟨by go_num, hS.out.set (s' := ⟨2, false, had, false⟩) 0 (.int .i64 2) rfl, acts_set _ _ _⟩
              case measure => simp [intOf]
            · go_wp2
              go_ret
              exact ⟨_, rfl, .inl ⟨rfl, rfl⟩, HS.out, HA.out⟩
        · go_loopw [14] (fun y wl => (y = .int .i64 0 ∧ wl = W) ∨ (y = .int .i64 1 ∧ Hid (SAt S ⟨0, true, true, false⟩ wl) ∧ Hid (Acts (fun k => k = S) W wl))) (fun y _ => 1 - (intOf y).toNat)
          case atStart => exact .inl ⟨rfl, rfl⟩
          case round =>
            rcases hrel with ⟨rfl, rfl⟩ | ⟨rfl, HS, HA⟩
            · go_wp2
              go_roundw
              case rel =>
                have k1 := hS.out.set (s' := ⟨3, false, had, false⟩) 0 (.int .i64 3) rfl
                have k2 := k1.set (s' := ⟨0, false, had, false⟩) 0 (.int .i64 0) rfl
                have k3 := k2.set (s' := ⟨0, true, had, false⟩) 1 (.bool true) rfl
                have k4 := k3.set (s' := ⟨0, true, true, false⟩) 2 (.bool true) rfl
                exact .inr ⟨by go_num, k4, (((acts_set (B := S) _ 0 _).trans (acts_set (B := S) _ 0 _) (fun _ h => .inl h)).trans (acts_set (B := S) _ 1 _) (fun _ h => .inl h)).trans (acts_set (B := S) _ 2 _) (fun _ h => .inl h)⟩
              case measure => simp [intOf]
            · go_wp2
              go_ret
              exact ⟨_, rfl, .inl ⟨rfl, rfl⟩, HS.out, HA.out⟩
      · obtain ⟨m, hm⟩ : ∃ m, (⟨#[239, 187, 191]⟩ : ByteArray).extract 0 held.toNat = m := ⟨_, rfl⟩
        rw [hm] at hcut
        have hB := bytes_conv W.drew m (bomMark.take held.toNat) (by rw [← hm]; exact mark_bytes _ hk)
        have hA : Acts (fun _ => False) W (Lib.bytesWorld W.drew 5 m) := (Acts.drewN (fun _ => False) W 1).trans (acts_bytesWorld W.drew 5 m) (fun _ h => .inl h)
        have hconv := Lib.run_convert_string_bytes (P := Tryd.prog) W.drew 9 37 5 m (u := .string) (by kernel_rfl) Tryd.underlying37 (by kernel_rfl)
        obtain ⟨v1, hv⟩ : ∃ v, Value.slice (some ⟨W.drew.heap.size, 0, none⟩) m.size (grownCap W.drew m.size 0 5) = v := ⟨_, rfl⟩
        obtain ⟨w1, hw⟩ : ∃ w1, Lib.bytesWorld W.drew 5 m = w1 := ⟨_, rfl⟩
        rw [hv, hw] at hB hconv
        rw [hw] at hA
        clear hv hw hm
        have hgl : g < W.heap.size := by
          rcases Nat.lt_or_ge g W.heap.size with h | h
          · exact h
          · simp [World.cell?, Array.getElem?_eq_none h] at hc
        have h1 : SAt S ⟨held, false, had, false⟩ w1 := h.keep (hA.same S h.lt (fun h => h))
        have hc1 : w1.cell? ⟨g, 0, none⟩ = some (.int .u8 c) := (cell_same (hA.same g hgl (fun h => h))).trans hc
        obtain ⟨v2, w2, g2, cap2, hr, hB2, hA2⟩ := append_byte W.heap.size w1 v1 _ _ _ hB hA.size (by simp [bomMark]; omega) g c hc1 37
        have hS2 : S ≠ W.drew.heap.size := Nat.ne_of_lt h.lt
        have h2x : SAt S ⟨held, false, had, false⟩ w2 := h1.keep (hA2.same S h1.lt hS2)
        have hA3 : Acts (fun k => k = S) W w2 := (hA.weaken (fun _ _ h => h.elim)).trans hA2 (fun j e => .inr (by subst e; exact Nat.le_refl W.heap.size))
        have e : feedS ⟨held, false, had, false⟩ c = (⟨0, true, had, false⟩, bomMark.take held.toNat ++ [c]) := by simp only [feedS]; rw [if_neg (by simp), if_neg (by simp), if_neg hq]
        obtain ⟨q, hq0⟩ : ∃ q, bomMark.getD held.toNat 0 = q := ⟨_, rfl⟩
        rw [hq0] at hq hidx
        clear hq0
        unfold FdTo
        rw [e]
        clear e hB hA hA2 hc1 hgl
        have z0 := blk_frozen h2x 0
        have z1 := blk_frozen h2x 1
        have d0 := (blk_cell h2x 0).trans rfl
        have d1 := (blk_cell h2x 1).trans rfl
        simp only [SS.cells] at d0 d1
        go_enter Tryd.func29, Tryd.ntmps29
        go_wp2
        go_loopw [14] (fun y wl => y = .int .i64 0 ∧ wl = W) (fun y _ => 1 - (intOf y).toNat)
        case atStart => exact ⟨rfl, rfl⟩
        case round =>
          obtain ⟨rfl, rfl⟩ := hrel
          go_wp2
          refine start_ (n := 11) (S := fun w' => SAt S ⟨held, false, had, false⟩ w') (ds := []) #[false, false, false, false, false, false, false, false, false, false, false] (by kernel_rfl) rfl rfl (h) (fun hHeld => ?_)
          refine pure_ (i := 0) (N := some 36) (v := ?_) (a' := ?_) #[true, false, false, false, false, false, false, false, false, false, false] rfl rfl (by kernel_rfl) (fun _ _ _ h => h) (Or.inl ⟨by rfl, ?_⟩) ?_ ?_
          rotate_left
          · intro w'
            go_simp
            with_reducible rfl
          rotate_left
          · simp only [Act.put, List.setIfInBounds_toArray, List.set_cons_zero, List.set_cons_succ]
            rfl
          refine pure_ (i := 1) (N := some 37) (v := ?_) (a' := ?_) #[true, true, false, false, false, false, false, false, false, false, false] rfl rfl (by kernel_rfl) (fun _ _ _ h => h) (Or.inl ⟨by rfl, ?_⟩) ?_ ?_
          rotate_left
          · intro w'
            go_simp
            with_reducible rfl
          rotate_left
          · simp only [Act.put, List.setIfInBounds_toArray, List.set_cons_zero, List.set_cons_succ]
            rfl
          refine pure_ (i := 2) (N := some 38) (v := ?_) (a' := ?_) #[true, true, true, false, false, false, false, false, false, false, false] rfl rfl (by kernel_rfl) (fun _ _ _ h => h) (Or.inl ⟨by rfl, ?_⟩) ?_ ?_
          rotate_left
          · intro w'
            go_simp
            with_reducible rfl
          rotate_left
          · simp only [Act.put, List.setIfInBounds_toArray, List.set_cons_zero, List.set_cons_succ]
            rfl
          refine take_ (i := 3) (N := some 39) (v := ?_) (a' := ?_) #[true, true, true, true, false, false, false, false, false, false, false] rfl rfl (by kernel_rfl) (fun _ _ _ h => h) (Or.inl ⟨by rfl, ?_⟩) hHeld ?_ ?_
          rotate_left
          · intro w' s0
            have c := (blk_cell s0 0).trans rfl
            simp only [SS.cells] at c
            go_simp
            with_reducible rfl
          rotate_left
          · simp only [Act.put, List.setIfInBounds_toArray, List.set_cons_zero, List.set_cons_succ]
            rfl
          refine pure_ (i := 4) (N := some 40) (v := ?_) (a' := ?_) #[true, true, true, true, true, false, false, false, false, false, false] rfl rfl (by kernel_rfl) (fun _ _ _ h => h) (Or.inl ⟨by rfl, ?_⟩) ?_ ?_
          rotate_left
          · intro w'
            go_simp
            with_reducible rfl
          rotate_left
          · simp only [Act.put, List.setIfInBounds_toArray, List.set_cons_zero, List.set_cons_succ]
            rfl
          refine pure_ (i := 6) (N := some 42) (v := ?_) (a' := ?_) #[true, true, true, true, true, false, true, false, false, false, false] rfl rfl (by kernel_rfl) (fun _ _ _ h => h) (Or.inl ⟨by rfl, ?_⟩) ?_ ?_
          rotate_left
          · intro w'
            go_simp
            with_reducible rfl
          rotate_left
          · simp only [Act.put, List.setIfInBounds_toArray, List.set_cons_zero, List.set_cons_succ]
            rfl
          refine pure_ (i := 7) (N := some 43) (v := ?_) (a' := ?_) #[true, true, true, true, true, false, true, true, false, false, false] rfl rfl (by kernel_rfl) (fun _ _ _ h => h) (Or.inl ⟨by rfl, ?_⟩) ?_ ?_
          rotate_left
          · intro w'
            go_simp
            with_reducible rfl
          rotate_left
          · simp only [Act.put, List.setIfInBounds_toArray, List.set_cons_zero, List.set_cons_succ]
            rfl
          refine pure_ (i := 8) (N := some 44) (v := ?_) (a' := ?_) #[true, true, true, true, true, false, true, true, true, false, false] rfl rfl (by kernel_rfl) (fun _ _ _ h => h) (Or.inl ⟨by rfl, ?_⟩) ?_ ?_
          rotate_left
          · intro w'
            go_simp
            with_reducible rfl
          rotate_left
          · simp only [Act.put, List.setIfInBounds_toArray, List.set_cons_zero, List.set_cons_succ]
            rfl
          refine one_ (i := 5) (N := some 41) #[true, true, true, true, true, true, true, true, true, false, false] rfl rfl (by kernel_rfl) (by decide) (fun K hK => ?_)
          refine value_ (w1 := w1) (v := v1) (by rfl) rfl ?_ ?_
          · go_simp
          refine hK.out _ _ (h1) (fun hHeld => ?_)
          clear hK K
          refine norm_ (a' := ?_) ?_ ?_
          rotate_left
          · show Act.put _ (some 41) _ = _
            simp only [Act.put, List.setIfInBounds_toArray, List.set_cons_zero, List.set_cons_succ]
            rfl
          refine one_ (i := 9) (N := some 45) #[true, true, true, true, true, true, true, true, true, true, false] rfl rfl (by kernel_rfl) (by decide) (fun K hK => ?_)
          refine value_ (w1 := w2) (v := v2) (by rfl) rfl ?_ ?_
          · exact run_op_append rfl hr
          refine hK.out _ _ (h2x) (fun hHeld => ?_)
          clear hK K
          refine norm_ (a' := ?_) ?_ ?_
          rotate_left
          · show Act.put _ (some 45) _ = _
            simp only [Act.put, List.setIfInBounds_toArray, List.set_cons_zero, List.set_cons_succ]
            rfl
          refine pure_ (i := 10) (N := some 7) (v := ?_) (a' := ?_) #[true, true, true, true, true, true, true, true, true, true, true] rfl rfl (by kernel_rfl) (fun _ _ _ h => h) (Or.inl ⟨by rfl, ?_⟩) ?_ ?_
          rotate_left
          · intro w'
            go_simp
            with_reducible rfl
          rotate_left
          · simp only [Act.put, List.setIfInBounds_toArray, List.set_cons_zero, List.set_cons_succ]
            rfl
          refine done_ (by kernel_rfl) ?_
          clear hHeld
          go_wp2
          go_ret
          have k1 := h2x.set (s' := ⟨0, false, had, false⟩) 0 (.int .i64 0) rfl
          have k2 := k1.set (s' := ⟨0, true, had, false⟩) 1 (.bool true) rfl
          have hA5 : Acts (fun k => k = S) w2 _ := (acts_set (B := S) w2 0 (.int .i64 0)).trans (acts_set (B := S) _ 1 (.bool true)) (fun _ h => .inl h)
          exact ⟨_, rfl, .inr ⟨_, _, hB2.keep (hA5.same _ hB2.lt (fun e => by have := hB2.new; have := h.lt; omega))⟩, k2, hA3.trans hA5 (fun _ h => .inl h)⟩
end Go.Proofs.YtmignbhpofmgeaaDoor.Top
namespace Go.Proofs.YtmignbhpofmgeaaDoor.Top
open Go.RowKit Go.Proofs.YtmignbhpofmgeaaDoorW.PrintWords Go.Proofs.YtmignbhpofmgeaaDoorW.PrintLast Go.Proofs.YtmignbhpofmgeaaDoorW.PrintMore Go.Proofs.YtmignbhpofmgeaaDoor.Iter
set_option linter.unusedVariables false
set_option linter.unusedSimpArgs false
/-- A span as the row lists it. -/
def spanD (s : Int × Int × Int) : DataW Unit := .agg [.lit (.int .u8 s.1), .lit (.int .u8 s.2.1), .lit (.int .i64 s.2.2)]
theorem cells99 : Tryd.prog.cellsOf 99 = 1 := by kernel_rfl
theorem cells100 : Tryd.prog.cellsOf 100 = 8 := by kernel_rfl
theorem cells102 : Tryd.prog.cellsOf 102 = 3 := by kernel_rfl
theorem cells5 : Tryd.prog.cellsOf 5 = 1 := by kernel_rfl
theorem cells3 : Tryd.prog.cellsOf 3 = 1 := by kernel_rfl
theorem add_add (b o i j : Nat) : ((⟨b, o, none⟩ : Addr).add i).add j = ⟨b, o + i + j, none⟩ := by rw [add_plain, add_plain]
theorem list3 {α : Type} {l : List α} (h : l.length = 3) : ∃ a b c, l = [a, b, c] := by
  match l, h with
  | [a, b, c], _ => exact ⟨a, b, c, rfl⟩
/-- One span's cells. -/
theorem span_cells {enc : TypeId × Value → Unit} {W : World} {sp : Nat → Bool} {held : Bool} {n : Nat} {cs : List Value} {s : Int × Int × Int} {p : List MemPlace}
    (h : DataW.trod enc Tryd.prog W 0 sp held n 102 cs = some (spanD s, p)) : cs[0]? = some (.int .u8 s.1) ∧ cs[1]? = some (.int .u8 s.2.1) ∧ cs[2]? = some (.int .i64 s.2.2) := by
  obtain ⟨xs, m, rfl, hx, hl, hxl, hall⟩ := DataW.trod_struct Tryd.underlying102 h
  simp only [spanD, Prod.mk.injEq, DataW.agg.injEq] at hx
  obtain ⟨hx1, _⟩ := hx
  rw [cells102] at hl
  have e0 : DataW.trod enc Tryd.prog W 0 sp held m 5 ((cs.drop 0).take (Tryd.prog.cellsOf 5)) = xs[0]? := hall 0 _ rfl
  have e1 : DataW.trod enc Tryd.prog W 0 sp held m 5 ((cs.drop 1).take (Tryd.prog.cellsOf 5)) = xs[1]? := hall 1 _ rfl
  have e2 : DataW.trod enc Tryd.prog W 0 sp held m 3 ((cs.drop 2).take (Tryd.prog.cellsOf 3)) = xs[2]? := hall 2 _ rfl

  rw [cells5] at e0 e1
  rw [cells3] at e2
  match xs, hx1, e0, e1, e2 with
  | [x0, x1, x2], hx1, e0, e1, e2 =>
    simp only [List.map_cons, List.map_nil, List.cons.injEq, and_true] at hx1
    obtain ⟨h0, h1, h2⟩ := hx1
    simp only [List.getElem?_cons_zero, List.getElem?_cons_succ] at e0 e1 e2
    obtain ⟨k0, a0, b0, _⟩ := DataW.trod_int Tryd.underlying5 e0
    obtain ⟨k1, a1, b1, _⟩ := DataW.trod_int Tryd.underlying5 e1
    obtain ⟨k2, a2, b2, _⟩ := DataW.trod_int Tryd.underlying3 e2
    rw [b0] at h0
    rw [b1] at h1
    rw [b2] at h2
    simp only [DataW.lit.injEq, Lit.int.injEq, true_and] at h0 h1 h2
    rw [← h0] at a0
    rw [← h1] at a1
    rw [← h2] at a2
    obtain ⟨c0, c1, c2, hcs⟩ := list3 hl
    rw [hcs] at a0 a1 a2 ⊢
    · simp only [List.drop_zero, List.drop_succ_cons, List.take_succ_cons, List.take_zero, List.cons.injEq, and_true] at a0 a1 a2
      exact ⟨congrArg some a0, congrArg some a1, congrArg some a2⟩
theorem utf_of_laid {W : World} (h : laidMetH Tryd.prog [("quillpen/utf.table", Rows.laid_quillpen_utf_table)] W) : Utf W.heap.size W := by
  have hp : laidMet Tryd.prog [("quillpen/utf.table", Rows.laid_quillpen_utf_table)] W := h
  obtain ⟨ps, ⟨g1, t1, cs1, f1, p1, q1, hg1, ht1, hv1, hd1, _, _⟩, _, _⟩ := hp
  obtain rfl := Option.some.inj ((show Tryd.prog.globalNamed "quillpen/utf.table" = some 0 by kernel_rfl).symm.trans hg1)
  obtain rfl := Option.some.inj ((show (Tryd.prog.globals[0]?).map (·.type) = some 100 by kernel_rfl).symm.trans ht1)
  have e : (Rows.laid_quillpen_utf_table : DataW Unit) = .agg (utfTab.map fun L => .slice (L.map spanD) []) := rfl
  rw [e] at hd1
  obtain ⟨xs, m, rfl, hx, hl, hxl, hall⟩ := DataW.trod_array Tryd.underlying100 hd1
  simp only [Prod.mk.injEq, DataW.agg.injEq] at hx
  obtain ⟨hx1, _⟩ := hx
  rw [cells100] at hl
  refine ⟨Nat.le_refl _, fun i hi => ?_⟩
  have ha := hall i hi
  rw [cells99, Nat.mul_one] at ha
  obtain ⟨x, hxi⟩ : ∃ x, xs[i]? = some x := ⟨_, List.getElem?_eq_getElem (by omega)⟩
  rw [hxi] at ha
  have hLi : utfTab[i]? = some (utfTab.getD i []) := by
    rw [List.getD_eq_getElem?_getD, List.getElem?_eq_getElem (show i < utfTab.length from hi)]; rfl
  obtain ⟨L, hL⟩ : ∃ L, utfTab.getD i [] = L := ⟨_, rfl⟩
  rw [hL] at hLi ⊢
  have hne : 0 < L.length := by
    rw [← hL]
    have : ∀ i, i < 8 → 0 < (utfTab.getD i []).length := by decide
    exact this i hi
  have hx2 : x.1 = .slice (L.map spanD) [] := by
    have := congrArg (fun l => l[i]?) hx1
    simp only [List.getElem?_map, hLi, hxi, Option.map_some, Option.some.injEq] at this
    exact this.symm
  have hci : cs1[i]? = cs1.toList[i]? := by simp
  rcases DataW.trod_slice Tryd.underlying99 ha with ⟨_, hn⟩ | ⟨a, len, cap, elems, rest, n, _, hcs, hy, _, hle, _, hlen, hel, _⟩
  · rw [hn] at hx2; cases hx2
  · rw [hy] at hx2
    simp only [DataW.slice.injEq] at hx2
    obtain ⟨hx3, _⟩ := hx2
    have hll : L.length = len := by have := congrArg List.length hx3; simp at this; omega
    subst hll
    have hcell : ∀ j s, L[j]? = some s → W.cell? ((a.add (j * 3)).add 0) = some (.int .u8 s.1) ∧ W.cell? ((a.add (j * 3)).add 1) = some (.int .u8 s.2.1) ∧ W.cell? ((a.add (j * 3)).add 2) = some (.int .i64 s.2.2) := by
      intro j s hj
      have hjl : j < L.length := (List.getElem?_eq_some_iff.1 hj).1
      have hE := hel j hjl
      rw [cells102] at hE
      obtain ⟨y, hyj⟩ : ∃ y, elems[j]? = some y := ⟨_, List.getElem?_eq_getElem (by omega)⟩
      rw [hyj] at hE
      have hys : y.1 = spanD s := by
        have := congrArg (fun l => l[j]?) hx3
        simp only [List.getElem?_map, hyj, hj, Option.map_some, Option.some.injEq] at this
        exact this
      obtain ⟨c3, hc3, htr⟩ := Option.bind_eq_some_iff.1 hE
      obtain ⟨_, hn3, hc⟩ := World.cells?_some hc3
      obtain ⟨y1, y2⟩ := y
      dsimp only at hys
      subst hys
      obtain ⟨r0, r1, r2⟩ := span_cells htr
      exact ⟨(hc 0 (by decide)).trans r0, (hc 1 (by decide)).trans r1, (hc 2 (by decide)).trans r2⟩
    obtain ⟨b, off, spot⟩ := a
    obtain ⟨s0, hs0⟩ : ∃ s, L[0]? = some s := ⟨_, List.getElem?_eq_getElem hne⟩
    have h0 := (hcell 0 s0 hs0).1
    have hspot : spot = none := by
      have := World.cell?_spot h0
      simpa [Addr.add] using this
    subst hspot
    have hlow : b < W.heap.size := by
      rw [add_add] at h0
      rcases Nat.lt_or_ge b W.heap.size with h | h
      · exact h
      · simp [World.cell?, Array.getElem?_eq_none h] at h0
    refine ⟨b, off, cap, hlow, ?_, hle, fun j s hj => ?_, fun j s hj => ?_, fun j s hj => ?_⟩
    · have hv := World.var?_cell hg1 hv1 i
      rw [hv, hci]
      have := congrArg (fun l => l[0]?) hcs
      simp only [List.getElem?_cons_zero] at this
      rw [List.getElem?_take_of_lt (by decide), List.getElem?_drop, Nat.add_zero] at this
      exact this
    · have := (hcell j s hj).1; rw [add_add] at this; exact this
    · have := (hcell j s hj).2.1; rw [add_add] at this; exact this
    · have := (hcell j s hj).2.2; rw [add_add] at this; exact this
end Go.Proofs.YtmignbhpofmgeaaDoor.Top
namespace Go.Proofs.YtmignbhpofmgeaaDoor.Top
open Go.RowKit Go.Proofs.YtmignbhpofmgeaaDoorW.PrintWords Go.Proofs.YtmignbhpofmgeaaDoorW.PrintLast Go.Proofs.YtmignbhpofmgeaaDoorW.PrintMore Go.Proofs.YtmignbhpofmgeaaDoor.Iter
set_option linter.unusedVariables false
set_option linter.unusedSimpArgs false
/-- What a Reader holds. -/
structure RS where
  de : Int
  qu : Int
  en : Int
  mark : SS
  maker : MS
  utf : Nat
  state : Int
  offset : Int
  fk : Int
  fat : Int
  closed : Bool
  ready : List (List ByteArray)
  given : Int
/-- Where its parts lie. -/
structure RV where
  R : Nat
  S : Nat
  B : Nat
  fv : Value
  rv : Value
  qv : Value
def RS.cells (r : RS) (x : RV) : Array Value := #[.int .u8 r.de, .int .u8 r.qu, .int .i64 r.en, .pointer (some ⟨x.S, 0, none⟩), .pointer (some ⟨x.B, 0, none⟩), .int .i64 r.utf, .int .i64 r.state, .int .i64 r.offset, .int .i64 r.fk, .int .i64 r.fat, .bool r.closed, x.qv, .int .i64 r.given]
/-- The blocks that a Reader's calls may turn. -/
def RC (x : RV) (k : Nat) : Prop := k = x.R ∨ k = x.S ∨ MC x.B x.fv x.rv k ∨ x.qv.ownBlock = some k
/-- Rows of texts, not handed out. -/
def RowsAt (rv : Value) (W : World) (rows : List Value) (rs : List (List ByteArray)) : Prop :=
  rows.length = rs.length ∧ ∀ (i : Nat) (v : Value) (l : List ByteArray), rows[i]? = some v → rs[i]? = some l → W.ownsRow 0 9 1 v l.length (l.map Value.string) ∧ ∀ k, v.ownBlock = some k → rv.ownBlock ≠ some k
structure RAt (n0 : Nat) (x : RV) (r : RS) (W : World) : Prop where
  obj : W.heap[x.R]? = some (.cells (r.cells x) 69 (0, 0))
  mak : MkAt x.B r.maker x.fv x.rv W
  st : SAt x.S r.mark W
  que : ∃ rows, W.ownsRow 0 61 1 x.qv r.ready.length rows ∧ RowsAt x.rv W rows r.ready
  low : ∀ k, RC x k → n0 ≤ k
theorem RAt.lt {n0 : Nat} {x : RV} {r : RS} {W : World} (h : RAt n0 x r W) : x.R < W.heap.size := (Array.getElem?_eq_some_iff.1 h.obj).1
theorem RAt.rc_lt {n0 : Nat} {x : RV} {r : RS} {W : World} (h : RAt n0 x r W) (k : Nat) (hk : RC x k) : k < W.heap.size := by
  obtain ⟨rows, hq, _⟩ := h.que
  rcases hk with rfl | rfl | (rfl | hk | hk) | hk
  · exact h.lt
  · exact h.st.lt
  · exact h.mak.lt
  · exact row_lt h.mak.frow k hk
  · exact row_lt h.mak.rrow k hk
  · exact row_lt hq k hk
/-- A row of texts lies apart from what the calls turn. -/
theorem RAt.row_free {n0 : Nat} {x : RV} {r : RS} {W : World} (h : RAt n0 x r W) {v : Value} {n : Nat} {ys : List Value} (hv : W.ownsRow 0 9 1 v n ys) (ha : ∀ k, v.ownBlock = some k → x.rv.ownBlock ≠ some k) (k : Nat) (hk : v.ownBlock = some k) : ¬ RC x k := by
  obtain ⟨rows, hq, _⟩ := h.que
  rintro (rfl | rfl | (rfl | h1 | h1) | h1)
  · exact row_ne hv h.obj (by decide) hk
  · exact row_ne hv h.st (by decide) hk
  · exact row_ne hv h.mak.obj (by decide) hk
  · exact rows_apart hv h.mak.frow (by decide) k hk h1
  · exact ha k hk h1
  · exact rows_apart hv hq (by decide) k hk h1
/-- What the calls turn is kept; the rows that lie ready are not touched. -/
theorem RAt.rows_keep {n0 : Nat} {x : RV} {r : RS} {W W' : World} (h : RAt n0 x r W) (ha : Acts (RC x) W W') {rv' : Value} (hn : NewOr W x.rv rv') {rows : List Value} {rs : List (List ByteArray)} (hr : RowsAt x.rv W rows rs) : RowsAt rv' W' rows rs :=
  ⟨hr.1, fun i v l hi hl => by
    obtain ⟨h1, h2⟩ := hr.2 i v l hi hl
    exact ⟨owns_keep h1 (fun k hk => ha.same k (row_lt h1 k hk) (h.row_free h1 h2 k hk)), fun k hk hk' => (hn k hk').elim (h2 k hk) (fun hl => by have := row_lt h1 k hk; omega)⟩⟩
/-- Where the parts may lie then. -/
structure RNew (W : World) (x x' : RV) : Prop where
  R : x'.R = x.R
  S : x'.S = x.S
  B : x'.B = x.B
  fnew : NewOr W x.fv x'.fv
  rnew : NewOr W x.rv x'.rv
  qnew : NewOr W x.qv x'.qv
theorem RNew.refl (W : World) (x : RV) : RNew W x x := ⟨rfl, rfl, rfl, NewOr.refl _ _, NewOr.refl _ _, NewOr.refl _ _⟩
theorem RNew.trans {W W1 : World} {x y z : RV} (h : RNew W x y) (k : RNew W1 y z) (hs : W.heap.size ≤ W1.heap.size) : RNew W x z :=
  ⟨k.R.trans h.R, k.S.trans h.S, k.B.trans h.B, h.fnew.trans k.fnew hs, h.rnew.trans k.rnew hs, h.qnew.trans k.qnew hs⟩
theorem RNew.rc {W : World} {x y : RV} (h : RNew W x y) (k : Nat) (hk : RC y k) : RC x k ∨ W.heap.size ≤ k := by
  rcases hk with rfl | rfl | (rfl | hk | hk) | hk
  · exact .inl (.inl h.R)
  · exact .inl (.inr (.inl h.S))
  · exact .inl (.inr (.inr (.inl (.inl h.B))))
  · exact (h.fnew k hk).imp (fun e => .inr (.inr (.inl (.inr (.inl e))))) id
  · exact (h.rnew k hk).imp (fun e => .inr (.inr (.inl (.inr (.inr e))))) id
  · exact (h.qnew k hk).imp (fun e => .inr (.inr (.inr e))) id
/-- A Reader has gone on. -/
structure RGo (n0 : Nat) (x : RV) (W : World) (r' : RS) (x' : RV) (W' : World) : Prop where
  it : RAt n0 x' r' W'
  acts : Acts (RC x) W W'
  new : RNew W x x'
theorem RGo.refl {n0 : Nat} {x : RV} {r : RS} {W : World} (h : RAt n0 x r W) : RGo n0 x W r x W := ⟨h, Acts.refl _ _, RNew.refl _ _⟩
theorem RGo.trans {n0 : Nat} {x y z : RV} {r1 r2 : RS} {W W1 W2 : World} (h : RGo n0 x W r1 y W1) (k : RGo n0 y W1 r2 z W2) : RGo n0 x W r2 z W2 :=
  ⟨k.it, h.acts.trans k.acts (fun j hj => h.new.rc j hj), h.new.trans k.new h.acts.size⟩
/-- Nothing of it is touched. -/
theorem RAt.acts {n0 : Nat} {x : RV} {r : RS} {W W' : World} (h : RAt n0 x r W) (ha : Acts (fun _ => False) W W') : RAt n0 x r W' := by
  obtain ⟨rows, hq, hr⟩ := h.que
  have hk : ∀ k, k < W.heap.size → W'.heap[k]? = W.heap[k]? := fun k hk => ha.same k hk (fun h => h)
  exact ⟨(hk _ h.lt).trans h.obj, h.mak.acts ha (fun _ _ h => h), h.st.keep (hk _ h.st.lt), ⟨rows, owns_keep hq (fun k e => hk k (row_lt hq k e)), h.rows_keep (ha.weaken (fun _ _ h => h.elim)) (NewOr.refl _ _) hr⟩, h.low⟩
theorem RGo.more {n0 : Nat} {x y : RV} {r : RS} {W W1 W2 : World} (h : RGo n0 x W r y W1) (ha : Acts (fun _ => False) W1 W2) : RGo n0 x W r y W2 := ⟨h.it.acts ha, h.acts.trans ha (fun _ h => h.elim), h.new⟩
theorem RAt.ne {n0 : Nat} {x : RV} {r : RS} {W : World} (h : RAt n0 x r W) : x.S ≠ x.R ∧ x.B ≠ x.R ∧ x.fv.ownBlock ≠ some x.R ∧ x.rv.ownBlock ≠ some x.R ∧ x.qv.ownBlock ≠ some x.R := by
  obtain ⟨rows, hq, hr⟩ := h.que
  exact ⟨blk_ne h.st h.obj (by decide), blk_ne h.mak.obj h.obj (by decide), row_ne h.mak.frow h.obj (by decide), row_ne h.mak.rrow h.obj (by decide), row_ne hq h.obj (by decide)⟩
/-- A number of it is written. -/
theorem RAt.set {n0 : Nat} {x : RV} {r r' : RS} {W : World} (h : RAt n0 x r W) (j : Nat) (v : Value) (hc : (r.cells x).setIfInBounds j v = r'.cells x) (hm : r'.maker = r.maker) (hs : r'.mark = r.mark) (hq : r'.ready = r.ready) : RAt n0 x r' (W.setCell ⟨x.R, j, none⟩ v) := by
  obtain ⟨rows, hq1, hr⟩ := h.que
  obtain ⟨n1, n2, n3, n4, n5⟩ := h.ne
  have hk : ∀ k, k ≠ x.R → (W.setCell ⟨x.R, j, none⟩ v).heap[k]? = W.heap[k]? := fun k hk => Below.heap_setCell W _ _ k hk
  refine ⟨by rw [blk_set h.obj, hc], ?_, ?_, ⟨rows, ?_, ?_⟩, h.low⟩
  · rw [hm]; exact h.mak.keep (fun k hk' => hk k (by rcases hk' with rfl | e | e; exact n2; exact fun e' => n3 (e' ▸ e); exact fun e' => n4 (e' ▸ e)))
  · rw [hs]; exact h.st.keep (hk _ n1)
  · rw [hq]; exact owns_keep hq1 (fun k e => hk k (fun e' => n5 (e' ▸ e)))
  · rw [hq]; exact h.rows_keep ((acts_set (B := x.R) W j v).weaken (fun k _ e => .inl e)) (NewOr.refl _ _) hr
theorem RGo.set {n0 : Nat} {x y : RV} {r r' : RS} {W W1 : World} (h : RGo n0 x W r y W1) (j : Nat) (v : Value) (hc : (r.cells y).setIfInBounds j v = r'.cells y) (hm : r'.maker = r.maker) (hs : r'.mark = r.mark) (hq : r'.ready = r.ready) : RGo n0 x W r' y (W1.setCell ⟨y.R, j, none⟩ v) :=
  h.trans ⟨h.it.set j v hc hm hs hq, (acts_set (B := y.R) W1 j v).weaken (fun k _ e => .inl e), RNew.refl _ _⟩
def wrongR (r : RS) (k a : Int) : RS := { r with fk := k, fat := a, offset := a }
/-- A Reader's call comes to r' and v. -/
def RTo (n0 : Nat) (x : RV) (W : World) (r' : RS) (v : Value) (e : Ending) (w' : World) : Prop := e = .returned v ∧ ∃ x', RGo n0 x W r' x' w'
set_option maxRecDepth 100000 in
set_option maxHeartbeats 2000000 in
theorem wrong_calls (n0 : Nat) (x : RV) (r : RS) (k a : Int) (W : World) (h : RAt n0 x r W) :
    Calls Tryd.prog 28 #[.pointer (some ⟨x.R, 0, none⟩), .int .i64 k, .int .i64 a] W (RTo n0 x W (wrongR r k a) (.tuple #[])) := by
  have f7 := blk_frozen h.obj 7
  have f8 := blk_frozen h.obj 8
  have f9 := blk_frozen h.obj 9
  have c7 := (blk_cell h.obj 7).trans rfl
  have c8 := (blk_cell h.obj 8).trans rfl
  have c9 := (blk_cell h.obj 9).trans rfl
  simp only [RS.cells] at c7 c8 c9
  go_enter Tryd.func28, Tryd.ntmps28
  go_wp2
  refine bodyPost_end (results_none (fn := Tryd.f28) rfl _ _ _) rfl ?_
  have g0 := RGo.refl h
  have g1 := g0.set (r' := { r with fk := k }) 8 (.int .i64 k) rfl rfl rfl rfl
  have g2 := g1.set (r' := { r with fk := k, fat := a }) 9 (.int .i64 a) rfl rfl rfl rfl
  have g3 := g2.set (r' := wrongR r k a) 7 (.int .i64 a) rfl rfl rfl rfl
  exact ⟨rfl, _, g3⟩
/-- The Maker has gone on. -/
theorem RAt.maker {n0 : Nat} {x : RV} {r : RS} {W W' : World} (h : RAt n0 x r W) {m' : MS} {fv' rv' : Value} (hg : MGo x.B x.fv x.rv W m' fv' rv' W') : RGo n0 x W { r with maker := m' } { x with fv := fv', rv := rv' } W' := by
  obtain ⟨rows, hq, hr⟩ := h.que
  obtain ⟨n1, n2, n3, n4, n5⟩ := h.ne
  have ha : Acts (RC x) W W' := hg.acts.weaken (fun k _ e => .inr (.inr (.inl e)))
  have hn : RNew W x { x with fv := fv', rv := rv' } := ⟨rfl, rfl, rfl, hg.fnew, hg.rnew, NewOr.refl _ _⟩
  have hR : ¬ MC x.B x.fv x.rv x.R := fun e => e.elim (fun e => n2 e.symm) (fun e => e.elim n3 n4)
  have hS : ¬ MC x.B x.fv x.rv x.S := fun e => e.elim (fun e => blk_ne h.st h.mak.obj (by decide) e) (fun e => e.elim (row_ne h.mak.frow h.st (by decide)) (row_ne h.mak.rrow h.st (by decide)))
  have hQ : ∀ k, x.qv.ownBlock = some k → ¬ MC x.B x.fv x.rv k := fun k hk e => e.elim (fun e => row_ne hq h.mak.obj (by decide) (e ▸ hk)) (fun e => e.elim (rows_apart hq h.mak.frow (by decide) k hk) (rows_apart hq h.mak.rrow (by decide) k hk))
  refine ⟨⟨?_, hg.it, h.st.keep (hg.acts.same _ h.st.lt hS), ⟨rows, owns_keep hq (fun k e => hg.acts.same k (row_lt hq k e) (hQ k e)), h.rows_keep ha hg.rnew hr⟩, fun k hk => ?_⟩, ha, hn⟩
  · exact (hg.acts.same _ h.lt hR).trans h.obj
  · rcases hn.rc k hk with e | e
    · exact h.low k e
    · have := h.low x.R (.inl rfl); have := h.lt; omega
def eventR (r : RS) (ev : Ev) (f a : Int) : RS × Bool :=
  if f = 0 then
    if (takeM r.maker ev).2.2.2 = 0 then ({ r with maker := (takeM r.maker ev).1, ready := if (takeM r.maker ev).2.2.1 = true then r.ready ++ [(takeM r.maker ev).2.1] else r.ready }, true)
    else (wrongR { r with maker := (takeM r.maker ev).1 } (takeM r.maker ev).2.2.2 a, false)
  else (wrongR r f a, false)
theorem elem61 : (Tryd.prog.info? 61).map (fun i => (i.zero, i.size, i.bytes)) = some (some (.slice none 0 0), 1, 24) := by kernel_rfl
/-- The queue has grown, and it is written back. -/
theorem RAt.push {n0 : Nat} {x : RV} {r : RS} {W W2 : World} {o : Obj} (h : RAt n0 x r W) {qv' out : Value} {l : List ByteArray} {rows : List Value} (hq : W.ownsRow 0 61 1 x.qv r.ready.length rows) (hr : RowsAt x.rv W rows r.ready)
    (hown : W2.ownsRow 0 61 1 qv' (r.ready.length + 1) (rows ++ [out])) (hg : (W.alloc o).grownBy W2 x.qv.ownBlock)
    (hat : qv'.ownBlock = x.qv.ownBlock ∨ qv'.ownBlock = some (W.alloc o).heap.size) (hl : W.ownsRow 0 9 1 out l.length (l.map Value.string)) (hf : ∀ k, out.ownBlock = some k → x.rv.ownBlock ≠ some k) :
    RGo n0 x W { r with ready := r.ready ++ [l] } { x with qv := qv' } (W2.setCell ⟨x.R, 11, none⟩ qv') := by
  have hA := grown_acts hg
  obtain ⟨n1, n2, n3, n4, n5⟩ := h.ne
  have hR : W2.heap[x.R]? = some (.cells (r.cells x) 69 (0, 0)) := (hA.same x.R h.lt n5).trans h.obj
  have m1 : qv'.ownBlock ≠ some x.R := row_ne hown hR (by decide)
  have hA2 : Acts (RC x) W (W2.setCell ⟨x.R, 11, none⟩ qv') := (hA.weaken (fun k _ e => .inr (.inr (.inr e)))).trans (acts_set (B := x.R) _ 11 qv') (fun j hj => .inl (.inl hj))
  have hn : RNew W x { x with qv := qv' } := ⟨rfl, rfl, rfl, NewOr.refl _ _, NewOr.refl _ _, at_new hat⟩
  have hk : ∀ k, k < W.heap.size → k ≠ x.R → x.qv.ownBlock ≠ some k → (W2.setCell ⟨x.R, 11, none⟩ qv').heap[k]? = W.heap[k]? := fun k h1 h2 h3 => (Below.heap_setCell W2 _ _ k h2).trans (hA.same k h1 h3)
  refine ⟨⟨?_, ?_, ?_, ⟨rows ++ [out], ?_, ?_, ?_⟩, fun k hk => ?_⟩, hA2, hn⟩
  · rw [blk_set hR]; rfl
  · refine h.mak.keep (fun k hk' => ?_)
    rcases hk' with rfl | e | e
    · exact hk _ h.mak.lt n2 (row_ne hq h.mak.obj (by decide))
    · exact hk k (row_lt h.mak.frow k e) (fun e' => n3 (e' ▸ e)) (rows_apart h.mak.frow hq (by decide) k e)
    · exact hk k (row_lt h.mak.rrow k e) (fun e' => n4 (e' ▸ e)) (rows_apart h.mak.rrow hq (by decide) k e)
  · exact h.st.keep (hk _ h.st.lt n1 (row_ne hq h.st (by decide)))
  · have : W2.ownsRow 0 61 1 qv' (r.ready ++ [l]).length (rows ++ [out]) := by simpa using hown
    exact owns_keep this (fun k e => Below.heap_setCell W2 _ _ k (fun e' => m1 (by rw [e]; exact congrArg some e')))
  · simp [hr.1]
  · intro i v l' hi hl'
    by_cases hlt : i < rows.length
    · rw [List.getElem?_append_left hlt] at hi
      rw [List.getElem?_append_left (by rw [← hr.1]; exact hlt)] at hl'
      exact (h.rows_keep hA2 (NewOr.refl _ _) hr).2 i v l' hi hl'
    · have hi2 : i = rows.length := by
        have := (List.getElem?_eq_some_iff.1 hi).1; simp at this; omega
      subst hi2
      rw [List.getElem?_append_right (Nat.le_refl _)] at hi
      rw [List.getElem?_append_right (by rw [hr.1]; exact Nat.le_refl _)] at hl'
      simp at hi
      simp [hr.1] at hl'
      subst hi hl'
      exact ⟨owns_keep hl (fun k e => hA2.same k (row_lt hl k e) (h.row_free hl hf k e)), hf⟩
  · rcases hn.rc k hk with e | e
    · exact h.low k e
    · have := h.low x.R (.inl rfl); have := h.lt; omega
set_option maxRecDepth 100000 in
set_option maxHeartbeats 4000000 in
theorem event_calls (n0 : Nat) (x : RV) (r : RS) (ev : Ev) (f a : Int) (W : World) (h : RAt n0 x r W) (hF : r.maker.F ≤ 2147483648) (hn : r.maker.record.length + 1 ≤ 2147483648) (hq3 : r.ready.length + 1 ≤ 2147483648) :
    Calls Tryd.prog 31 #[.pointer (some ⟨x.R, 0, none⟩), .agg ev.cells, .int .i64 f, .int .i64 a] W (RTo n0 x W (eventR r ev f a).1 (.bool (eventR r ev f a).2)) := by
  obtain ⟨W1, hW1⟩ : ∃ W1, W.alloc (.cells ev.cells 77) = W1 := ⟨_, rfl⟩
  have hx : W1.heap[W.heap.size]? = some (.cells ev.cells 77 (0, 0)) := by rw [← hW1]; simpa using heap_alloc_new W (.cells ev.cells 77)
  have hA1 : Acts (fun _ => False) W W1 := by rw [← hW1]; exact Acts.alloc _ _ _
  have h1 : RAt n0 x r W1 := h.acts hA1
  have hback : ∀ r' x' w', RGo n0 x W1 r' x' w' → RGo n0 x W r' x' w' := fun r' x' w' hg => RGo.trans ⟨h1, hA1.weaken (fun _ _ h => h.elim), RNew.refl _ _⟩ hg
  have hgt : W.heap.size < W1.heap.size := (Array.getElem?_eq_some_iff.1 hx).1
  by_cases hf : f = 0
  · subst hf
    have hMC : ¬ MC x.B x.fv x.rv x.R ∧ ¬ MC x.B x.fv x.rv W.heap.size := by
      obtain ⟨n1, n2, n3, n4, n5⟩ := h.ne
      exact ⟨fun e => e.elim (fun e => n2 e.symm) (fun e => e.elim n3 n4), fun e => by have := h.rc_lt _ (.inr (.inr (.inl e))); omega⟩
    have hgc := take_calls x.B r.maker ev x.fv x.rv W1.drew (h1.acts (Acts.drewN _ _ 1)).mak hF hn
    obtain ⟨m', l, ok, k, hT⟩ : ∃ m' l ok k, takeM r.maker ev = (m', l, ok, k) := ⟨_, _, _, _, rfl⟩
    have hE : eventR r ev 0 a = if k = 0 then ({ r with maker := m', ready := if ok = true then r.ready ++ [l] else r.ready }, true) else (wrongR { r with maker := m' } k a, false) := by simp [eventR, hT]
    obtain ⟨r', b, hE2⟩ : ∃ r' b, eventR r ev 0 a = (r', b) := ⟨_, _, rfl⟩
    rw [hE2] at hE ⊢
    have HE : Hid ((r', b) = _) := hE
    unfold TkTo at hgc
    rw [hT] at hgc
    dsimp only at hgc
    clear hE hE2 hT
    obtain ⟨i0, hi, hz0, hz1, hz2⟩ := info_parts elem61
    obtain ⟨R, S, B, fv, rv, qv⟩ := x
    obtain ⟨e0, e1, e2, e3, e4, e5⟩ := ev
    simp only [Ev.cells] at hgc hW1 hx ⊢
    dsimp only at hMC
    go_enter Tryd.func31, Tryd.ntmps31
    go_wp2
    refine start_ (n := 13) (S := fun w' => w'.heap[R]? = some (.cells (r.cells ⟨R, S, B, fv, rv, qv⟩) 69 (0, 0)) ∧ w'.heap[W.heap.size]? = some (.cells #[.bool e0, .bool e1, .bool e2, .bool e3, .bool e4, .int .u8 e5] 77 (0, 0))) (ds := []) #[false, false, false, false, false, false, false, false, false, false, false, false, false] (by kernel_rfl) rfl rfl (⟨h1.obj, hx⟩) (fun hHeld => ?_)
    refine pure_ (i := 0) (N := some 14) (v := ?_) (a' := ?_) #[true, false, false, false, false, false, false, false, false, false, false, false, false] rfl rfl (by kernel_rfl) (fun _ _ _ h => h) (Or.inl ⟨by rfl, ?_⟩) ?_ ?_
    rotate_left
    · intro w'
      go_simp
      with_reducible rfl
    rotate_left
    · simp only [Act.put, List.setIfInBounds_toArray, List.set_cons_zero, List.set_cons_succ]
      rfl
    refine pure_ (i := 1) (N := some 15) (v := ?_) (a' := ?_) #[true, true, false, false, false, false, false, false, false, false, false, false, false] rfl rfl (by kernel_rfl) (fun _ _ _ h => h) (Or.inl ⟨by rfl, ?_⟩) ?_ ?_
    rotate_left
    · intro w'
      go_simp
      with_reducible rfl
    rotate_left
    · simp only [Act.put, List.setIfInBounds_toArray, List.set_cons_zero, List.set_cons_succ]
      rfl
    refine pure_ (i := 2) (N := some 16) (v := ?_) (a' := ?_) #[true, true, true, false, false, false, false, false, false, false, false, false, false] rfl rfl (by kernel_rfl) (fun _ _ _ h => h) (Or.inl ⟨by rfl, ?_⟩) ?_ ?_
    rotate_left
    · intro w'
      go_simp
      with_reducible rfl
    rotate_left
    · simp only [Act.put, List.setIfInBounds_toArray, List.set_cons_zero, List.set_cons_succ]
      rfl
    refine take_ (i := 3) (N := some 17) (v := ?_) (a' := ?_) #[true, true, true, true, false, false, false, false, false, false, false, false, false] rfl rfl (by kernel_rfl) (fun _ _ _ h => h) (Or.inl ⟨by rfl, ?_⟩) hHeld ?_ ?_
    rotate_left
    · intro w' s0
      obtain ⟨s1, s2⟩ := s0
      have c := (blk_cell s1 4).trans rfl
      simp only [RS.cells] at c
      clear s1 s2
      go_simp
      with_reducible rfl
    rotate_left
    · simp only [Act.put, List.setIfInBounds_toArray, List.set_cons_zero, List.set_cons_succ]
      rfl
    refine take_ (i := 4) (N := some 18) (v := ?_) (a' := ?_) #[true, true, true, true, true, false, false, false, false, false, false, false, false] rfl rfl (by kernel_rfl) (fun _ _ _ h => h) (Or.inl ⟨by rfl, ?_⟩) hHeld ?_ ?_
    rotate_left
    · intro w' s0
      obtain ⟨s1, s2⟩ := s0
      have y0 := (blk_cell s2 0).trans rfl
      have y1 := (blk_cell s2 1).trans rfl
      have y2 := (blk_cell s2 2).trans rfl
      have y3 := (blk_cell s2 3).trans rfl
      have y4 := (blk_cell s2 4).trans rfl
      have y5 := (blk_cell s2 5).trans rfl
      clear s1 s2
      go_simp
      with_reducible rfl
    rotate_left
    · simp only [Act.put, List.setIfInBounds_toArray, List.set_cons_zero, List.set_cons_succ]
      rfl
    refine one_ (i := 5) (N := some 19) #[true, true, true, true, true, true, false, false, false, false, false, false, false] rfl rfl (by kernel_rfl) (by decide) (fun K hK => ?_)
    refine goes_ Tryd.func44 (by kernel_rfl) rfl #[.pointer (some ⟨B, 0, none⟩), .agg #[.bool e0, .bool e1, .bool e2, .bool e3, .bool e4, .int .u8 e5]] (by rfl) rfl rfl (by simp only [List.map_toArray, List.map_cons, List.map_nil]; rfl) ?_
    with_reducible refine (hgc).mono ?_
    rintro e w2 ⟨out, fv2, rv2, rfl, hg, hout, hnout, hfree⟩
    refine ⟨_, rfl, ?_⟩
    refine hK.out _ _ (⟨(hg.acts.same R h1.lt (hMC.1)).trans h1.obj, (hg.acts.same _ (by have := hgt; exact this) hMC.2).trans hx⟩) (fun hHeld => ?_)
    clear hK K
    refine norm_ (a' := ?_) ?_ ?_
    rotate_left
    · show Act.put _ (some 19) _ = _
      simp only [Act.put, List.setIfInBounds_toArray, List.set_cons_zero, List.set_cons_succ]
      rfl
    refine pure_ (i := 6) (N := some 13) (v := ?_) (a' := ?_) #[true, true, true, true, true, true, true, false, false, false, false, false, false] rfl rfl (by kernel_rfl) (fun _ _ _ h => h) (Or.inl ⟨by rfl, ?_⟩) ?_ ?_
    rotate_left
    · intro w'
      go_simp
      with_reducible rfl
    rotate_left
    · simp only [Act.put, List.setIfInBounds_toArray, List.set_cons_zero, List.set_cons_succ]
      rfl
    refine pure_ (i := 7) (N := some 20) (v := ?_) (a' := ?_) #[true, true, true, true, true, true, true, true, false, false, false, false, false] rfl rfl (by kernel_rfl) (fun _ _ _ h => h) (Or.inl ⟨by rfl, ?_⟩) ?_ ?_
    rotate_left
    · intro w'
      go_simp
      with_reducible rfl
    rotate_left
    · simp only [Act.put, List.setIfInBounds_toArray, List.set_cons_zero, List.set_cons_succ]
      rfl
    refine pure_ (i := 8) (N := some 21) (v := ?_) (a' := ?_) #[true, true, true, true, true, true, true, true, true, false, false, false, false] rfl rfl (by kernel_rfl) (fun _ _ _ h => h) (Or.inl ⟨by rfl, ?_⟩) ?_ ?_
    rotate_left
    · intro w'
      go_simp
      with_reducible rfl
    rotate_left
    · simp only [Act.put, List.setIfInBounds_toArray, List.set_cons_zero, List.set_cons_succ]
      rfl
    refine pure_ (i := 9) (N := some 22) (v := ?_) (a' := ?_) #[true, true, true, true, true, true, true, true, true, true, false, false, false] rfl rfl (by kernel_rfl) (fun _ _ _ h => h) (Or.inl ⟨by rfl, ?_⟩) ?_ ?_
    rotate_left
    · intro w'
      go_simp
      with_reducible rfl
    rotate_left
    · simp only [Act.put, List.setIfInBounds_toArray, List.set_cons_zero, List.set_cons_succ]
      rfl
    refine pure_ (i := 10) (N := some 9) (v := ?_) (a' := ?_) #[true, true, true, true, true, true, true, true, true, true, true, false, false] rfl rfl (by kernel_rfl) (fun _ _ _ h => h) (Or.inl ⟨by rfl, ?_⟩) ?_ ?_
    rotate_left
    · intro w'
      go_simp
      with_reducible rfl
    rotate_left
    · simp only [Act.put, List.setIfInBounds_toArray, List.set_cons_zero, List.set_cons_succ]
      rfl
    refine pure_ (i := 11) (N := some 10) (v := ?_) (a' := ?_) #[true, true, true, true, true, true, true, true, true, true, true, true, false] rfl rfl (by kernel_rfl) (fun _ _ _ h => h) (Or.inl ⟨by rfl, ?_⟩) ?_ ?_
    rotate_left
    · intro w'
      go_simp
      with_reducible rfl
    rotate_left
    · simp only [Act.put, List.setIfInBounds_toArray, List.set_cons_zero, List.set_cons_succ]
      rfl
    refine pure_ (i := 12) (N := some 2) (v := ?_) (a' := ?_) #[true, true, true, true, true, true, true, true, true, true, true, true, true] rfl rfl (by kernel_rfl) (fun _ _ _ h => h) (Or.inl ⟨by rfl, ?_⟩) ?_ ?_
    rotate_left
    · intro w'
      go_simp
      with_reducible rfl
    rotate_left
    · simp only [Act.put, List.setIfInBounds_toArray, List.set_cons_zero, List.set_cons_succ]
      rfl
    refine done_ (by kernel_rfl) ?_
    clear hHeld hgc hx hMC
    have hr2 := (h1.acts (Acts.drewN _ _ 1)).maker hg
    have hgo : RGo n0 ⟨R, S, B, fv, rv, qv⟩ W { r with maker := m' } ⟨R, S, B, fv2, rv2, qv⟩ w2 := hback _ _ _ (RGo.trans ⟨h1.acts (Acts.drewN _ _ 1), Acts.drewN _ _ 1, RNew.refl _ _⟩ hr2)
    clear hr2 hg hback
    by_cases hk : k = 0
    · subst hk
      have hE := HE.out
      rw [if_pos rfl] at hE
      cases ok with
      | false =>
        cases hE
        go_wp2
        go_ret
        exact ⟨rfl, _, hgo⟩
      | true =>
        cases hE
        obtain ⟨rows, hq, hrow⟩ := hgo.it.que
        obtain ⟨qa, qc, hqv⟩ := slice_len hq
        dsimp only at hqv hq
        subst hqv
        obtain ⟨oa, oc, rfl⟩ := slice_len hout
        have c11 := (blk_cell hgo.it.obj 11).trans rfl
        simp only [RS.cells] at c11
        go_wp2_with (at_builtin; refine wpList_append_own_at _ rfl _ _ 44 rfl 0 61 i0 (.slice none 0 0) 1 24 Tryd.underlying44 hi hz0 hz1 hz2 rfl (by decide) _ r.ready.length _ rfl (World.ownsRow.alloc hq _) ⟨w2.heap.size, 0, none⟩ 1 1 [.slice oa l.length oc] rfl rfl (cell_one_new w2 _ _) (by simp [Value.oneCell']) (by simp [maxLen]; omega) (by omega) (by simp) ?_; intro v' w3 hown hgrow hnil hat; obtain ⟨g, cap, rfl⟩ := ownsRow_succ hown; have hR3 := ((grown_acts hgrow).same R hgo.it.lt hgo.it.ne.2.2.2.2).trans hgo.it.obj; have c1 := (blk_cell hR3 11).trans rfl; have f1 := blk_frozen hR3 11; simp only [RS.cells] at c1)
        go_ret
        exact ⟨rfl, _, RGo.trans hgo (hgo.it.push hq hrow hown hgrow hat hout hfree)⟩
    · have hE := HE.out
      rw [if_neg hk] at hE
      cases hE
      have hwc := wrong_calls n0 _ _ k a w2 hgo.it
      dsimp only at hwc
      go_wp2_with (go_at_call 28; (with_reducible refine hwc.mono ?_); rintro e w3 ⟨rfl, x3, hg3⟩)
      go_ret
      exact ⟨rfl, _, RGo.trans hgo hg3⟩
  · have e : eventR r ev f a = (wrongR r f a, false) := if_neg hf
    rw [e]
    have hwc := wrong_calls n0 x r f a W1 h1
    obtain ⟨R, S, B, fv, rv, qv⟩ := x
    obtain ⟨e0, e1, e2, e3, e4, e5⟩ := ev
    simp only [Ev.cells] at hx hW1 ⊢
    go_enter Tryd.func31, Tryd.ntmps31
    go_wp2_with (go_at_call 28; (with_reducible refine hwc.mono ?_); rintro e w2 ⟨rfl, x2, hg2⟩)
    go_ret
    exact ⟨rfl, _, hback _ _ _ hg2⟩
end Go.Proofs.YtmignbhpofmgeaaDoor.Top
namespace Go.Proofs.YtmignbhpofmgeaaDoor.PTopSticky
open Go.RowKit Go.Proofs.YtmignbhpofmgeaaDoorW.PrintWords Go.Proofs.YtmignbhpofmgeaaDoorW.PrintLast Go.Proofs.YtmignbhpofmgeaaDoorW.PrintMore
attribute [local go_sem] max2_int min2_int max_two min_two max_three min_three max_four min_four   -- for this text's walks alone
set_option linter.unusedVariables false
set_option linter.unusedSimpArgs false
def errW : Option Int → Value
  | none => .nilIface
  | some c => .iface 0 (.int .i64 c)
theorem errW_none : errW none = .nilIface := rfl
theorem errW_some (c : Int) : errW (some c) = .iface 0 (.int .i64 c) := rfl
end Go.Proofs.YtmignbhpofmgeaaDoor.PTopSticky
