/- A part of the reader. -/
import Derived.Test.YtmignbhpofmgeaaDoorProg
import Derived.Below
import Derived.Deep.Draws
import Derived.Deep.AppendLies
import Derived.Maps.AppendAt
import Derived.OwnWalk
import Derived.Laws.BytesArg
import Derived.Laws.MakeOwn
import Derived.Laws.OwnMore
import Derived.Deep.OwnRows
import Derived.Tactics
import Derived.Lib.ConvBytes
import Derived.Laws.Slices
import Derived.WalkKit
import Derived.KernelRfl
import Derived.RowKit3
import Derived.Deep.LoopGhost
import Derived.Deep.QuietTactic
import Derived.BigQuiet
import Derived.WideLaws
import Derived.Deep.DeepCutAuto
import Derived.Deep.CutBlock
import Derived.Deep.RegionHeld3
import Derived.Laws.Rows
import Derived.Lib.AppendStr
import Derived.ArgAppend
import Derived.Laws.IdiomCopy
import Derived.OrdersHeld
import Derived.Laws.BitsLemmas
import Derived.RowKit
import Derived.Test.YtmignbhpofmgeaaDoorWWords
import Derived.Test.YtmignbhpofmgeaaDoorWLast
import Derived.Test.YtmignbhpofmgeaaDoorWTab
import Derived.Test.YtmignbhpofmgeaaDoorWFour
import Derived.Test.YtmignbhpofmgeaaDoorWQPut
import Derived.Test.YtmignbhpofmgeaaDoorWApart
import Derived.Test.YtmignbhpofmgeaaDoorWArr
import Derived.Test.YtmignbhpofmgeaaDoorWZeros
import Derived.Test.YtmignbhpofmgeaaDoorWFoot
import Derived.Test.YtmignbhpofmgeaaDoorWKept
import Derived.Test.YtmignbhpofmgeaaDoorWShare
import Derived.Test.YtmignbhpofmgeaaDoorWN
import Derived.Test.YtmignbhpofmgeaaDoorWFootNe
import Derived.Test.YtmignbhpofmgeaaDoorWAt
import Derived.Test.YtmignbhpofmgeaaDoorWEqStruct
import Derived.Test.YtmignbhpofmgeaaDoorWRepsOne
import Derived.Test.YtmignbhpofmgeaaDoorWInv
import Derived.Test.YtmignbhpofmgeaaDoorWInvWords
import Derived.Test.YtmignbhpofmgeaaDoorWGuard
import Derived.Test.YtmignbhpofmgeaaDoorWNEv
import Derived.Test.YtmignbhpofmgeaaDoorWMore
import Derived.Test.YtmignbhpofmgeaaDoorIter
import Derived.RangeFuncBox
import Derived.Lib.ConvBytes
import Derived.Test.YtmignbhpofmgeaaDoorMy
namespace Go.Proofs.YtmignbhpofmgeaaDoor.Top
open Go.RowKit Go.Proofs.YtmignbhpofmgeaaDoorW.PrintWords Go.Proofs.YtmignbhpofmgeaaDoorW.PrintLast Go.Proofs.YtmignbhpofmgeaaDoorW.PrintMore Go.Proofs.YtmignbhpofmgeaaDoor.Iter
set_option linter.unusedVariables false
set_option linter.unusedSimpArgs false

def initM (F Fs R : Int) (U : Bool) : MS := ⟨F, Fs, R, U, [], [], 0, 0, 0, 0⟩
set_option maxRecDepth 100000 in
set_option maxHeartbeats 4000000 in
theorem fnew_calls (F Fs R : Int) (U : Bool) (W : World) (hk : PTopSticky.dialect_CheckLimits.f F Fs R U = some 0) :
    Calls Tryd.prog 23 #[.agg #[.int .i64 F, .int .i64 Fs, .int .i64 R, .bool U]] W (fun e w' => ∃ B, e = .returned (.tuple #[.pointer (some ⟨B, 0, none⟩), .int .i64 0]) ∧ W.heap.size ≤ B ∧ MkAt B (initM F Fs R U) (.slice none 0 0) (.slice none 0 0) w' ∧ Acts (fun _ => False) W w') := by
  obtain ⟨W1, hW1⟩ : ∃ W1, W.alloc (.cells #[.int .i64 F, .int .i64 Fs, .int .i64 R, .bool U] 25) = W1 := ⟨_, rfl⟩
  have hx : W1.heap[W.heap.size]? = some (.cells #[.int .i64 F, .int .i64 Fs, .int .i64 R, .bool U] 25 (0, 0)) := by rw [← hW1]; simpa using heap_alloc_new W (.cells #[.int .i64 F, .int .i64 Fs, .int .i64 R, .bool U] 25)
  have hA1 : Acts (fun _ => False) W W1 := by rw [← hW1]; exact Acts.alloc _ _ _
  have x0 := (blk_cell hx 0).trans rfl
  have x1 := (blk_cell hx 1).trans rfl
  have x2 := (blk_cell hx 2).trans rfl
  have x3 := (blk_cell hx 3).trans rfl
  have hc := PTopSticky.dialect_CheckLimits.calls F Fs R U 0 W1 hk
  go_enter Tryd.func23, Tryd.ntmps23
  go_wp2_with (go_at_call 41; (with_reducible refine hc.mono ?_); rintro e w2 ⟨rfl, hb⟩; have hA2 : Acts (fun _ => False) W1 w2 := Acts.of_below hb; have hx2 := (hA2.same _ (blk_lt hx) (fun h => h)).trans hx; have y0 := (blk_cell hx2 0).trans rfl; have y1 := (blk_cell hx2 1).trans rfl; have y2 := (blk_cell hx2 2).trans rfl; have y3 := (blk_cell hx2 3).trans rfl)
  go_ret2
  have hA := hA1.trans hA2 (fun _ h => .inl h)
  refine ⟨w2.heap.size, rfl, hA.size, ⟨heap_alloc_new w2 (.cells ((initM F Fs R U).cells (.slice none 0 0) (.slice none 0 0)) 96), World.ownsRow_nil _ _ _ _, World.ownsRow_nil _ _ _ _⟩, hA.trans (Acts.alloc (fun _ => False) _ _) (fun _ h => .inl h)⟩
theorem bnew_calls (W : World) : Calls Tryd.prog 24 #[] W (fun e w' => ∃ S, e = .returned (.pointer (some ⟨S, 0, none⟩)) ∧ W.heap.size ≤ S ∧ SAt S ⟨0, false, false, false⟩ w' ∧ Acts (fun _ => False) W w') :=
  (PTopSticky.bom_New.calls 0 false false false W W (Below.refl _ _) rfl).mono fun _ _ ⟨S, h1, h2, _, h4⟩ => ⟨S, h1, h2.ge, h2.1, Acts.of_below h4⟩
def initR (de qu en F Fs R : Int) (U : Bool) : RS := ⟨de, qu, en, ⟨0, false, false, false⟩, initM F Fs R U, 0, 0, 0, 0, 0, false, [], 0⟩
set_option maxRecDepth 100000 in
set_option maxHeartbeats 8000000 in
theorem rnew_calls (de qu en F Fs Rl : Int) (U : Bool) (W : World) (hc : PTopSticky.dialect_Check.f de qu en = some 0) (hk : PTopSticky.dialect_CheckLimits.f F Fs Rl U = some 0) :
    Calls Tryd.prog 8 #[.agg #[.int .u8 de, .int .u8 qu, .int .i64 en], .agg #[.int .i64 F, .int .i64 Fs, .int .i64 Rl, .bool U]] W (fun e w' => ∃ x : RV, e = .returned (.tuple #[.pointer (some ⟨x.R, 0, none⟩), .int .i64 0]) ∧ RAt W.heap.size x (initR de qu en F Fs Rl U) w' ∧ Acts (fun _ => False) W w') := by
  obtain ⟨W1, hW1⟩ : ∃ W1, (W.alloc (.cells #[.int .u8 de, .int .u8 qu, .int .i64 en] 23)).alloc (.cells #[.int .i64 F, .int .i64 Fs, .int .i64 Rl, .bool U] 25) = W1 := ⟨_, rfl⟩
  have hA1 : Acts (fun _ => False) W W1 := by rw [← hW1]; exact (Acts.alloc (fun _ => False) _ _).trans (Acts.alloc (fun _ => False) _ _) (fun _ h => .inl h)
  have hx : W1.heap[W.heap.size]? = some (.cells #[.int .u8 de, .int .u8 qu, .int .i64 en] 23 (0, 0)) := by rw [← hW1]; exact blk_alloc (by simpa using heap_alloc_new W (.cells #[.int .u8 de, .int .u8 qu, .int .i64 en] 23)) _
  have hy : W1.heap[W.heap.size + 1]? = some (.cells #[.int .i64 F, .int .i64 Fs, .int .i64 Rl, .bool U] 25 (0, 0)) := by rw [← hW1]; simpa using heap_alloc_new (W.alloc (.cells #[.int .u8 de, .int .u8 qu, .int .i64 en] 23)) (.cells #[.int .i64 F, .int .i64 Fs, .int .i64 Rl, .bool U] 25)
  have x0 := (blk_cell hx 0).trans rfl
  have x1 := (blk_cell hx 1).trans rfl
  have x2 := (blk_cell hx 2).trans rfl
  have hcc := PTopSticky.dialect_Check.calls de qu en 0 W1 hc
  go_enter Tryd.func8, Tryd.ntmps8
  go_wp2_with (first
    | (go_at_call 22; ((with_reducible refine hcc.mono ?_); rintro e w2 ⟨rfl, hb⟩; have hA2 : Acts (fun _ => False) W1 w2 := Acts.of_below hb; have hy2 := (hA2.same _ (blk_lt hy) (fun h => h)).trans hy; have y0 := (blk_cell hy2 0).trans rfl; have y1 := (blk_cell hy2 1).trans rfl; have y2 := (blk_cell hy2 2).trans rfl; have y3 := (blk_cell hy2 3).trans rfl))
    | (go_at_call 23; ((with_reducible refine (fnew_calls F Fs Rl U _ hk).mono ?_); rintro e w3 ⟨B, rfl, hBn, hMB, hA3⟩; have hx3 := (hA3.same _ (by have := blk_lt hx; have := hA2.size; omega) (fun h => h)).trans ((hA2.same _ (blk_lt hx) (fun h => h)).trans hx))))
  refine start_ (n := 7) (S := fun w' => w'.heap[W.heap.size]? = some (.cells #[.int .u8 de, .int .u8 qu, .int .i64 en] 23 (0, 0))) (ds := []) #[false, false, false, false, false, false, false] (by kernel_rfl) rfl rfl (hx3) (fun hHeld => ?_)
  refine take_ (i := 0) (N := some 22) (v := ?_) (a' := ?_) #[true, false, false, false, false, false, false] rfl rfl (by kernel_rfl) (fun _ _ _ h => h) (Or.inl ⟨by rfl, ?_⟩) hHeld ?_ ?_
  rotate_left
  · intro w' s0
    have y0 := (blk_cell s0 0).trans rfl
    have y1 := (blk_cell s0 1).trans rfl
    have y2 := (blk_cell s0 2).trans rfl
    clear s0
    go_simp
    with_reducible rfl
  rotate_left
  · simp only [Act.put, List.setIfInBounds_toArray, List.set_cons_zero, List.set_cons_succ]
    rfl
  refine pure_ (i := 2) (N := some 24) (v := ?_) (a' := ?_) #[true, false, true, false, false, false, false] rfl rfl (by kernel_rfl) (fun _ _ _ h => h) (Or.inl ⟨by rfl, ?_⟩) ?_ ?_
  rotate_left
  · intro w'
    go_simp
    with_reducible rfl
  rotate_left
  · simp only [Act.put, List.setIfInBounds_toArray, List.set_cons_zero, List.set_cons_succ]
    rfl
  refine one_ (i := 1) (N := some 23) #[true, true, true, false, false, false, false] rfl rfl (by kernel_rfl) (by decide) (fun K hK => ?_)
  refine goes_ Tryd.func24 (by kernel_rfl) rfl #[] (by rfl) rfl rfl (by simp only [List.map_toArray, List.map_nil]) ?_
  with_reducible refine ((bnew_calls w3.drew)).mono ?_
  rintro e w4 ⟨S, rfl, hSn, hSA, hA4⟩
  refine ⟨_, rfl, ?_⟩
  refine hK.out _ _ ((hA4.same _ (blk_lt hx3) (fun h => h)).trans hx3) (fun hHeld => ?_)
  clear hK K
  refine norm_ (a' := ?_) ?_ ?_
  rotate_left
  · show Act.put _ (some 23) _ = _
    simp only [Act.put, List.setIfInBounds_toArray, List.set_cons_zero, List.set_cons_succ]
    rfl
  refine pure_ (i := 3) (N := some 25) (v := ?_) (a' := ?_) #[true, true, true, true, false, false, false] rfl rfl (by kernel_rfl) (fun _ _ _ h => h) (Or.inl ⟨by rfl, ?_⟩) ?_ ?_
  rotate_left
  · intro w'
    go_simp
    with_reducible rfl
  rotate_left
  · simp only [Act.put, List.setIfInBounds_toArray, List.set_cons_zero, List.set_cons_succ]
    rfl
  refine one_ (i := 4) (N := some 26) #[true, true, true, true, true, false, false] rfl rfl (by kernel_rfl) (by decide) (fun K hK => ?_)
  refine box_step ?hg (N := 26) ?hd (cs := #[.int .u8 de, .int .u8 qu, .int .i64 en, .pointer (some ⟨S, 0, none⟩), .pointer (some ⟨B, 0, none⟩), .int .i64 0, .int .i64 0, .int .i64 0, .int .i64 0, .int .i64 0, .bool false, .slice none 0 0, .int .i64 0]) (t := 69) ?hr ?_; (case hd => rfl); (case hg => rfl); (case hr => first | (go_simp; done) | (go_simp; rfl))
  intro R hg w5 hbox hb
  refine hK.out _ _ ((hb.block _ (blk_lt hHeld)).trans hHeld) (fun hHeld => ?_)
  clear hK K
  refine norm_ (a' := ?_) ?_ ?_
  rotate_left
  · show Act.put _ (some 26) _ = _
    simp only [Act.put, List.setIfInBounds_toArray, List.set_cons_zero, List.set_cons_succ]
    rfl
  refine pure_ (i := 5) (N := some 4) (v := ?_) (a' := ?_) #[true, true, true, true, true, true, false] rfl rfl (by kernel_rfl) (fun _ _ _ h => h) (Or.inl ⟨by rfl, ?_⟩) ?_ ?_
  rotate_left
  · intro w'
    go_simp
    with_reducible rfl
  rotate_left
  · simp only [Act.put, List.setIfInBounds_toArray, List.set_cons_zero, List.set_cons_succ]
    rfl
  refine pure_ (i := 6) (N := some 5) (v := ?_) (a' := ?_) #[true, true, true, true, true, true, true] rfl rfl (by kernel_rfl) (fun _ _ _ h => h) (Or.inl ⟨by rfl, ?_⟩) ?_ ?_
  rotate_left
  · intro w'
    go_simp
    with_reducible rfl
  rotate_left
  · simp only [Act.put, List.setIfInBounds_toArray, List.set_cons_zero, List.set_cons_succ]
    rfl
  refine done_ (by kernel_rfl) ?_
  clear hHeld
  subst hg
  go_wp2
  go_ret2
  have hM4 := hMB.acts ((Acts.drew (fun _ => False) w3).trans hA4 (fun _ h => .inl h)) (fun _ _ h => h)
  have hA5 : Acts (fun _ => False) w4 w5 := Acts.of_below hb
  have hM5 := hM4.acts hA5 (fun _ _ h => h)
  have hS5 := hSA.keep (hA5.same S hSA.lt (fun h => h))
  have hAW3 := (hA1.trans hA2 (fun _ h => .inl h)).trans hA3 (fun _ h => .inl h)
  have hAW := ((hAW3.trans (Acts.drew (fun _ => False) w3) (fun _ h => .inl h)).trans hA4 (fun _ h => .inl h)).trans hA5 (fun _ h => .inl h)
  refine ⟨⟨w4.heap.size, S, B, .slice none 0 0, .slice none 0 0, .slice none 0 0⟩, rfl, ⟨hbox, hM5, hS5, ⟨[], World.ownsRow_nil _ _ _ _, rfl, fun i v l hi => by simp at hi⟩, fun k hk => ?_⟩, hAW⟩
  have s1 := hAW3.size
  have s2 := (hA1.trans hA2 (fun _ h => .inl h)).size
  have s3 : w3.heap.size ≤ w4.heap.size := hA4.size
  have s4 : w3.heap.size ≤ S := hSn
  rcases hk with rfl | rfl | (rfl | hk | hk) | hk
  · show W.heap.size ≤ w4.heap.size; omega
  · omega
  · omega
  · cases hk
  · cases hk
  · cases hk
end Go.Proofs.YtmignbhpofmgeaaDoor.Top
