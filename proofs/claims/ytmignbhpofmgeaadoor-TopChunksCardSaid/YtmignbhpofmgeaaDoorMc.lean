/- fields.Maker: what is left of it. -/
import Derived.Test.YtmignbhpofmgeaaDoorProg
import Derived.Below
import Derived.Deep.Draws
import Derived.Deep.AppendLies
import Derived.Maps.AppendAt
import Derived.OwnWalk
import Derived.Laws.BytesArg
import Derived.Laws.MakeOwn
import Derived.Laws.OwnMore
import Derived.Deep.OwnRows
import Derived.Tactics
import Derived.Lib.ConvBytes
import Derived.Laws.Slices
import Derived.WalkKit
import Derived.KernelRfl
import Derived.RowKit3
import Derived.Deep.LoopGhost
import Derived.Deep.QuietTactic
import Derived.BigQuiet
import Derived.WideLaws
import Derived.Deep.DeepCutAuto
import Derived.Deep.CutBlock
import Derived.Deep.RegionHeld3
import Derived.Laws.Rows
import Derived.Lib.AppendStr
import Derived.ArgAppend
import Derived.Laws.IdiomCopy
import Derived.OrdersHeld
import Derived.Laws.BitsLemmas
import Derived.RowKit
import Derived.Test.YtmignbhpofmgeaaDoorWWords
import Derived.Test.YtmignbhpofmgeaaDoorWLast
import Derived.Test.YtmignbhpofmgeaaDoorWTab
import Derived.Test.YtmignbhpofmgeaaDoorWFour
import Derived.Test.YtmignbhpofmgeaaDoorWQPut
import Derived.Test.YtmignbhpofmgeaaDoorWApart
import Derived.Test.YtmignbhpofmgeaaDoorWArr
import Derived.Test.YtmignbhpofmgeaaDoorWZeros
import Derived.Test.YtmignbhpofmgeaaDoorWFoot
import Derived.Test.YtmignbhpofmgeaaDoorWKept
import Derived.Test.YtmignbhpofmgeaaDoorWShare
import Derived.Test.YtmignbhpofmgeaaDoorWN
import Derived.Test.YtmignbhpofmgeaaDoorWFootNe
import Derived.Test.YtmignbhpofmgeaaDoorWAt
import Derived.Test.YtmignbhpofmgeaaDoorWEqStruct
import Derived.Test.YtmignbhpofmgeaaDoorWRepsOne
import Derived.Test.YtmignbhpofmgeaaDoorWInv
import Derived.Test.YtmignbhpofmgeaaDoorWInvWords
import Derived.Test.YtmignbhpofmgeaaDoorWGuard
import Derived.Test.YtmignbhpofmgeaaDoorWNEv
import Derived.Test.YtmignbhpofmgeaaDoorWMore
import Derived.Test.YtmignbhpofmgeaaDoorIter
import Derived.RangeFuncBox
import Derived.Lib.ConvBytes
import Derived.Test.YtmignbhpofmgeaaDoorMb
namespace Go.Proofs.YtmignbhpofmgeaaDoor.Top
open Go.RowKit Go.Proofs.YtmignbhpofmgeaaDoorW.PrintWords Go.Proofs.YtmignbhpofmgeaaDoorW.PrintLast Go.Proofs.YtmignbhpofmgeaaDoorW.PrintMore Go.Proofs.YtmignbhpofmgeaaDoor.Iter
set_option linter.unusedVariables false
set_option linter.unusedSimpArgs false

/-- Must records have as many fields as the first one? -/
def uniM (m : MS) : Bool := m.U && decide (m.count > 0)
set_option maxRecDepth 100000 in
set_option maxHeartbeats 2000000 in
theorem uniform_calls (B : Nat) (m : MS) (fv rv : Value) (W : World) (h : MkAt B m fv rv W) :
    Calls Tryd.prog 67 #[.pointer (some ⟨B, 0, none⟩)] W (fun e w' => e = .returned (.bool (uniM m)) ∧ MkAt B m fv rv w' ∧ Acts (fun _ => False) W w') := by
  have c3 := (blk_cell h.obj 3).trans rfl
  have c7 := (blk_cell h.obj 7).trans rfl
  simp only [MS.cells] at c3 c7
  by_cases hU : m.U = true
  · rw [show uniM m = decide (m.count > 0) from by simp [uniM, hU]]
    go_enter Tryd.func67, Tryd.ntmps67
    go_wp2
    go_ret
    exact ⟨rfl, h.keep (fun _ _ => rfl), Acts.refl _ _⟩
  · rw [show uniM m = false from by simp [uniM, hU]]
    go_enter Tryd.func67, Tryd.ntmps67
    go_wp2
    go_ret
    exact ⟨rfl, h.keep (fun _ _ => rfl), Acts.refl _ _⟩
def nextM (m : MS) : MS × Int := if ((putM m).record.length : Int) ≥ m.Fs then (putM m, 8) else if uniM m = true ∧ ((putM m).record.length : Int) = m.width then (putM m, 10) else (putM m, 0)
def lineM (m : MS) : MS × Int := if uniM m = true ∧ ((putM m).record.length : Int) ≠ m.width then (putM m, 10) else (putM m, 0)

theorem MGo.keep {B : Nat} {m : MS} {fv rv fv' rv' : Value} {W W' W2 : World} (h : MGo B fv rv W m fv' rv' W') (hk : MkAt B m fv' rv' W2) (ha : Acts (fun _ => False) W' W2) : MGo B fv rv W m fv' rv' W2 := ⟨hk, h.acts.trans ha (fun _ h => h.elim), h.fnew, h.rnew⟩
set_option maxRecDepth 100000 in
set_option maxHeartbeats 2000000 in
theorem next_calls (B : Nat) (m : MS) (fv rv : Value) (W : World) (h : MkAt B m fv rv W) (hn : m.record.length ≤ 2147483648) :
    Calls Tryd.prog 60 #[.pointer (some ⟨B, 0, none⟩)] W (MTo B fv rv W (nextM m).1 (.int .i64 (nextM m).2)) := by
  obtain ⟨n, hln⟩ : ∃ n : Nat, (putM m).record.length = n := ⟨_, rfl⟩
  by_cases h1 : m.Fs ≤ (n : Int)
  · rw [show nextM m = (putM m, 8) from by unfold nextM; rw [hln, if_pos h1]]
    go_enter Tryd.func60, Tryd.ntmps60
    go_wp2_with (go_at_call 66; (with_reducible refine (put_calls B m fv rv W h hn).mono ?_); rintro e w1 ⟨rfl, fv1, rv1, hg⟩; have hm := hg.it; obtain ⟨ra, rc, rfl⟩ := slice_len hm.rrow; rw [hln] at *; have c1 := (blk_cell hm.obj 1).trans rfl; have c5 := (blk_cell hm.obj 5).trans rfl; simp only [MS.cells, putM] at c1 c5)
    go_ret
    exact ⟨rfl, _, _, hg⟩
  · cases hu : uniM m with
    | false =>
      rw [show nextM m = (putM m, 0) from by unfold nextM; rw [hln, if_neg h1, hu, if_neg (by simp)]]
      go_enter Tryd.func60, Tryd.ntmps60
      go_wp2_with (first | (go_at_call 66; (with_reducible refine (put_calls B m fv rv W h hn).mono ?_); rintro e w1 ⟨rfl, fv1, rv1, hg⟩; have hm := hg.it; obtain ⟨ra, rc, rfl⟩ := slice_len hm.rrow; rw [hln] at *; have c1 := (blk_cell hm.obj 1).trans rfl; have c5 := (blk_cell hm.obj 5).trans rfl; simp only [MS.cells, putM] at c1 c5) | (go_at_call 67; (with_reducible refine (uniform_calls B (putM m) fv1 _ w1 hm).mono ?_); rintro e w2 ⟨rfl, hm2, ha2⟩; rw [show uniM (putM m) = uniM m from rfl, hu]; have c8 := (blk_cell hm2.obj 8).trans rfl; have c5 := (blk_cell hm2.obj 5).trans rfl; simp only [MS.cells, putM] at c8 c5))
      go_ret
      exact ⟨rfl, _, _, hg.keep hm2 ha2⟩
    | true =>
      by_cases h2 : (n : Int) = m.width
      · rw [show nextM m = (putM m, 10) from by unfold nextM; rw [hln, if_neg h1, hu, if_pos ⟨rfl, h2⟩]]
        go_enter Tryd.func60, Tryd.ntmps60
        go_wp2_with (first | (go_at_call 66; (with_reducible refine (put_calls B m fv rv W h hn).mono ?_); rintro e w1 ⟨rfl, fv1, rv1, hg⟩; have hm := hg.it; obtain ⟨ra, rc, rfl⟩ := slice_len hm.rrow; rw [hln] at *; have c1 := (blk_cell hm.obj 1).trans rfl; have c5 := (blk_cell hm.obj 5).trans rfl; simp only [MS.cells, putM] at c1 c5) | (go_at_call 67; (with_reducible refine (uniform_calls B (putM m) fv1 _ w1 hm).mono ?_); rintro e w2 ⟨rfl, hm2, ha2⟩; rw [show uniM (putM m) = uniM m from rfl, hu]; have c8 := (blk_cell hm2.obj 8).trans rfl; have c5 := (blk_cell hm2.obj 5).trans rfl; simp only [MS.cells, putM] at c8 c5))
        go_ret
        exact ⟨rfl, _, _, hg.keep hm2 ha2⟩
      · rw [show nextM m = (putM m, 0) from by unfold nextM; rw [hln, if_neg h1, hu, if_neg (fun h => h2 h.2)]]
        go_enter Tryd.func60, Tryd.ntmps60
        go_wp2_with (first | (go_at_call 66; (with_reducible refine (put_calls B m fv rv W h hn).mono ?_); rintro e w1 ⟨rfl, fv1, rv1, hg⟩; have hm := hg.it; obtain ⟨ra, rc, rfl⟩ := slice_len hm.rrow; rw [hln] at *; have c1 := (blk_cell hm.obj 1).trans rfl; have c5 := (blk_cell hm.obj 5).trans rfl; simp only [MS.cells, putM] at c1 c5) | (go_at_call 67; (with_reducible refine (uniform_calls B (putM m) fv1 _ w1 hm).mono ?_); rintro e w2 ⟨rfl, hm2, ha2⟩; rw [show uniM (putM m) = uniM m from rfl, hu]; have c8 := (blk_cell hm2.obj 8).trans rfl; have c5 := (blk_cell hm2.obj 5).trans rfl; simp only [MS.cells, putM] at c8 c5))
        go_ret
        exact ⟨rfl, _, _, hg.keep hm2 ha2⟩
set_option maxRecDepth 100000 in
set_option maxHeartbeats 2000000 in
theorem line_calls (B : Nat) (m : MS) (fv rv : Value) (W : World) (h : MkAt B m fv rv W) (hn : m.record.length ≤ 2147483648) :
    Calls Tryd.prog 61 #[.pointer (some ⟨B, 0, none⟩)] W (MTo B fv rv W (lineM m).1 (.int .i64 (lineM m).2)) := by
  obtain ⟨n, hln⟩ : ∃ n : Nat, (putM m).record.length = n := ⟨_, rfl⟩
  cases hu : uniM m with
  | false =>
    rw [show lineM m = (putM m, 0) from by unfold lineM; rw [hln, hu, if_neg (by simp)]]
    go_enter Tryd.func61, Tryd.ntmps61
    go_wp2_with (go_at_call 66; (with_reducible refine (put_calls B m fv rv W h hn).mono ?_); rintro e w1 ⟨rfl, fv1, rv1, hg⟩; have hm := hg.it; obtain ⟨ra, rc, rfl⟩ := slice_len hm.rrow; rw [hln] at *; have c1 := (blk_cell hm.obj 1).trans rfl; have c5 := (blk_cell hm.obj 5).trans rfl; simp only [MS.cells, putM] at c1 c5)
    refine start_ (n := 14) (S := fun w' => MkAt B (putM m) fv1 (.slice ra n rc) w' ∧ Acts (fun _ => False) w1 w') (ds := []) #[false, false, false, false, false, false, false, false, false, false, false, false, false, false] (by kernel_rfl) rfl rfl (⟨hm.keep (fun _ _ => rfl), Acts.drew _ _⟩) (fun hHeld => ?_)
    refine pure_ (i := 0) (N := some 5) (v := ?_) (a' := ?_) #[true, false, false, false, false, false, false, false, false, false, false, false, false, false] rfl rfl (by kernel_rfl) (fun _ _ _ h => h) (Or.inl ⟨by rfl, ?_⟩) ?_ ?_
    rotate_left
    · intro w'
      go_simp
      with_reducible rfl
    rotate_left
    · simp only [Act.put, List.setIfInBounds_toArray, List.set_cons_zero, List.set_cons_succ]
      rfl
    refine one_ (i := 1) (N := some 6) #[true, true, false, false, false, false, false, false, false, false, false, false, false, false] rfl rfl (by kernel_rfl) (by decide) (fun K hK => ?_)
    refine goes_ Tryd.func67 (by kernel_rfl) rfl #[.pointer (some ⟨B, 0, none⟩)] (by rfl) rfl rfl (by simp only [List.map_toArray, List.map_cons, List.map_nil]; rfl) ?_
    with_reducible refine (uniform_calls B (putM m) fv1 _ _ hHeld.1).mono ?_
    rintro e w2 ⟨rfl, hm2, ha2⟩
    refine ⟨_, rfl, ?_⟩
    rw [show uniM (putM m) = uniM m from rfl, hu]
    refine hK.out _ _ (⟨hm2, hHeld.2.trans ha2 (fun _ h => h.elim)⟩) (fun hHeld => ?_)
    clear hK K
    refine norm_ (a' := ?_) ?_ ?_
    rotate_left
    · show Act.put _ (some 6) _ = _
      simp only [Act.put, List.setIfInBounds_toArray, List.set_cons_zero, List.set_cons_succ]
      rfl
    refine pure_ (i := 2) (N := some 7) (v := ?_) (a' := ?_) #[true, true, true, false, false, false, false, false, false, false, false, false, false, false] rfl rfl (by kernel_rfl) (fun _ _ _ h => h) (Or.inl ⟨by rfl, ?_⟩) ?_ ?_
    rotate_left
    · intro w'
      go_simp
      with_reducible rfl
    rotate_left
    · simp only [Act.put, List.setIfInBounds_toArray, List.set_cons_zero, List.set_cons_succ]
      rfl
    refine pure_ (i := 3) (N := some 8) (v := undef) (a' := ?_) #[true, true, true, true, false, false, false, false, false, false, false, false, false, false] rfl rfl (by kernel_rfl) (fun _ _ _ h => h) (Or.inr ⟨by rfl, rfl⟩) ?_ ?_
    rotate_left
    · simp only [Act.put, List.setIfInBounds_toArray, List.set_cons_zero, List.set_cons_succ]
      rfl
    refine pure_ (i := 4) (N := some 9) (v := undef) (a' := ?_) #[true, true, true, true, true, false, false, false, false, false, false, false, false, false] rfl rfl (by kernel_rfl) (fun _ _ _ h => h) (Or.inr ⟨by rfl, rfl⟩) ?_ ?_
    rotate_left
    · simp only [Act.put, List.setIfInBounds_toArray, List.set_cons_zero, List.set_cons_succ]
      rfl
    refine pure_ (i := 5) (N := some 10) (v := undef) (a' := ?_) #[true, true, true, true, true, true, false, false, false, false, false, false, false, false] rfl rfl (by kernel_rfl) (fun _ _ _ h => h) (Or.inr ⟨by rfl, rfl⟩) ?_ ?_
    rotate_left
    · simp only [Act.put, List.setIfInBounds_toArray, List.set_cons_zero, List.set_cons_succ]
      rfl
    refine pure_ (i := 6) (N := some 11) (v := undef) (a' := ?_) #[true, true, true, true, true, true, true, false, false, false, false, false, false, false] rfl rfl (by kernel_rfl) (fun _ _ _ h => h) (Or.inr ⟨by rfl, rfl⟩) ?_ ?_
    rotate_left
    · simp only [Act.put, List.setIfInBounds_toArray, List.set_cons_zero, List.set_cons_succ]
      rfl
    refine pure_ (i := 7) (N := some 12) (v := undef) (a' := ?_) #[true, true, true, true, true, true, true, true, false, false, false, false, false, false] rfl rfl (by kernel_rfl) (fun _ _ _ h => h) (Or.inr ⟨by rfl, rfl⟩) ?_ ?_
    rotate_left
    · simp only [Act.put, List.setIfInBounds_toArray, List.set_cons_zero, List.set_cons_succ]
      rfl
    refine pure_ (i := 8) (N := some 13) (v := undef) (a' := ?_) #[true, true, true, true, true, true, true, true, true, false, false, false, false, false] rfl rfl (by kernel_rfl) (fun _ _ _ h => h) (Or.inr ⟨by rfl, rfl⟩) ?_ ?_
    rotate_left
    · simp only [Act.put, List.setIfInBounds_toArray, List.set_cons_zero, List.set_cons_succ]
      rfl
    refine pure_ (i := 9) (N := some 14) (v := undef) (a' := ?_) #[true, true, true, true, true, true, true, true, true, true, false, false, false, false] rfl rfl (by kernel_rfl) (fun _ _ _ h => h) (Or.inr ⟨by rfl, rfl⟩) ?_ ?_
    rotate_left
    · simp only [Act.put, List.setIfInBounds_toArray, List.set_cons_zero, List.set_cons_succ]
      rfl
    refine pure_ (i := 10) (N := some 15) (v := undef) (a' := ?_) #[true, true, true, true, true, true, true, true, true, true, true, false, false, false] rfl rfl (by kernel_rfl) (fun _ _ _ h => h) (Or.inr ⟨by rfl, rfl⟩) ?_ ?_
    rotate_left
    · simp only [Act.put, List.setIfInBounds_toArray, List.set_cons_zero, List.set_cons_succ]
      rfl
    refine pure_ (i := 11) (N := some 16) (v := undef) (a' := ?_) #[true, true, true, true, true, true, true, true, true, true, true, true, false, false] rfl rfl (by kernel_rfl) (fun _ _ _ h => h) (Or.inr ⟨by rfl, rfl⟩) ?_ ?_
    rotate_left
    · simp only [Act.put, List.setIfInBounds_toArray, List.set_cons_zero, List.set_cons_succ]
      rfl
    refine pure_ (i := 12) (N := some 17) (v := undef) (a' := ?_) #[true, true, true, true, true, true, true, true, true, true, true, true, true, false] rfl rfl (by kernel_rfl) (fun _ _ _ h => h) (Or.inr ⟨by rfl, rfl⟩) ?_ ?_
    rotate_left
    · simp only [Act.put, List.setIfInBounds_toArray, List.set_cons_zero, List.set_cons_succ]
      rfl
    refine pure_ (i := 13) (N := some 18) (v := ?_) (a' := ?_) #[true, true, true, true, true, true, true, true, true, true, true, true, true, true] rfl rfl (by kernel_rfl) (fun _ _ _ h => h) (Or.inl ⟨by rfl, ?_⟩) ?_ ?_
    rotate_left
    · intro w'
      go_simp
      with_reducible rfl
    rotate_left
    · simp only [Act.put, List.setIfInBounds_toArray, List.set_cons_zero, List.set_cons_succ]
      rfl
    refine done_ (by kernel_rfl) ?_
    go_wp2
    go_ret
    exact ⟨rfl, _, _, hg.keep hHeld.1 hHeld.2⟩
  | true =>
    by_cases h2 : (n : Int) = m.width
    · rw [show lineM m = (putM m, 0) from by unfold lineM; rw [hln, hu, if_neg (fun h => h.2 h2)]]
      go_enter Tryd.func61, Tryd.ntmps61
      go_wp2_with (go_at_call 66; (with_reducible refine (put_calls B m fv rv W h hn).mono ?_); rintro e w1 ⟨rfl, fv1, rv1, hg⟩; have hm := hg.it; obtain ⟨ra, rc, rfl⟩ := slice_len hm.rrow; rw [hln] at *; have c1 := (blk_cell hm.obj 1).trans rfl; have c5 := (blk_cell hm.obj 5).trans rfl; simp only [MS.cells, putM] at c1 c5)
      refine start_ (n := 14) (S := fun w' => MkAt B (putM m) fv1 (.slice ra n rc) w' ∧ Acts (fun _ => False) w1 w') (ds := []) #[false, false, false, false, false, false, false, false, false, false, false, false, false, false] (by kernel_rfl) rfl rfl (⟨hm.keep (fun _ _ => rfl), Acts.drew _ _⟩) (fun hHeld => ?_)
      refine pure_ (i := 0) (N := some 5) (v := ?_) (a' := ?_) #[true, false, false, false, false, false, false, false, false, false, false, false, false, false] rfl rfl (by kernel_rfl) (fun _ _ _ h => h) (Or.inl ⟨by rfl, ?_⟩) ?_ ?_
      rotate_left
      · intro w'
        go_simp
        with_reducible rfl
      rotate_left
      · simp only [Act.put, List.setIfInBounds_toArray, List.set_cons_zero, List.set_cons_succ]
        rfl
      refine one_ (i := 1) (N := some 6) #[true, true, false, false, false, false, false, false, false, false, false, false, false, false] rfl rfl (by kernel_rfl) (by decide) (fun K hK => ?_)
      refine goes_ Tryd.func67 (by kernel_rfl) rfl #[.pointer (some ⟨B, 0, none⟩)] (by rfl) rfl rfl (by simp only [List.map_toArray, List.map_cons, List.map_nil]; rfl) ?_
      with_reducible refine (uniform_calls B (putM m) fv1 _ _ hHeld.1).mono ?_
      rintro e w2 ⟨rfl, hm2, ha2⟩
      refine ⟨_, rfl, ?_⟩
      rw [show uniM (putM m) = uniM m from rfl, hu]
      refine hK.out _ _ (⟨hm2, hHeld.2.trans ha2 (fun _ h => h.elim)⟩) (fun hHeld => ?_)
      clear hK K
      refine norm_ (a' := ?_) ?_ ?_
      rotate_left
      · show Act.put _ (some 6) _ = _
        simp only [Act.put, List.setIfInBounds_toArray, List.set_cons_zero, List.set_cons_succ]
        rfl
      refine pure_ (i := 2) (N := some 7) (v := ?_) (a' := ?_) #[true, true, true, false, false, false, false, false, false, false, false, false, false, false] rfl rfl (by kernel_rfl) (fun _ _ _ h => h) (Or.inl ⟨by rfl, ?_⟩) ?_ ?_
      rotate_left
      · intro w'
        go_simp
        with_reducible rfl
      rotate_left
      · simp only [Act.put, List.setIfInBounds_toArray, List.set_cons_zero, List.set_cons_succ]
        rfl
      refine pure_ (i := 3) (N := some 8) (v := ?_) (a' := ?_) #[true, true, true, true, false, false, false, false, false, false, false, false, false, false] rfl rfl (by kernel_rfl) (fun _ _ _ h => h) (Or.inl ⟨by rfl, ?_⟩) ?_ ?_
      rotate_left
      · intro w'
        go_simp
        with_reducible rfl
      rotate_left
      · simp only [Act.put, List.setIfInBounds_toArray, List.set_cons_zero, List.set_cons_succ]
        rfl
      refine pure_ (i := 4) (N := some 9) (v := ?_) (a' := ?_) #[true, true, true, true, true, false, false, false, false, false, false, false, false, false] rfl rfl (by kernel_rfl) (fun _ _ _ h => h) (Or.inl ⟨by rfl, ?_⟩) ?_ ?_
      rotate_left
      · intro w'
        go_simp
        with_reducible rfl
      rotate_left
      · simp only [Act.put, List.setIfInBounds_toArray, List.set_cons_zero, List.set_cons_succ]
        rfl
      refine pure_ (i := 5) (N := some 10) (v := ?_) (a' := ?_) #[true, true, true, true, true, true, false, false, false, false, false, false, false, false] rfl rfl (by kernel_rfl) (fun _ _ _ h => h) (Or.inl ⟨by rfl, ?_⟩) ?_ ?_
      rotate_left
      · intro w'
        go_simp
        with_reducible rfl
      rotate_left
      · simp only [Act.put, List.setIfInBounds_toArray, List.set_cons_zero, List.set_cons_succ]
        rfl
      refine take_ (i := 6) (N := some 11) (v := ?_) (a' := ?_) #[true, true, true, true, true, true, true, false, false, false, false, false, false, false] rfl rfl (by kernel_rfl) (fun _ _ _ h => h) (Or.inl ⟨by rfl, ?_⟩) hHeld ?_ ?_
      rotate_left
      · intro w' s0
        have c := (blk_cell s0.1.obj 5).trans rfl
        simp only [MS.cells, putM] at c
        go_simp
        with_reducible rfl
      rotate_left
      · simp only [Act.put, List.setIfInBounds_toArray, List.set_cons_zero, List.set_cons_succ]
        rfl
      refine pure_ (i := 7) (N := some 12) (v := ?_) (a' := ?_) #[true, true, true, true, true, true, true, true, false, false, false, false, false, false] rfl rfl (by kernel_rfl) (fun _ _ _ h => h) (Or.inl ⟨by rfl, ?_⟩) ?_ ?_
      rotate_left
      · intro w'
        go_simp
        with_reducible rfl
      rotate_left
      · simp only [Act.put, List.setIfInBounds_toArray, List.set_cons_zero, List.set_cons_succ]
        rfl
      refine pure_ (i := 8) (N := some 13) (v := ?_) (a' := ?_) #[true, true, true, true, true, true, true, true, true, false, false, false, false, false] rfl rfl (by kernel_rfl) (fun _ _ _ h => h) (Or.inl ⟨by rfl, ?_⟩) ?_ ?_
      rotate_left
      · intro w'
        go_simp
        with_reducible rfl
      rotate_left
      · simp only [Act.put, List.setIfInBounds_toArray, List.set_cons_zero, List.set_cons_succ]
        rfl
      refine pure_ (i := 9) (N := some 14) (v := ?_) (a' := ?_) #[true, true, true, true, true, true, true, true, true, true, false, false, false, false] rfl rfl (by kernel_rfl) (fun _ _ _ h => h) (Or.inl ⟨by rfl, ?_⟩) ?_ ?_
      rotate_left
      · intro w'
        go_simp
        with_reducible rfl
      rotate_left
      · simp only [Act.put, List.setIfInBounds_toArray, List.set_cons_zero, List.set_cons_succ]
        rfl
      refine pure_ (i := 10) (N := some 15) (v := ?_) (a' := ?_) #[true, true, true, true, true, true, true, true, true, true, true, false, false, false] rfl rfl (by kernel_rfl) (fun _ _ _ h => h) (Or.inl ⟨by rfl, ?_⟩) ?_ ?_
      rotate_left
      · intro w'
        go_simp
        with_reducible rfl
      rotate_left
      · simp only [Act.put, List.setIfInBounds_toArray, List.set_cons_zero, List.set_cons_succ]
        rfl
      refine take_ (i := 11) (N := some 16) (v := ?_) (a' := ?_) #[true, true, true, true, true, true, true, true, true, true, true, true, false, false] rfl rfl (by kernel_rfl) (fun _ _ _ h => h) (Or.inl ⟨by rfl, ?_⟩) hHeld ?_ ?_
      rotate_left
      · intro w' s0
        have c := (blk_cell s0.1.obj 8).trans rfl
        simp only [MS.cells, putM] at c
        go_simp
        with_reducible rfl
      rotate_left
      · simp only [Act.put, List.setIfInBounds_toArray, List.set_cons_zero, List.set_cons_succ]
        rfl
      refine pure_ (i := 12) (N := some 17) (v := ?_) (a' := ?_) #[true, true, true, true, true, true, true, true, true, true, true, true, true, false] rfl rfl (by kernel_rfl) (fun _ _ _ h => h) (Or.inl ⟨by rfl, ?_⟩) ?_ ?_
      rotate_left
      · intro w'
        go_simp
        with_reducible rfl
      rotate_left
      · simp only [Act.put, List.setIfInBounds_toArray, List.set_cons_zero, List.set_cons_succ]
        rfl
      refine pure_ (i := 13) (N := some 18) (v := ?_) (a' := ?_) #[true, true, true, true, true, true, true, true, true, true, true, true, true, true] rfl rfl (by kernel_rfl) (fun _ _ _ h => h) (Or.inl ⟨by rfl, ?_⟩) ?_ ?_
      rotate_left
      · intro w'
        go_simp
        with_reducible rfl
      rotate_left
      · simp only [Act.put, List.setIfInBounds_toArray, List.set_cons_zero, List.set_cons_succ]
        rfl
      refine done_ (by kernel_rfl) ?_
      go_wp2
      go_ret
      exact ⟨rfl, _, _, hg.keep hHeld.1 hHeld.2⟩
    · rw [show lineM m = (putM m, 10) from by unfold lineM; rw [hln, hu, if_pos ⟨rfl, h2⟩]]
      go_enter Tryd.func61, Tryd.ntmps61
      go_wp2_with (go_at_call 66; (with_reducible refine (put_calls B m fv rv W h hn).mono ?_); rintro e w1 ⟨rfl, fv1, rv1, hg⟩; have hm := hg.it; obtain ⟨ra, rc, rfl⟩ := slice_len hm.rrow; rw [hln] at *; have c1 := (blk_cell hm.obj 1).trans rfl; have c5 := (blk_cell hm.obj 5).trans rfl; simp only [MS.cells, putM] at c1 c5)
      refine start_ (n := 14) (S := fun w' => MkAt B (putM m) fv1 (.slice ra n rc) w' ∧ Acts (fun _ => False) w1 w') (ds := []) #[false, false, false, false, false, false, false, false, false, false, false, false, false, false] (by kernel_rfl) rfl rfl (⟨hm.keep (fun _ _ => rfl), Acts.drew _ _⟩) (fun hHeld => ?_)
      refine pure_ (i := 0) (N := some 5) (v := ?_) (a' := ?_) #[true, false, false, false, false, false, false, false, false, false, false, false, false, false] rfl rfl (by kernel_rfl) (fun _ _ _ h => h) (Or.inl ⟨by rfl, ?_⟩) ?_ ?_
      rotate_left
      · intro w'
        go_simp
        with_reducible rfl
      rotate_left
      · simp only [Act.put, List.setIfInBounds_toArray, List.set_cons_zero, List.set_cons_succ]
        rfl
      refine one_ (i := 1) (N := some 6) #[true, true, false, false, false, false, false, false, false, false, false, false, false, false] rfl rfl (by kernel_rfl) (by decide) (fun K hK => ?_)
      refine goes_ Tryd.func67 (by kernel_rfl) rfl #[.pointer (some ⟨B, 0, none⟩)] (by rfl) rfl rfl (by simp only [List.map_toArray, List.map_cons, List.map_nil]; rfl) ?_
      with_reducible refine (uniform_calls B (putM m) fv1 _ _ hHeld.1).mono ?_
      rintro e w2 ⟨rfl, hm2, ha2⟩
      refine ⟨_, rfl, ?_⟩
      rw [show uniM (putM m) = uniM m from rfl, hu]
      refine hK.out _ _ (⟨hm2, hHeld.2.trans ha2 (fun _ h => h.elim)⟩) (fun hHeld => ?_)
      clear hK K
      refine norm_ (a' := ?_) ?_ ?_
      rotate_left
      · show Act.put _ (some 6) _ = _
        simp only [Act.put, List.setIfInBounds_toArray, List.set_cons_zero, List.set_cons_succ]
        rfl
      refine pure_ (i := 2) (N := some 7) (v := ?_) (a' := ?_) #[true, true, true, false, false, false, false, false, false, false, false, false, false, false] rfl rfl (by kernel_rfl) (fun _ _ _ h => h) (Or.inl ⟨by rfl, ?_⟩) ?_ ?_
      rotate_left
      · intro w'
        go_simp
        with_reducible rfl
      rotate_left
      · simp only [Act.put, List.setIfInBounds_toArray, List.set_cons_zero, List.set_cons_succ]
        rfl
      refine pure_ (i := 3) (N := some 8) (v := ?_) (a' := ?_) #[true, true, true, true, false, false, false, false, false, false, false, false, false, false] rfl rfl (by kernel_rfl) (fun _ _ _ h => h) (Or.inl ⟨by rfl, ?_⟩) ?_ ?_
      rotate_left
      · intro w'
        go_simp
        with_reducible rfl
      rotate_left
      · simp only [Act.put, List.setIfInBounds_toArray, List.set_cons_zero, List.set_cons_succ]
        rfl
      refine pure_ (i := 4) (N := some 9) (v := ?_) (a' := ?_) #[true, true, true, true, true, false, false, false, false, false, false, false, false, false] rfl rfl (by kernel_rfl) (fun _ _ _ h => h) (Or.inl ⟨by rfl, ?_⟩) ?_ ?_
      rotate_left
      · intro w'
        go_simp
        with_reducible rfl
      rotate_left
      · simp only [Act.put, List.setIfInBounds_toArray, List.set_cons_zero, List.set_cons_succ]
        rfl
      refine pure_ (i := 5) (N := some 10) (v := ?_) (a' := ?_) #[true, true, true, true, true, true, false, false, false, false, false, false, false, false] rfl rfl (by kernel_rfl) (fun _ _ _ h => h) (Or.inl ⟨by rfl, ?_⟩) ?_ ?_
      rotate_left
      · intro w'
        go_simp
        with_reducible rfl
      rotate_left
      · simp only [Act.put, List.setIfInBounds_toArray, List.set_cons_zero, List.set_cons_succ]
        rfl
      refine take_ (i := 6) (N := some 11) (v := ?_) (a' := ?_) #[true, true, true, true, true, true, true, false, false, false, false, false, false, false] rfl rfl (by kernel_rfl) (fun _ _ _ h => h) (Or.inl ⟨by rfl, ?_⟩) hHeld ?_ ?_
      rotate_left
      · intro w' s0
        have c := (blk_cell s0.1.obj 5).trans rfl
        simp only [MS.cells, putM] at c
        go_simp
        with_reducible rfl
      rotate_left
      · simp only [Act.put, List.setIfInBounds_toArray, List.set_cons_zero, List.set_cons_succ]
        rfl
      refine pure_ (i := 7) (N := some 12) (v := ?_) (a' := ?_) #[true, true, true, true, true, true, true, true, false, false, false, false, false, false] rfl rfl (by kernel_rfl) (fun _ _ _ h => h) (Or.inl ⟨by rfl, ?_⟩) ?_ ?_
      rotate_left
      · intro w'
        go_simp
        with_reducible rfl
      rotate_left
      · simp only [Act.put, List.setIfInBounds_toArray, List.set_cons_zero, List.set_cons_succ]
        rfl
      refine pure_ (i := 8) (N := some 13) (v := ?_) (a' := ?_) #[true, true, true, true, true, true, true, true, true, false, false, false, false, false] rfl rfl (by kernel_rfl) (fun _ _ _ h => h) (Or.inl ⟨by rfl, ?_⟩) ?_ ?_
      rotate_left
      · intro w'
        go_simp
        with_reducible rfl
      rotate_left
      · simp only [Act.put, List.setIfInBounds_toArray, List.set_cons_zero, List.set_cons_succ]
        rfl
      refine pure_ (i := 9) (N := some 14) (v := ?_) (a' := ?_) #[true, true, true, true, true, true, true, true, true, true, false, false, false, false] rfl rfl (by kernel_rfl) (fun _ _ _ h => h) (Or.inl ⟨by rfl, ?_⟩) ?_ ?_
      rotate_left
      · intro w'
        go_simp
        with_reducible rfl
      rotate_left
      · simp only [Act.put, List.setIfInBounds_toArray, List.set_cons_zero, List.set_cons_succ]
        rfl
      refine pure_ (i := 10) (N := some 15) (v := ?_) (a' := ?_) #[true, true, true, true, true, true, true, true, true, true, true, false, false, false] rfl rfl (by kernel_rfl) (fun _ _ _ h => h) (Or.inl ⟨by rfl, ?_⟩) ?_ ?_
      rotate_left
      · intro w'
        go_simp
        with_reducible rfl
      rotate_left
      · simp only [Act.put, List.setIfInBounds_toArray, List.set_cons_zero, List.set_cons_succ]
        rfl
      refine take_ (i := 11) (N := some 16) (v := ?_) (a' := ?_) #[true, true, true, true, true, true, true, true, true, true, true, true, false, false] rfl rfl (by kernel_rfl) (fun _ _ _ h => h) (Or.inl ⟨by rfl, ?_⟩) hHeld ?_ ?_
      rotate_left
      · intro w' s0
        have c := (blk_cell s0.1.obj 8).trans rfl
        simp only [MS.cells, putM] at c
        go_simp
        with_reducible rfl
      rotate_left
      · simp only [Act.put, List.setIfInBounds_toArray, List.set_cons_zero, List.set_cons_succ]
        rfl
      refine pure_ (i := 12) (N := some 17) (v := ?_) (a' := ?_) #[true, true, true, true, true, true, true, true, true, true, true, true, true, false] rfl rfl (by kernel_rfl) (fun _ _ _ h => h) (Or.inl ⟨by rfl, ?_⟩) ?_ ?_
      rotate_left
      · intro w'
        go_simp
        with_reducible rfl
      rotate_left
      · simp only [Act.put, List.setIfInBounds_toArray, List.set_cons_zero, List.set_cons_succ]
        rfl
      refine pure_ (i := 13) (N := some 18) (v := ?_) (a' := ?_) #[true, true, true, true, true, true, true, true, true, true, true, true, true, true] rfl rfl (by kernel_rfl) (fun _ _ _ h => h) (Or.inl ⟨by rfl, ?_⟩) ?_ ?_
      rotate_left
      · intro w'
        go_simp
        with_reducible rfl
      rotate_left
      · simp only [Act.put, List.setIfInBounds_toArray, List.set_cons_zero, List.set_cons_succ]
        rfl
      refine done_ (by kernel_rfl) ?_
      go_wp2
      go_ret
      exact ⟨rfl, _, _, hg.keep hHeld.1 hHeld.2⟩
end Go.Proofs.YtmignbhpofmgeaaDoor.Top
