/- A part of the reader. -/
import Derived.Test.YtmignbhpofmgeaaDoorProg
import Derived.Below
import Derived.Deep.Draws
import Derived.Deep.AppendLies
import Derived.Maps.AppendAt
import Derived.OwnWalk
import Derived.Laws.BytesArg
import Derived.Laws.MakeOwn
import Derived.Laws.OwnMore
import Derived.Deep.OwnRows
import Derived.Tactics
import Derived.Lib.ConvBytes
import Derived.Laws.Slices
import Derived.WalkKit
import Derived.KernelRfl
import Derived.RowKit3
import Derived.Deep.LoopGhost
import Derived.Deep.QuietTactic
import Derived.BigQuiet
import Derived.WideLaws
import Derived.Deep.DeepCutAuto
import Derived.Deep.CutBlock
import Derived.Deep.RegionHeld3
import Derived.Laws.Rows
import Derived.Lib.AppendStr
import Derived.ArgAppend
import Derived.Laws.IdiomCopy
import Derived.OrdersHeld
import Derived.Laws.BitsLemmas
import Derived.RowKit
import Derived.Test.YtmignbhpofmgeaaDoorWWords
import Derived.Test.YtmignbhpofmgeaaDoorWLast
import Derived.Test.YtmignbhpofmgeaaDoorWTab
import Derived.Test.YtmignbhpofmgeaaDoorWFour
import Derived.Test.YtmignbhpofmgeaaDoorWQPut
import Derived.Test.YtmignbhpofmgeaaDoorWApart
import Derived.Test.YtmignbhpofmgeaaDoorWArr
import Derived.Test.YtmignbhpofmgeaaDoorWZeros
import Derived.Test.YtmignbhpofmgeaaDoorWFoot
import Derived.Test.YtmignbhpofmgeaaDoorWKept
import Derived.Test.YtmignbhpofmgeaaDoorWShare
import Derived.Test.YtmignbhpofmgeaaDoorWN
import Derived.Test.YtmignbhpofmgeaaDoorWFootNe
import Derived.Test.YtmignbhpofmgeaaDoorWAt
import Derived.Test.YtmignbhpofmgeaaDoorWEqStruct
import Derived.Test.YtmignbhpofmgeaaDoorWRepsOne
import Derived.Test.YtmignbhpofmgeaaDoorWInv
import Derived.Test.YtmignbhpofmgeaaDoorWInvWords
import Derived.Test.YtmignbhpofmgeaaDoorWGuard
import Derived.Test.YtmignbhpofmgeaaDoorWNEv
import Derived.Test.YtmignbhpofmgeaaDoorWMore
import Derived.Test.YtmignbhpofmgeaaDoorIter
import Derived.RangeFuncBox
import Derived.Lib.ConvBytes
import Derived.Test.YtmignbhpofmgeaaDoorNc
namespace Go.Proofs.YtmignbhpofmgeaaDoor.Top
open Go.RowKit Go.Proofs.YtmignbhpofmgeaaDoorW.PrintWords Go.Proofs.YtmignbhpofmgeaaDoorW.PrintLast Go.Proofs.YtmignbhpofmgeaaDoorW.PrintMore Go.Proofs.YtmignbhpofmgeaaDoor.Iter
set_option linter.unusedVariables false
set_option linter.unusedSimpArgs false

theorem tab_ls : (stA 6).2.2 = [[⟨#[97]⟩, ⟨#[98]⟩]] := by kernel_rfl
theorem owns_cell {W : World} {base e n : Nat} {v : Value} {xs : List Value} (h : W.ownsRow base e 1 v n xs) (i : Nat) (x : Value) (hx : xs[i]? = some x) : ∃ g cap, v = .slice (some ⟨g, 0, none⟩) n cap ∧ W.cell? ⟨g, i, none⟩ = some x ∧ g < W.heap.size := by
  have hl : xs.length = n := by have := h.1; omega
  have hi : i < xs.length := (List.getElem?_eq_some_iff.1 hx).1
  rcases h.2 with ⟨_, h0⟩ | ⟨g, cap, cur, rfl, h1, h2, h3, h4, h5, h6⟩
  · omega
  · refine ⟨g, cap, rfl, ?_, blk_lt h2⟩
    rw [blk_cell h2 i, ← Array.getElem?_toList, ← List.getElem?_take_of_lt (i := i) (j := n * 1) (by omega), h6, hx]
set_option maxRecDepth 100000 in
set_option maxHeartbeats 8000000 in
theorem parse_calls (n0 : Nat) (W : World) (hU : Utf n0 W) :
    Calls Tryd.prog 21 #[.agg #[.int .u8 44, .int .u8 34, .int .i64 1], .agg #[.int .i64 9, .int .i64 9, .int .i64 9, .bool false], .string ⟨#[97, 44, 34, 98, 34, 10]⟩] W
      (fun e w' => ∃ qv, e = .returned (.tuple #[qv, .agg #[.int .i64 0, .int .i64 0]]) ∧ (∃ rv rows, w'.ownsRow 0 61 1 qv (stA 6).2.2.length rows ∧ RowsAt rv w' rows (stA 6).2.2) ∧ Acts (fun _ => False) W w') := by
  obtain ⟨W1, hW1⟩ : ∃ W1, (((W.alloc (.cells #[.int .u8 44, .int .u8 34, .int .i64 1] 23)).alloc (.cells #[.int .i64 9, .int .i64 9, .int .i64 9, .bool false] 25)).alloc (.cells #[.int .i64 0, .int .i64 0] 35)).alloc (.cells #[.slice none 0 0] 44) = W1 := ⟨_, rfl⟩
  have hA1 : Acts (fun _ => False) W W1 := by rw [← hW1]; exact (((Acts.alloc (fun _ => False) _ _).trans (Acts.alloc (fun _ => False) _ _) (fun _ h => .inl h)).trans (Acts.alloc (fun _ => False) _ _) (fun _ h => .inl h)).trans (Acts.alloc (fun _ => False) _ _) (fun _ h => .inl h)
  have hx : W1.heap[W.heap.size]? = some (.cells #[.int .u8 44, .int .u8 34, .int .i64 1] 23 (0, 0)) := by rw [← hW1]; exact blk_alloc (blk_alloc (blk_alloc (by simpa using heap_alloc_new W (.cells #[.int .u8 44, .int .u8 34, .int .i64 1] 23)) _) _) _
  have hy : W1.heap[W.heap.size + 1]? = some (.cells #[.int .i64 9, .int .i64 9, .int .i64 9, .bool false] 25 (0, 0)) := by rw [← hW1]; exact blk_alloc (blk_alloc (by simpa using heap_alloc_new (W.alloc (.cells #[.int .u8 44, .int .u8 34, .int .i64 1] 23)) (.cells #[.int .i64 9, .int .i64 9, .int .i64 9, .bool false] 25)) _) _
  have hz : W1.heap[W.heap.size + 2]? = some (.cells #[.int .i64 0, .int .i64 0] 35 (0, 0)) := by rw [← hW1]; exact blk_alloc (by simpa using heap_alloc_new ((W.alloc (.cells #[.int .u8 44, .int .u8 34, .int .i64 1] 23)).alloc (.cells #[.int .i64 9, .int .i64 9, .int .i64 9, .bool false] 25)) (.cells #[.int .i64 0, .int .i64 0] 35)) _
  have hO : W1.heap[W.heap.size + 3]? = some (.cells #[.slice none 0 0] 44 (0, 0)) := by rw [← hW1]; simpa using heap_alloc_new (((W.alloc (.cells #[.int .u8 44, .int .u8 34, .int .i64 1] 23)).alloc (.cells #[.int .i64 9, .int .i64 9, .int .i64 9, .bool false] 25)).alloc (.cells #[.int .i64 0, .int .i64 0] 35)) (.cells #[.slice none 0 0] 44)
  have x0 := (blk_cell hx 0).trans rfl
  have x1 := (blk_cell hx 1).trans rfl
  have x2 := (blk_cell hx 2).trans rfl
  have y0 := (blk_cell hy 0).trans rfl
  have y1 := (blk_cell hy 1).trans rfl
  have y2 := (blk_cell hy 2).trans rfl
  have y3 := (blk_cell hy 3).trans rfl
  have hwc := wwalk_calls n0 (W.heap.size + 3) W1 (hU.acts hA1 (fun _ h => h.elim)) hO (by have := hU.1; omega)
  go_enter Tryd.func21, Tryd.ntmps21
  go_wp2_with (first
    | (go_at_call 38; ((with_reducible refine hwc.mono ?_); rintro e w2 ⟨rfl, ⟨rv, qv, rows, hO2, hq, hr⟩, hA2⟩)))
  have hs1 := blk_lt hO
  have hs2 := hA2.size
  have hA3 : Acts (fun _ => False) w2 (w2.alloc (.cells #[.int .i64 0, .int .i64 0] 35)) := Acts.alloc _ _ _
  have hL3 : (w2.alloc (.cells #[.int .i64 0, .int .i64 0] 35)).heap[w2.heap.size]? = some (.cells #[.int .i64 0, .int .i64 0] 35 (0, 0)) := by simpa using heap_alloc_new w2 (.cells #[.int .i64 0, .int .i64 0] 35)
  have hO3 := (hA3.same _ (blk_lt hO2) (fun h => h)).trans hO2
  have hz2 := (hA2.same _ (blk_lt hz) (by omega)).trans hz
  have hz3 := (hA3.same _ (blk_lt hz2) (fun h => h)).trans hz2
  have l0 := (blk_cell hz3 0).trans rfl
  have l1 := (blk_cell hz3 1).trans rfl
  have k0 := blk_frozen hz3 0
  have k1 := blk_frozen hz3 1
  obtain ⟨w4, hw4⟩ : ∃ w4, w2.alloc (.cells #[.int .i64 0, .int .i64 0] 35) = w4 := ⟨_, rfl⟩
  rw [hw4] at hA3 hL3 hO3 hz3 l0 l1 k0 k1 ⊢
  have hL5 := flt_stored hz3 (.int .i64 0) (.int .i64 0)
  have hA5 := flt_acts w4 (W.heap.size + 2) (.int .i64 0) (.int .i64 0)
  obtain ⟨w5, hw5⟩ : ∃ w5, (w4.drew.setCell ⟨W.heap.size + 2, 0, none⟩ (.int .i64 0)).setCell ⟨W.heap.size + 2, 1, none⟩ (.int .i64 0) = w5 := ⟨_, rfl⟩
  have hA5 : Acts (fun k => k = W.heap.size + 2) w4 w5 := by rw [← hw5]; exact (Acts.drew (fun k => k = W.heap.size + 2) w4).trans (flt_acts w4.drew _ _ _) (fun _ h => .inl h)
  have hL5 : w5.heap[W.heap.size + 2]? = some (.cells #[.int .i64 0, .int .i64 0] 35 (0, 0)) := by rw [← hw5]; exact flt_stored (W := w4.drew) hz3 _ _
  refine start_ (n := 4) (S := fun w' => w'.heap[W.heap.size + 3]? = some (.cells #[qv] 44 (0, 0)) ∧ w'.heap[w2.heap.size]? = some (.cells #[.int .i64 0, .int .i64 0] 35 (0, 0))) (ds := [3]) #[false, false, false, false] (by kernel_rfl) rfl rfl (⟨hO3, hL3⟩) (fun hHeld => ?_)
  refine take_ (i := 0) (N := some 19) (v := ?_) (a' := ?_) #[true, false, false, false] rfl rfl (by kernel_rfl) (fun _ _ _ h => h) (Or.inl ⟨by rfl, ?_⟩) hHeld ?_ ?_
  rotate_left
  · intro w' s0
    obtain ⟨s1, s2⟩ := s0
    have y0 := (blk_cell s1 0).trans rfl
    clear s1 s2
    go_simp
    with_reducible rfl
  rotate_left
  · simp only [Act.put, List.setIfInBounds_toArray, List.set_cons_zero, List.set_cons_succ]
    rfl
  refine take_ (i := 1) (N := some 20) (v := ?_) (a' := ?_) #[true, true, false, false] rfl rfl (by kernel_rfl) (fun _ _ _ h => h) (Or.inl ⟨by rfl, ?_⟩) hHeld ?_ ?_
  rotate_left
  · intro w' s0
    obtain ⟨s1, s2⟩ := s0
    have y0 := (blk_cell s2 0).trans rfl
    have y1 := (blk_cell s2 1).trans rfl
    clear s1 s2
    go_simp
    with_reducible rfl
  rotate_left
  · simp only [Act.put, List.setIfInBounds_toArray, List.set_cons_zero, List.set_cons_succ]
    rfl
  refine pure_ (i := 2) (N := some 6) (v := ?_) (a' := ?_) #[true, true, true, false] rfl rfl (by kernel_rfl) (fun _ _ _ h => h) (Or.inl ⟨by rfl, ?_⟩) ?_ ?_
  rotate_left
  · intro w'
    go_simp
    with_reducible rfl
  rotate_left
  · simp only [Act.put, List.setIfInBounds_toArray, List.set_cons_zero, List.set_cons_succ]
    rfl
  refine last_ (i := 3) (N := none) #[true, true, true, true] rfl rfl (by kernel_rfl) (by decide) (fun K hK => ?_)
  refine skip_ (w1 := w5) (by rfl) rfl ?_ ?_
  · rw [← hw5]
    go_simp
  refine hK.out _ _ ?_
  clear hK K
  refine done_ (by kernel_rfl) ?_
  clear hHeld
  go_wp2
  refine bodyPost_ret (results_tmp_cell35 rfl _ _ (W.heap.size + 2) (.int .i64 0) (.int .i64 0) ?_ ?_) ?_ ?_
  · rfl
  · exact hL5
  · rfl
  have hq3 : w4.ownsRow 0 61 1 qv (stA 6).2.2.length rows := owns_keep hq (fun k e => hA3.same k (row_lt hq k e) (fun h => h))
  have hr3 : RowsAt rv w4 rows (stA 6).2.2 := ⟨hr.1, fun i v l hi hl => by
    obtain ⟨h1, h2⟩ := hr.2 i v l hi hl
    exact ⟨owns_keep h1 (fun k e => hA3.same k (row_lt h1 k e) (fun h => h)), h2⟩⟩
  exact ⟨_, rfl, ⟨rv, rows, owns_keep hq3 (fun k e => hA5.same k (row_lt hq3 k e) (fun e' => row_ne hq3 hz3 (by decide) (e' ▸ e))), rows_far hr3 hz3 hA5⟩, ((hA1.trans hA2 (fun j e => .inr (by omega))).trans hA3 (fun _ h => .inl h)).trans hA5 (fun j e => .inr (by omega))⟩
set_option maxRecDepth 100000 in
set_option maxHeartbeats 8000000 in
theorem alive_calls (n0 : Nat) (W : World) (hU : Utf n0 W) : Calls Tryd.prog 7 #[] W (fun e w' => e = .returned (.bool true) ∧ Acts (fun _ => False) W w') := by
  have hpc := parse_calls n0 W hU
  go_enter Tryd.func7, Tryd.ntmps7
  go_wp2_with (first
    | (go_at_call 21; ((with_reducible refine hpc.mono ?_); rintro e w2 ⟨qv, rfl, ⟨rv, rows, hq, hr⟩, hA2⟩; have hls := tab_ls; rw [hls] at hq hr; obtain ⟨v, hv⟩ : ∃ v, rows[0]? = some v := ⟨_, List.getElem?_eq_getElem (by rw [hr.1]; exact Nat.zero_lt_one)⟩; obtain ⟨g, cap, rfl, hc, hg⟩ := owns_cell hq 0 v hv; have hrow := (hr.2 0 v _ hv rfl).1; obtain ⟨g2, cap2, rfl, hc2, hg2⟩ := owns_cell hrow 1 (.string ⟨#[98]⟩) rfl; have hg' : g ≠ w2.heap.size := (by omega); have hg2' : g2 ≠ w2.heap.size := (by omega))))
  go_ret
  exact ⟨rfl, hA2.trans (Acts.alloc (fun _ => False) _ _) (fun _ h => .inl h)⟩
end Go.Proofs.YtmignbhpofmgeaaDoor.Top
