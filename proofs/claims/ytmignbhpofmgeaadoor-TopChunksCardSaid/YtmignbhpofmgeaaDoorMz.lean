/- A part of the reader. -/
import Derived.Test.YtmignbhpofmgeaaDoorProg
import Derived.Below
import Derived.Deep.Draws
import Derived.Deep.AppendLies
import Derived.Maps.AppendAt
import Derived.OwnWalk
import Derived.Laws.BytesArg
import Derived.Laws.MakeOwn
import Derived.Laws.OwnMore
import Derived.Deep.OwnRows
import Derived.Tactics
import Derived.Lib.ConvBytes
import Derived.Laws.Slices
import Derived.WalkKit
import Derived.KernelRfl
import Derived.RowKit3
import Derived.Deep.LoopGhost
import Derived.Deep.QuietTactic
import Derived.BigQuiet
import Derived.WideLaws
import Derived.Deep.DeepCutAuto
import Derived.Deep.CutBlock
import Derived.Deep.RegionHeld3
import Derived.Laws.Rows
import Derived.Lib.AppendStr
import Derived.ArgAppend
import Derived.Laws.IdiomCopy
import Derived.OrdersHeld
import Derived.Laws.BitsLemmas
import Derived.RowKit
import Derived.Test.YtmignbhpofmgeaaDoorWWords
import Derived.Test.YtmignbhpofmgeaaDoorWLast
import Derived.Test.YtmignbhpofmgeaaDoorWTab
import Derived.Test.YtmignbhpofmgeaaDoorWFour
import Derived.Test.YtmignbhpofmgeaaDoorWQPut
import Derived.Test.YtmignbhpofmgeaaDoorWApart
import Derived.Test.YtmignbhpofmgeaaDoorWArr
import Derived.Test.YtmignbhpofmgeaaDoorWZeros
import Derived.Test.YtmignbhpofmgeaaDoorWFoot
import Derived.Test.YtmignbhpofmgeaaDoorWKept
import Derived.Test.YtmignbhpofmgeaaDoorWShare
import Derived.Test.YtmignbhpofmgeaaDoorWN
import Derived.Test.YtmignbhpofmgeaaDoorWFootNe
import Derived.Test.YtmignbhpofmgeaaDoorWAt
import Derived.Test.YtmignbhpofmgeaaDoorWEqStruct
import Derived.Test.YtmignbhpofmgeaaDoorWRepsOne
import Derived.Test.YtmignbhpofmgeaaDoorWInv
import Derived.Test.YtmignbhpofmgeaaDoorWInvWords
import Derived.Test.YtmignbhpofmgeaaDoorWGuard
import Derived.Test.YtmignbhpofmgeaaDoorWNEv
import Derived.Test.YtmignbhpofmgeaaDoorWMore
import Derived.Test.YtmignbhpofmgeaaDoorIter
import Derived.RangeFuncBox
import Derived.Lib.ConvBytes
import Derived.Test.YtmignbhpofmgeaaDoorMy
import Derived.WalkMore
namespace Go.Proofs.YtmignbhpofmgeaaDoor.Top
open Go.RowKit Go.Proofs.YtmignbhpofmgeaaDoorW.PrintWords Go.Proofs.YtmignbhpofmgeaaDoorW.PrintLast Go.Proofs.YtmignbhpofmgeaaDoorW.PrintMore Go.Proofs.YtmignbhpofmgeaaDoor.Iter
set_option linter.unusedVariables false
set_option linter.unusedSimpArgs false

/-- The end of the text. -/
def closeR (r : RS) : RS := if r.closed = true ∨ r.fk ≠ 0 then { r with closed := true } else if r.utf ≠ 0 then cutR { r with closed := true } 12 else (eventR { r with closed := true } (closeSc r.state).1 (closeSc r.state).2 r.offset).1
set_option maxRecDepth 100000 in
set_option maxHeartbeats 8000000 in
theorem rclose_calls (n0 : Nat) (x : RV) (r : RS) (N M : Nat) (W : World) (h : RAt n0 x r W) (hN : Small N r) (hNb : N + 10 ≤ 2147483648) (hM : r.closed = true ∨ r.fk ≠ 0 ∨ Fine M r) (hMb : M ≤ 1000000000) :
    Calls Tryd.prog 12 #[.pointer (some ⟨x.R, 0, none⟩)] W (RTo n0 x W (closeR r) (fltV (closeR r))) := by
  obtain ⟨W1, hW1⟩ : ∃ W1, W.alloc (.cells #[.int .i64 0, .int .i64 0] 35) = W1 := ⟨_, rfl⟩
  have hx : W1.heap[W.heap.size]? = some (.cells #[.int .i64 0, .int .i64 0] 35 (0, 0)) := by rw [← hW1]; simpa using heap_alloc_new W (.cells #[.int .i64 0, .int .i64 0] 35)
  have hA1 : Acts (fun _ => False) W W1 := by rw [← hW1]; exact Acts.alloc _ _ _
  have h1 := h.acts hA1
  have hlt := h.lt
  have hLR : ¬ RC x W.heap.size := fun e => by have := h.rc_lt _ e; omega
  have hgt : W.heap.size < W1.heap.size := (Array.getElem?_eq_some_iff.1 hx).1
  have HEnd : Hid (∀ r' x' w', RGo n0 x W1 r' x' w' → w'.heap[W.heap.size]? = some (.cells #[.int .i64 0, .int .i64 0] 35 (0, 0)) ∧ (∀ a b : Value, RGo n0 x W r' x' ((w'.setCell ⟨W.heap.size, 0, none⟩ a).setCell ⟨W.heap.size, 1, none⟩ b) ∧ ((w'.setCell ⟨W.heap.size, 0, none⟩ a).setCell ⟨W.heap.size, 1, none⟩ b).heap[W.heap.size]? = some (.cells #[a, b] 35 (0, 0)))) := by
    intro r' x' w' hg
    have hxw : w'.heap[W.heap.size]? = some (.cells #[.int .i64 0, .int .i64 0] 35 (0, 0)) := (hg.acts.same _ hgt hLR).trans hx
    refine ⟨hxw, fun a b => ⟨?_, flt_stored hxw a b⟩⟩
    have hb : RGo n0 x W r' x' w' := RGo.trans ⟨h1, hA1.weaken (fun _ _ h => h.elim), RNew.refl _ _⟩ hg
    exact ⟨hb.it.far hxw (by decide) (flt_acts _ _ _ _), hb.acts.trans (flt_acts _ _ _ _) (fun j e => .inr (by omega)), hb.new⟩
  have n1 : W.heap.size ≠ x.R := by omega
  have n2 : x.R ≠ W.heap.size := by omega
  have hg1 := (RGo.refl h1).set (r' := { r with closed := true }) 10 (.bool true) rfl rfl rfl rfl
  have c3 := (blk_cell h1.obj 3).trans rfl
  have c5 := (blk_cell h1.obj 5).trans rfl
  have c6 := (blk_cell h1.obj 6).trans rfl
  have c7 := (blk_cell h1.obj 7).trans rfl
  have c8 := (blk_cell h1.obj 8).trans rfl
  have c9 := (blk_cell h1.obj 9).trans rfl
  have c10 := (blk_cell h1.obj 10).trans rfl
  have f10 := blk_frozen h1.obj 10
  simp only [RS.cells] at c3 c5 c6 c7 c8 c9 c10
  have x0 := (blk_cell hx 0).trans rfl
  have x1 := (blk_cell hx 1).trans rfl
  have y0 := blk_frozen hx 0
  have y1 := blk_frozen hx 1
  by_cases hst : r.closed = true ∨ r.fk ≠ 0
  · have e : closeR r = { r with closed := true } := if_pos hst
    rw [e]
    have hE := HEnd.out _ x _ hg1
    have hfin := (hE.2 (.int .i64 r.fk) (.int .i64 r.fat))
    obtain ⟨R, S, B, fv, rv, qv⟩ := x
    dsimp only at *
    clear HEnd hE hLR e hM
    cases hcl : r.closed with
    | true =>
      rw [hcl] at c10
      clear hst
      go_enter Tryd.func12, Tryd.ntmps12
      go_wp2
      refine bodyPost_ret (results_cell_row rfl _ _ W.heap.size 35 #[.int .i64 r.fk, .int .i64 r.fat] (0, 0) _ rfl hfin.2 Tryd.underlying35 rfl (by kernel_rfl)) rfl ?_
      exact ⟨rfl, _, hfin.1⟩
    | false =>
      rw [hcl] at c10
      have hk : ¬ r.fk = 0 := by rw [hcl] at hst; simpa using hst
      clear hst
      go_enter Tryd.func12, Tryd.ntmps12
      go_wp2
      refine bodyPost_ret (results_cell_row rfl _ _ W.heap.size 35 #[.int .i64 r.fk, .int .i64 r.fat] (0, 0) _ rfl hfin.2 Tryd.underlying35 rfl (by kernel_rfl)) rfl ?_
      exact ⟨rfl, _, hfin.1⟩
  · have hcl : r.closed = false := by cases hc : r.closed <;> simp [hc] at hst ⊢
    have hfk : r.fk = 0 := by
      by_cases hz : r.fk = 0
      · exact hz
      · exact absurd (Or.inr hz) hst
    have e : closeR r = if r.utf ≠ 0 then cutR { r with closed := true } 12 else (eventR { r with closed := true } (closeSc r.state).1 (closeSc r.state).2 r.offset).1 := if_neg hst
    rw [hcl] at c10
    rw [hfk] at c8
    have hF : Fine M r := hM.elim (fun h => absurd (Or.inl h) hst) (fun h => h.elim (fun h => absurd hfk h) id)
    obtain ⟨o1, o2, m1, m2, hu8⟩ := hF
    have hw1 : wrap64 (r.offset - 1) = r.offset - 1 := w64 (by omega) (by omega)
    have d3 := (blk_cell hg1.it.obj 3).trans rfl
    have d5 := (blk_cell hg1.it.obj 5).trans rfl
    have d6 := (blk_cell hg1.it.obj 6).trans rfl
    have d7 := (blk_cell hg1.it.obj 7).trans rfl
    simp only [RS.cells] at d3 d5 d6 d7
    obtain ⟨R, S, B, fv, rv, qv⟩ := x
    dsimp only at *
    clear hst hM h h1 hLR hA1 hgt
    by_cases hu : r.utf = 0
    · rw [if_neg (by simp [hu])] at e
      rw [e]
      obtain ⟨e0, e1, e2, e3, e4, e5, f, hS⟩ : ∃ e0 e1 e2 e3 e4 e5 f, closeSc r.state = (⟨e0, e1, e2, e3, e4, e5⟩, f) := ⟨_, _, _, _, _, _, _, rfl⟩
      obtain ⟨r5, b, hE5⟩ : ∃ r5 b, eventR { r with closed := true } ⟨e0, e1, e2, e3, e4, e5⟩ f r.offset = (r5, b) := ⟨_, _, rfl⟩
      have hsc := fun w => sclose_calls r.state w
      rw [hS] at hsc ⊢
      dsimp only [Ev.cells] at hsc ⊢
      rw [hE5]
      dsimp only
      have hu' : (r.utf : Int) = 0 := by omega
      rw [hu'] at c5 d5
      have HE5 : Hid (eventR { r with closed := true } ⟨e0, e1, e2, e3, e4, e5⟩ f r.offset = (r5, b)) := hE5
      clear hE5 hS e hu hu'
      have HG1 : Hid (RGo n0 _ W1 _ _ _) := hg1
      clear hg1
      go_enter Tryd.func12, Tryd.ntmps12
      go_wp2_with (first
        | (go_at_call 30; (with_reducible refine (hsc _).mono ?_); rintro e w2 ⟨rfl, hA2⟩; have hg2 := RGo.more HG1.out hA2; have hg3 := hg2.more (Acts.alloc _ _ (.cells #[.bool e0, .bool e1, .bool e2, .bool e3, .bool e4, .int .u8 e5] 77)); have hec := event_calls n0 _ _ ⟨e0, e1, e2, e3, e4, e5⟩ f r.offset _ hg3.it hN.1 (by have := hN.2.1; dsimp only; omega) (by have := hN.2.2; dsimp only; omega); rw [HE5.out] at hec; dsimp only [Ev.cells] at hec; clear hg2)
        | (go_at_call 31; (with_reducible refine hec.mono ?_); rintro e w5 ⟨rfl, ⟨R5, S5, B5, fv5, rv5, qv5⟩, hg5⟩; have hR5 := hg5.new.R.symm; dsimp only at hR5; subst hR5; have hgf := RGo.trans hg3 hg5; clear hec hg3 hg5; have hE := HEnd.out _ _ _ hgf; have l0 := (blk_cell hE.1 0).trans rfl; have l1 := (blk_cell hE.1 1).trans rfl; have k0 := blk_frozen hE.1 0; have k1 := blk_frozen hE.1 1; have d8 := (blk_cell hgf.it.obj 8).trans rfl; have d9 := (blk_cell hgf.it.obj 9).trans rfl; simp only [RS.cells] at d8 d9))
      refine bodyPost_ret (results_cell_row rfl _ _ W.heap.size 35 #[.int .i64 r5.fk, .int .i64 r5.fat] (0, 0) _ rfl (hE.2 _ _).2 Tryd.underlying35 rfl (by kernel_rfl)) rfl ?_
      exact ⟨rfl, _, (hE.2 _ _).1⟩
    · rw [if_pos hu] at e
      rw [e]
      obtain ⟨r6, b6, hT6⟩ : ∃ r6 b6, takeL (r.offset - 1) (closeS r.mark).2.length 0 (closeS r.mark).2 { r with closed := true, mark := (closeS r.mark).1 } = (r6, b6) := ⟨_, _, rfl⟩
      have hcut : cutR { r with closed := true } 12 = if b6 = true then wrongR r6 12 r.offset else r6 := by
        unfold cutR
        dsimp only
        rw [hT6]
      rw [hcut]
      have hu' : ¬ (r.utf : Int) = 0 := by omega
      clear hcut e
      cases b6 with
      | false =>
        rw [if_neg (by decide)]
        go_enter Tryd.func12, Tryd.ntmps12
        go_wp2_with (first
          | (go_at_call 27; (with_reducible refine (close_calls S r.mark _ hg1.it.st m1 m2).mono ?_); rintro e w2 ⟨v', g', cap', rfl, hB, hS, hA2⟩; have hg2 := hg1.trans (hg1.it.strip hS hA2); have ht := rtake_calls n0 _ _ (r.offset - 1) _ v' _ N w2 hg2.it hN (by have := closeS_len r.mark m2; omega) (.inr ⟨_, _, hB⟩) (fun k hk e => by have h3 := hg1.it.rc_lt k e; have h4 := hB.new; have h5 := hB.blk k hk; omega) (closeS_len r.mark m2) (by omega); rw [hT6] at ht; dsimp only at ht)
          | (go_at_call 26; (with_reducible refine ht.mono ?_); rintro e w5 ⟨rfl, ⟨R5, S5, B5, fv5, rv5, qv5⟩, hg5⟩; have hR5 := hg5.new.R.symm; dsimp only at hR5; subst hR5; have hgf := hg2.trans hg5; have hE := HEnd.out _ _ _ hgf; have l0 := (blk_cell hE.1 0).trans rfl; have l1 := (blk_cell hE.1 1).trans rfl; have k0 := blk_frozen hE.1 0; have k1 := blk_frozen hE.1 1; have d8 := (blk_cell hgf.it.obj 8).trans rfl; have d9 := (blk_cell hgf.it.obj 9).trans rfl; simp only [RS.cells] at d8 d9))
        refine bodyPost_ret (results_cell_row rfl _ _ W.heap.size 35 #[.int .i64 r6.fk, .int .i64 r6.fat] (0, 0) _ rfl (hE.2 _ _).2 Tryd.underlying35 rfl (by kernel_rfl)) rfl ?_
        exact ⟨rfl, _, (hE.2 _ _).1⟩
      | true =>
        rw [if_pos rfl]
        go_enter Tryd.func12, Tryd.ntmps12
        go_wp2_with (first
          | (go_at_call 27; (with_reducible refine (close_calls S r.mark _ hg1.it.st m1 m2).mono ?_); rintro e w2 ⟨v', g', cap', rfl, hB, hS, hA2⟩; have hg2 := hg1.trans (hg1.it.strip hS hA2); have ht := rtake_calls n0 _ _ (r.offset - 1) _ v' _ N w2 hg2.it hN (by have := closeS_len r.mark m2; omega) (.inr ⟨_, _, hB⟩) (fun k hk e => by have h3 := hg1.it.rc_lt k e; have h4 := hB.new; have h5 := hB.blk k hk; omega) (closeS_len r.mark m2) (by omega); rw [hT6] at ht; dsimp only at ht)
          | (go_at_call 26; (with_reducible refine ht.mono ?_); rintro e w5 ⟨rfl, ⟨R5, S5, B5, fv5, rv5, qv5⟩, hg5⟩; have hR5 := hg5.new.R.symm; dsimp only at hR5; subst hR5; have hg6 := hg2.trans hg5)
          | (go_at_call 28; (with_reducible refine (wrong_calls n0 _ _ 12 r.offset w5 hg6.it).mono ?_); rintro e w6 ⟨rfl, x6, hg7⟩; have hgf := hg6.trans hg7; have hR6 := hg7.new.R; obtain ⟨R6, S6, B6, fv6, rv6, qv6⟩ := x6; have hR7 := hR6.symm; clear hR6; dsimp only at hR7; subst hR7; have hE := HEnd.out _ _ _ hgf; have l0 := (blk_cell hE.1 0).trans rfl; have l1 := (blk_cell hE.1 1).trans rfl; have k0 := blk_frozen hE.1 0; have k1 := blk_frozen hE.1 1; have d8 := (blk_cell hgf.it.obj 8).trans rfl; have d9 := (blk_cell hgf.it.obj 9).trans rfl; simp only [RS.cells] at d8 d9))
        refine bodyPost_ret (results_cell_row rfl _ _ W.heap.size 35 #[.int .i64 (wrongR r6 12 r.offset).fk, .int .i64 (wrongR r6 12 r.offset).fat] (0, 0) _ rfl (hE.2 _ _).2 Tryd.underlying35 rfl (by kernel_rfl)) rfl ?_
        exact ⟨rfl, _, (hE.2 _ _).1⟩
end Go.Proofs.YtmignbhpofmgeaaDoor.Top
