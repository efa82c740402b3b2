/- A part of the reader. -/
import Derived.Test.YtmignbhpofmgeaaDoorProg
import Derived.Below
import Derived.Deep.Draws
import Derived.Deep.AppendLies
import Derived.Maps.AppendAt
import Derived.OwnWalk
import Derived.Laws.BytesArg
import Derived.Laws.MakeOwn
import Derived.Laws.OwnMore
import Derived.Deep.OwnRows
import Derived.Tactics
import Derived.Lib.ConvBytes
import Derived.Laws.Slices
import Derived.WalkKit
import Derived.KernelRfl
import Derived.RowKit3
import Derived.Deep.LoopGhost
import Derived.Deep.QuietTactic
import Derived.BigQuiet
import Derived.WideLaws
import Derived.Deep.DeepCutAuto
import Derived.Deep.CutBlock
import Derived.Deep.RegionHeld3
import Derived.Laws.Rows
import Derived.Lib.AppendStr
import Derived.ArgAppend
import Derived.Laws.IdiomCopy
import Derived.OrdersHeld
import Derived.Laws.BitsLemmas
import Derived.RowKit
import Derived.Test.YtmignbhpofmgeaaDoorWWords
import Derived.Test.YtmignbhpofmgeaaDoorWLast
import Derived.Test.YtmignbhpofmgeaaDoorWTab
import Derived.Test.YtmignbhpofmgeaaDoorWFour
import Derived.Test.YtmignbhpofmgeaaDoorWQPut
import Derived.Test.YtmignbhpofmgeaaDoorWApart
import Derived.Test.YtmignbhpofmgeaaDoorWArr
import Derived.Test.YtmignbhpofmgeaaDoorWZeros
import Derived.Test.YtmignbhpofmgeaaDoorWFoot
import Derived.Test.YtmignbhpofmgeaaDoorWKept
import Derived.Test.YtmignbhpofmgeaaDoorWShare
import Derived.Test.YtmignbhpofmgeaaDoorWN
import Derived.Test.YtmignbhpofmgeaaDoorWFootNe
import Derived.Test.YtmignbhpofmgeaaDoorWAt
import Derived.Test.YtmignbhpofmgeaaDoorWEqStruct
import Derived.Test.YtmignbhpofmgeaaDoorWRepsOne
import Derived.Test.YtmignbhpofmgeaaDoorWInv
import Derived.Test.YtmignbhpofmgeaaDoorWInvWords
import Derived.Test.YtmignbhpofmgeaaDoorWGuard
import Derived.Test.YtmignbhpofmgeaaDoorWNEv
import Derived.Test.YtmignbhpofmgeaaDoorWMore
import Derived.Test.YtmignbhpofmgeaaDoorIter
import Derived.RangeFuncBox
import Derived.Lib.ConvBytes
import Derived.Test.YtmignbhpofmgeaaDoorMv
import Derived.Test.YtmignbhpofmgeaaDoorRows
import Derived.OpenShut
import Derived.Deep.DeepHandedRow
import Derived.Lib.LaidTab
import Derived.ProofKit
import Derived.LaidMore
namespace Go.Proofs.YtmignbhpofmgeaaDoor.Top
open Go.RowKit Go.Proofs.YtmignbhpofmgeaaDoorW.PrintWords Go.Proofs.YtmignbhpofmgeaaDoorW.PrintLast Go.Proofs.YtmignbhpofmgeaaDoorW.PrintMore Go.Proofs.YtmignbhpofmgeaaDoor.Iter
set_option linter.unusedVariables false
set_option linter.unusedSimpArgs false

/-- A span as the row lists it. -/
def spanD (s : Int × Int × Int) : DataW Unit := .agg [.lit (.int .u8 s.1), .lit (.int .u8 s.2.1), .lit (.int .i64 s.2.2)]
theorem cells99 : Tryd.prog.cellsOf 99 = 1 := by kernel_rfl
theorem cells100 : Tryd.prog.cellsOf 100 = 8 := by kernel_rfl
theorem cells102 : Tryd.prog.cellsOf 102 = 3 := by kernel_rfl
theorem cells5 : Tryd.prog.cellsOf 5 = 1 := by kernel_rfl
theorem cells3 : Tryd.prog.cellsOf 3 = 1 := by kernel_rfl
theorem add_add (b o i j : Nat) : ((⟨b, o, none⟩ : Addr).add i).add j = ⟨b, o + i + j, none⟩ := by rw [add_plain, add_plain]
theorem list3 {α : Type} {l : List α} (h : l.length = 3) : ∃ a b c, l = [a, b, c] := by
  match l, h with
  | [a, b, c], _ => exact ⟨a, b, c, rfl⟩
/-- One span's cells. -/
theorem span_cells {enc : TypeId × Value → Unit} {W : World} {sp : Nat → Bool} {held : Bool} {n : Nat} {cs : List Value} {s : Int × Int × Int} {p : List MemPlace}
    (h : DataW.trod enc Tryd.prog W 0 sp held n 102 cs = some (spanD s, p)) : cs[0]? = some (.int .u8 s.1) ∧ cs[1]? = some (.int .u8 s.2.1) ∧ cs[2]? = some (.int .i64 s.2.2) := by
  obtain ⟨xs, m, rfl, hx, hl, hxl, hall⟩ := DataW.trod_struct Tryd.underlying102 h
  simp only [spanD, Prod.mk.injEq, DataW.agg.injEq] at hx
  obtain ⟨hx1, _⟩ := hx
  rw [cells102] at hl
  have e0 : DataW.trod enc Tryd.prog W 0 sp held m 5 ((cs.drop 0).take (Tryd.prog.cellsOf 5)) = xs[0]? := hall 0 _ rfl
  have e1 : DataW.trod enc Tryd.prog W 0 sp held m 5 ((cs.drop 1).take (Tryd.prog.cellsOf 5)) = xs[1]? := hall 1 _ rfl
  have e2 : DataW.trod enc Tryd.prog W 0 sp held m 3 ((cs.drop 2).take (Tryd.prog.cellsOf 3)) = xs[2]? := hall 2 _ rfl

  rw [cells5] at e0 e1
  rw [cells3] at e2
  match xs, hx1, e0, e1, e2 with
  | [x0, x1, x2], hx1, e0, e1, e2 =>
    simp only [List.map_cons, List.map_nil, List.cons.injEq, and_true] at hx1
    obtain ⟨h0, h1, h2⟩ := hx1
    simp only [List.getElem?_cons_zero, List.getElem?_cons_succ] at e0 e1 e2
    obtain ⟨k0, a0, b0, _⟩ := DataW.trod_int Tryd.underlying5 e0
    obtain ⟨k1, a1, b1, _⟩ := DataW.trod_int Tryd.underlying5 e1
    obtain ⟨k2, a2, b2, _⟩ := DataW.trod_int Tryd.underlying3 e2
    rw [b0] at h0
    rw [b1] at h1
    rw [b2] at h2
    simp only [DataW.lit.injEq, Lit.int.injEq, true_and] at h0 h1 h2
    rw [← h0] at a0
    rw [← h1] at a1
    rw [← h2] at a2
    obtain ⟨c0, c1, c2, hcs⟩ := list3 hl
    rw [hcs] at a0 a1 a2 ⊢
    · simp only [List.drop_zero, List.drop_succ_cons, List.take_succ_cons, List.take_zero, List.cons.injEq, and_true] at a0 a1 a2
      exact ⟨congrArg some a0, congrArg some a1, congrArg some a2⟩
theorem utf_of_laid {W : World} (h : laidMetH Tryd.prog [("quillpen/utf.table", Rows.laid_quillpen_utf_table)] W) : Utf W.heap.size W := by
  have hp : laidMet Tryd.prog [("quillpen/utf.table", Rows.laid_quillpen_utf_table)] W := h
  obtain ⟨ps, ⟨g1, t1, cs1, f1, p1, q1, hg1, ht1, hv1, hd1, _, _⟩, _, _⟩ := hp
  obtain rfl := Option.some.inj ((show Tryd.prog.globalNamed "quillpen/utf.table" = some 0 by kernel_rfl).symm.trans hg1)
  obtain rfl := Option.some.inj ((show (Tryd.prog.globals[0]?).map (·.type) = some 100 by kernel_rfl).symm.trans ht1)
  have e : (Rows.laid_quillpen_utf_table : DataW Unit) = .agg (utfTab.map fun L => .slice (L.map spanD) []) := rfl
  rw [e] at hd1
  obtain ⟨xs, m, rfl, hx, hl, hxl, hall⟩ := DataW.trod_array Tryd.underlying100 hd1
  simp only [Prod.mk.injEq, DataW.agg.injEq] at hx
  obtain ⟨hx1, _⟩ := hx
  rw [cells100] at hl
  refine ⟨Nat.le_refl _, fun i hi => ?_⟩
  have ha := hall i hi
  rw [cells99, Nat.mul_one] at ha
  obtain ⟨x, hxi⟩ : ∃ x, xs[i]? = some x := ⟨_, List.getElem?_eq_getElem (by omega)⟩
  rw [hxi] at ha
  have hLi : utfTab[i]? = some (utfTab.getD i []) := by
    rw [List.getD_eq_getElem?_getD, List.getElem?_eq_getElem (show i < utfTab.length from hi)]; rfl
  obtain ⟨L, hL⟩ : ∃ L, utfTab.getD i [] = L := ⟨_, rfl⟩
  rw [hL] at hLi ⊢
  have hne : 0 < L.length := by
    rw [← hL]
    have : ∀ i, i < 8 → 0 < (utfTab.getD i []).length := by decide
    exact this i hi
  have hx2 : x.1 = .slice (L.map spanD) [] := by
    have := congrArg (fun l => l[i]?) hx1
    simp only [List.getElem?_map, hLi, hxi, Option.map_some, Option.some.injEq] at this
    exact this.symm
  have hci : cs1[i]? = cs1.toList[i]? := by simp
  rcases DataW.trod_slice Tryd.underlying99 ha with ⟨_, hn⟩ | ⟨a, len, cap, elems, rest, n, _, hcs, hy, _, hle, _, hlen, hel, _⟩
  · rw [hn] at hx2; cases hx2
  · rw [hy] at hx2
    simp only [DataW.slice.injEq] at hx2
    obtain ⟨hx3, _⟩ := hx2
    have hll : L.length = len := by have := congrArg List.length hx3; simp at this; omega
    subst hll
    have hcell : ∀ j s, L[j]? = some s → W.cell? ((a.add (j * 3)).add 0) = some (.int .u8 s.1) ∧ W.cell? ((a.add (j * 3)).add 1) = some (.int .u8 s.2.1) ∧ W.cell? ((a.add (j * 3)).add 2) = some (.int .i64 s.2.2) := by
      intro j s hj
      have hjl : j < L.length := (List.getElem?_eq_some_iff.1 hj).1
      have hE := hel j hjl
      rw [cells102] at hE
      obtain ⟨y, hyj⟩ : ∃ y, elems[j]? = some y := ⟨_, List.getElem?_eq_getElem (by omega)⟩
      rw [hyj] at hE
      have hys : y.1 = spanD s := by
        have := congrArg (fun l => l[j]?) hx3
        simp only [List.getElem?_map, hyj, hj, Option.map_some, Option.some.injEq] at this
        exact this
      obtain ⟨c3, hc3, htr⟩ := Option.bind_eq_some_iff.1 hE
      obtain ⟨_, hn3, hc⟩ := World.cells?_some hc3
      obtain ⟨y1, y2⟩ := y
      dsimp only at hys
      subst hys
      obtain ⟨r0, r1, r2⟩ := span_cells htr
      exact ⟨(hc 0 (by decide)).trans r0, (hc 1 (by decide)).trans r1, (hc 2 (by decide)).trans r2⟩
    obtain ⟨b, off, spot⟩ := a
    obtain ⟨s0, hs0⟩ : ∃ s, L[0]? = some s := ⟨_, List.getElem?_eq_getElem hne⟩
    have h0 := (hcell 0 s0 hs0).1
    have hspot : spot = none := by
      have := World.cell?_spot h0
      simpa [Addr.add] using this
    subst hspot
    have hlow : b < W.heap.size := by
      rw [add_add] at h0
      rcases Nat.lt_or_ge b W.heap.size with h | h
      · exact h
      · simp [World.cell?, Array.getElem?_eq_none h] at h0
    refine ⟨b, off, cap, hlow, ?_, hle, fun j s hj => ?_, fun j s hj => ?_, fun j s hj => ?_⟩
    · have hv := World.var?_cell hg1 hv1 i
      rw [hv, hci]
      have := congrArg (fun l => l[0]?) hcs
      simp only [List.getElem?_cons_zero] at this
      rw [List.getElem?_take_of_lt (by decide), List.getElem?_drop, Nat.add_zero] at this
      exact this
    · have := (hcell j s hj).1; rw [add_add] at this; exact this
    · have := (hcell j s hj).2.1; rw [add_add] at this; exact this
    · have := (hcell j s hj).2.2; rw [add_add] at this; exact this
end Go.Proofs.YtmignbhpofmgeaaDoor.Top
