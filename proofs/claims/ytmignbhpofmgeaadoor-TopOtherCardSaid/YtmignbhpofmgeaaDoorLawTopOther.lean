/- TopOther: whatever text is read by a dialect, its records, written in another one, and read by that, are the same; up to 300 bytes. The tied card; on the condition that the package's table reads as the row lists it. -/
import Derived.Test.YtmignbhpofmgeaaDoorS7
import Derived.Test.YtmignbhpofmgeaaDoorCards
import Derived.Test.YtmignbhpofmgeaaDoorTie
import Derived.ShutString
import Derived.ChangeOld
import Derived.SizedLaws
import Derived.Lib.SmallJoins
import Derived.ChangeSame
import Derived.ChangeMaps5
import Derived.Deep.DeepWitnessRowRef
namespace Go.Proofs.YtmignbhpofmgeaaDoor.topOther
open Go.ChangeShapes Go.WideShapes Go.ChangeAt Go.RowKit Go.Joins Go.Proofs.YtmignbhpofmgeaaDoor.Top
open Go.ChangeMaps (open_string shut_string)
open Go.Deep (trod_struct3 trod_struct3_mk)
open Go.Proofs.YtmignbhpofmgeaaDoorW.PrintWords
set_option linter.unusedVariables false
theorem own : ownKnob Tryd.prog.godebug = none := by kernel_rfl
theorem c3 : Tryd.prog.cellsOf 3 = 1 := by kernel_rfl
theorem c4 : Tryd.prog.cellsOf 4 = 1 := by kernel_rfl
theorem c5 : Tryd.prog.cellsOf 5 = 1 := by kernel_rfl
theorem c23 : Tryd.prog.cellsOf 23 = 3 := by kernel_rfl
section
variable {H : Type} {enc : TypeId × Value → H} {w : World} {base : Nat} {sp : Nat → Bool} {held : Bool}
/-- A dialect, as it is read. -/
def diaD (de qu en : Int) : DataW H := .agg [.lit (.int .u8 de), .lit (.int .u8 qu), .lit (.int .i64 en)]
set_option maxRecDepth 100000 in
theorem open_dia {r : Reach} {b0 : Nat} {v : Value} {d : DataW H} {p : List MemPlace} (hv : Value.okWide Tryd.prog w r b0 23 v) (h : DataW.Trod enc Tryd.prog w base sp held 23 v d p) :
    ∃ de qu en, v = .agg #[.int .u8 de, .int .u8 qu, .int .i64 en] ∧ d = diaD de qu en ∧ p = [] ∧ (Lit.int .u8 de).wf = true ∧ (Lit.int .u8 qu).wf = true ∧ (Lit.int .i64 en).wf = true := by
  obtain ⟨cs, rfl, hsz⟩ := okWide_struct Tryd.underlying23 hv
  obtain ⟨a0, a1, a2, rfl⟩ := array3 (hsz.trans c23)
  obtain ⟨fuel, hf⟩ := h
  obtain ⟨z0, z1, z2, n1, hy0, _, g0, g1, g2⟩ := trod_struct3 Tryd.underlying23 hf
  have g0' : DataW.trod enc Tryd.prog w base sp held n1 5 (([a0, a1, a2].drop 0).take (Tryd.prog.cellsOf 5)) = some z0 := g0
  have g1' : DataW.trod enc Tryd.prog w base sp held n1 5 (([a0, a1, a2].drop 1).take (Tryd.prog.cellsOf 5)) = some z1 := g1
  have g2' : DataW.trod enc Tryd.prog w base sp held n1 3 (([a0, a1, a2].drop 2).take (Tryd.prog.cellsOf 3)) = some z2 := g2
  rw [c5] at g0' g1'
  rw [c3] at g2'
  simp only [List.drop_zero, List.drop_succ_cons, List.take_succ_cons, List.take_zero] at g0' g1' g2'
  obtain ⟨de, e0, rfl, w0⟩ := DataW.trod_int Tryd.underlying5 g0'
  obtain ⟨qu, e1, rfl, w1⟩ := DataW.trod_int Tryd.underlying5 g1'
  obtain ⟨en, e2, rfl, w2⟩ := DataW.trod_int Tryd.underlying3 g2'
  simp only [List.cons.injEq, and_true] at e0 e1 e2
  subst e0 e1 e2
  simp only [Prod.mk.injEq] at hy0
  obtain ⟨rfl, rfl⟩ := hy0
  exact ⟨de, qu, en, rfl, rfl, rfl, w0, w1, w2⟩
set_option maxRecDepth 100000 in
theorem shut_dia {de qu en : Int} (w0 : (Lit.int .u8 de).wf = true) (w1 : (Lit.int .u8 qu).wf = true) (w2 : (Lit.int .i64 en).wf = true) :
    DataW.Trod enc Tryd.prog w base sp held 23 (.agg #[.int .u8 de, .int .u8 qu, .int .i64 en]) (diaD de qu en) [] :=
  ⟨2, trod_struct3_mk (y0 := (.lit (.int .u8 de), [])) (y1 := (.lit (.int .u8 qu), [])) (y2 := (.lit (.int .i64 en), [])) Tryd.underlying23 (by rw [c23]; rfl)
      (by show DataW.trod _ _ _ _ _ _ _ 5 (([Value.int .u8 de, .int .u8 qu, .int .i64 en].drop 0).take (Tryd.prog.cellsOf 5)) = _; rw [c5]; exact trod_int_mk 0 Tryd.underlying5 w0)
      (by show DataW.trod _ _ _ _ _ _ _ 5 (([Value.int .u8 de, .int .u8 qu, .int .i64 en].drop 1).take (Tryd.prog.cellsOf 5)) = _; rw [c5]; exact trod_int_mk 0 Tryd.underlying5 w1)
      (by show DataW.trod _ _ _ _ _ _ _ 3 (([Value.int .u8 de, .int .u8 qu, .int .i64 en].drop 2).take (Tryd.prog.cellsOf 3)) = _; rw [c3]; exact trod_int_mk 0 Tryd.underlying3 w2)⟩
end
theorem u8_range {n : Int} (h : (Lit.int .u8 n).wf = true) : 0 ≤ n ∧ n ≤ 255 := by
  simp [Lit.wf] at h
  have a : IntKind.u8.min = 0 := rfl
  have b : IntKind.u8.max = 255 := rfl
  omega
set_option maxRecDepth 100000 in
/-- What the walk gives, for every argument and every world that holds the table. -/
theorem contract (H : Type) (enc : TypeId × Value → H) (W : World) (base : Nat) (args : Array Value) (ds gs : List (DataW H)) (before : List MemPlace)
    (hval : ∀ (j : Nat) t v, Tryd.f5.params[j]? = some t → args[j]? = some v → Value.okWide Tryd.prog W .any base t v)
    (hW : DataW.Whole enc Tryd.prog Tryd.f5.params.toList Rows.topOtherSpec.vars false W args.toList ds gs before) (hL : laidMetH Tryd.prog Rows.topOtherRow.laid W) :
    Calls Tryd.prog 5 args W fun e W' => ∃ v, e = .returned v ∧ Rows.topOtherSpec.post enc Tryd.prog Tryd.f5 false true false false W args v W' := by
  have hW' := hW
  obtain ⟨p, q, hA0, hV, rfl, hfz, hnd⟩ := hW
  have hA : DataW.TrodAll enc Tryd.prog W 0 (fun _ => true) true Tryd.f5.params.toList args.toList ds p := hA0
  rw [Tryd.params5] at hA hval
  obtain ⟨v0, vs0, d0, ds0, p0, q0, hargs, rfl, rfl, h0, r0⟩ := trodAll_cons hA
  obtain ⟨v1, vs1, d1, ds1, p1, q1, rfl, rfl, rfl, h1, r1⟩ := trodAll_cons r0
  obtain ⟨v2, vs2, d2, ds2, p2, q2, rfl, rfl, rfl, h2, r2⟩ := trodAll_cons r1
  obtain ⟨rfl, rfl, rfl⟩ := trodAll_nil r2
  obtain rfl : args = #[v0, v1, v2] := by cases args; simp_all
  obtain ⟨rfl, rfl⟩ := trodVars_none hV
  obtain ⟨da, qa, ea, rfl, rfl, rfl, w0, w1, w2⟩ := open_dia (hval 0 23 v0 rfl rfl) h0
  obtain ⟨db, qb, eb, rfl, rfl, rfl, w3, w4, w5⟩ := open_dia (hval 1 23 v1 rfl rfl) h1
  obtain ⟨s, rfl, rfl, rfl, y2⟩ := open_string Tryd.underlying9 (hval 2 9 v2 rfl rfl) h2
  clear hA0
  refine (other_calls W.heap.size da qa ea db qb eb s W (utf_of_laid hL) (u8_range w0) (u8_range w1) (u8_range w3) (u8_range w4)).mono fun e W' ⟨he, ha⟩ => ?_
  subst he
  have bel : Below W.heap.size W W' := ha.below (Nat.le_refl _) (fun _ _ h => h)
  exact ⟨_, rfl, _, _, _, [], _, [], hW', trodAll_mk1 (shut_bool Tryd.underlying4 _), trodAll_cons_mk (shut_dia w0 w1 w2) (trodAll_cons_mk (shut_dia w3 w4 w5) (trodAll_cons_mk (shut_string Tryd.underlying9 y2) trodAll_mk0)), rfl, bel.frame _, fun h => by cases h⟩
/-- A world for the witness: the door's own run has laid the table. -/
noncomputable def laidWorld (os : Os) : World := World.doorLaid Tryd.prog 400 os
theorem laid_met (os : Os) (args : Array Value) : laidMet Tryd.prog Rows.topOtherRow.laid ((laidWorld os).forCall (fun _ _ => 0) ⟨#[], args, []⟩).memory :=
  laidMet_of_run' 8 (by kernel_rfl) (by kernel_rfl)
set_option maxRecDepth 100000 in
theorem lifted (os : Os) (started : os.Started) (H : Type) (enc : TypeId × Value → H) (F : Stop.Interp) :
    ReturnsInHanded {} Tryd.checked os 5 .any ((OpenSpec.ofChange Rows.topOtherSpec).preRow enc Tryd.prog Tryd.f5 Rows.topOtherRow.domain false Rows.topOtherRow.laid) (((OpenSpec.ofChange Rows.topOtherSpec).at F).post enc Tryd.prog Tryd.f5 false true false false) := by
  have hx : ∃ places, DataW.whole enc Tryd.prog ((laidWorld os).forCall (fun _ _ => 0) ⟨#[], #[.agg #[.int .u8 0, .int .u8 0, .int .i64 0], .agg #[.int .u8 0, .int .u8 0, .int .i64 0], .string ByteArray.empty], []⟩).memory Tryd.f5.params.toList Rows.topOtherSpec.vars false (#[.agg #[.int .u8 0, .int .u8 0, .int .i64 0], .agg #[.int .u8 0, .int .u8 0, .int .i64 0], .string ByteArray.empty] : Array Value).toList 8 = some ([.agg [.lit (.int .u8 0), .lit (.int .u8 0), .lit (.int .i64 0)], .agg [.lit (.int .u8 0), .lit (.int .u8 0), .lit (.int .i64 0)], .lit (.string [])], [], places) := ⟨[], by kernel_rfl⟩
  obtain ⟨places, hx⟩ := hx
  refine returnsInHanded_of_row (C := Tryd.checked) (s := OpenSpec.ofChange Rows.topOtherSpec) own started (by kernel_rfl) Tryd.func5
    (witness_row_atRef (enc := enc) (C := Tryd.checked) false (laidWorld os) #[.agg #[.int .u8 0, .int .u8 0, .int .i64 0], .agg #[.int .u8 0, .int .u8 0, .int .i64 0], .string ByteArray.empty] rfl (by kernel_rfl) (by kernel_rfl) (by kernel_rfl)
      (OpenSpec.preRow_of_cond 8 hx (by kernel_rfl) (fun k hk => by cases hk) (by kernel_rfl) (laid_met os _))) ?_
  intro W base args ds gs before hval hW _ _ _ hL _ _
  exact contract H enc W base args ds gs before hval hW hL
theorem said : Rows.TopOtherSaid :=
  OpenClaim.holds_of_cond 5 Tryd.f5 rfl rfl rfl rfl rfl rfl rfl ⟨rfl, rfl, rfl, rfl, rfl⟩ rfl rfl rfl rfl rfl (by kernel_rfl) Tryd.func5 (by kernel_rfl)
    (of_decide_eq_true (by kernel_rfl)) (by unfold Func.isWrapper; first | (rw [if_pos (by decide +kernel)]; kernel_rfl) | (rw [if_neg (by decide +kernel)]; exact ⟨rfl, rfl⟩))
    (fun os started H enc _ F => by rw [OpenClaim.pre_eq_preRow]; exact lifted os started H enc F)
/-- No parameter wants a stand-in; the program's own looks are off: what the card asks. -/
theorem plain (f : FuncId) (fn : Func) (hf : Tryd.pinned.checked.prog.funcNamed "quillpen/quillpentop.TopOther" = some f) (hfn : Tryd.pinned.checked.prog.funcs[f]? = some fn) :
    false = Tryd.pinned.checked.prog.looks [] ∧ ∀ (j : Nat) t, fn.params[j]? = some t → Tryd.pinned.checked.prog.wantsStandIn t = false := by
  obtain rfl : f = 5 := Option.some.inj ((show Tryd.prog.funcNamed "quillpen/quillpentop.TopOther" = some 5 by kernel_rfl).symm.trans hf) |>.symm
  obtain rfl : fn = Tryd.f5 := (Option.some.inj (Tryd.func5.symm.trans hfn)).symm
  refine ⟨by kernel_rfl, fun j t ht => ?_⟩
  rw [Tryd.params5] at ht
  have hm : t = 23 ∨ t = 9 := by
    have := Array.mem_of_getElem? ht
    simpa using this
  rcases hm with rfl | rfl
  · exact (show Tryd.prog.wantsStandIn 23 = false by kernel_rfl)
  · exact (show Tryd.prog.wantsStandIn 9 = false by kernel_rfl)
theorem card : Rows.TopOtherCardSaid :=
  Claim7.holds_tied_plain_at .later [] _ _ _ _ said (fun _ h => by cases h) (by kernel_rfl) (fun _ h => by cases h) topOther_row_tie rfl ⟨rfl, rfl⟩ (by kernel_rfl) rfl plain (by kernel_rfl)
#print axioms card
end Go.Proofs.YtmignbhpofmgeaaDoor.topOther
namespace Go.Proofs.YtmignbhpofmgeaaDoor
/-- The tied card, under a short name, for the claim. -/
theorem topOther_card : Rows.TopOtherCardSaid := topOther.card
end Go.Proofs.YtmignbhpofmgeaaDoor
