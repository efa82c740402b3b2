/- TopChunks: however bytes are parted, the same comes: the same records, the same fault, at the same place. The tied card, out of the contract in YtmignbhpofmgeaaDoorOf; on the condition that the package's table reads as the row lists it. -/
import Derived.Test.YtmignbhpofmgeaaDoorCards
import Derived.Test.YtmignbhpofmgeaaDoorTie
import Derived.Test.YtmignbhpofmgeaaDoorNe
import Derived.Test.YtmignbhpofmgeaaDoorOf
import Derived.WalkKit
import Derived.ProofKit
import Derived.OpenShut
import Derived.ShutString
import Derived.ChangeOld
import Derived.SizedLaws
import Derived.Lib.SmallJoins
import Derived.ChangeSame
import Derived.ChangeMaps5
import Derived.LaidMore
import Derived.Deep.DeepHandedRow
import Derived.Deep.DeepWitnessRowRef
import Derived.Lib.LaidTab
namespace Go.Proofs.YtmignbhpofmgeaaDoor.topChunks
open Go.ChangeShapes Go.WideShapes Go.ChangeAt Go.RowKit Go.Joins Go.Proofs.YtmignbhpofmgeaaDoor.Top
open Go.ChangeMaps (open_string shut_string)
open Go.Deep (trod_struct3 trod_struct3_mk)
open Go.Proofs.YtmignbhpofmgeaaDoorW.PrintWords
set_option linter.unusedVariables false
theorem own : ownKnob Tryd.prog.godebug = none := by kernel_rfl
theorem c3 : Tryd.prog.cellsOf 3 = 1 := by kernel_rfl
theorem c4 : Tryd.prog.cellsOf 4 = 1 := by kernel_rfl
theorem c5 : Tryd.prog.cellsOf 5 = 1 := by kernel_rfl
theorem c23 : Tryd.prog.cellsOf 23 = 3 := by kernel_rfl
theorem c25 : Tryd.prog.cellsOf 25 = 4 := by kernel_rfl
theorem c27 : Tryd.prog.cellsOf 27 = 7 := by kernel_rfl
section
variable {H : Type} {enc : TypeId × Value → H} {w : World} {base : Nat} {sp : Nat → Bool} {held : Bool}
/-- A way, as it is read. -/
def wayD (de qu en F Fs R : Int) (U : Bool) : DataW H := .agg [.agg [.lit (.int .u8 de), .lit (.int .u8 qu), .lit (.int .i64 en)], .agg [.lit (.int .i64 F), .lit (.int .i64 Fs), .lit (.int .i64 R), .lit (.bool U)]]
set_option maxRecDepth 100000 in
theorem array7 {cs : Array Value} (h : cs.size = 7) : ∃ a b c d e f g, cs = #[a, b, c, d, e, f, g] := by
  obtain ⟨l⟩ := cs
  match l, h with
  | [a, b, c, d, e, f, g], _ => exact ⟨a, b, c, d, e, f, g, rfl⟩
set_option maxRecDepth 100000 in
theorem open_way {r : Reach} {b0 : Nat} {v : Value} {d : DataW H} {p : List MemPlace} (hv : Value.okWide Tryd.prog w r b0 27 v) (h : DataW.Trod enc Tryd.prog w base sp held 27 v d p) :
    ∃ de qu en F Fs R U, v = .agg #[.int .u8 de, .int .u8 qu, .int .i64 en, .int .i64 F, .int .i64 Fs, .int .i64 R, .bool U] ∧ d = wayD de qu en F Fs R U ∧ p = [] ∧
      (Lit.int .u8 de).wf = true ∧ (Lit.int .u8 qu).wf = true ∧ (Lit.int .i64 en).wf = true ∧ (Lit.int .i64 F).wf = true ∧ (Lit.int .i64 Fs).wf = true ∧ (Lit.int .i64 R).wf = true := by
  obtain ⟨cs, rfl, hsz⟩ := okWide_struct Tryd.underlying27 hv
  obtain ⟨a0, a1, a2, a3, a4, a5, a6, rfl⟩ := array7 (hsz.trans c27)
  obtain ⟨fuel, hf⟩ := h
  obtain ⟨y0, y1, n, hx, _, h0, h1⟩ := trod_struct2 Tryd.underlying27 hf
  have h0' : DataW.trod enc Tryd.prog w base sp held n 23 (([a0, a1, a2, a3, a4, a5, a6].drop 0).take (Tryd.prog.cellsOf 23)) = some y0 := h0
  have h1' : DataW.trod enc Tryd.prog w base sp held n 25 (([a0, a1, a2, a3, a4, a5, a6].drop 3).take (Tryd.prog.cellsOf 25)) = some y1 := h1
  rw [c23] at h0'
  rw [c25] at h1'
  simp only [List.drop_zero, List.drop_succ_cons, List.take_succ_cons, List.take_zero] at h0' h1'
  obtain ⟨z0, z1, z2, n1, hy0, _, g0, g1, g2⟩ := trod_struct3 Tryd.underlying23 h0'
  obtain ⟨u0, u1, u2, u3, n2, hy1, _, k0, k1, k2, k3⟩ := trod_struct4 Tryd.underlying25 h1'
  have g0' : DataW.trod enc Tryd.prog w base sp held n1 5 (([a0, a1, a2].drop 0).take (Tryd.prog.cellsOf 5)) = some z0 := g0
  have g1' : DataW.trod enc Tryd.prog w base sp held n1 5 (([a0, a1, a2].drop 1).take (Tryd.prog.cellsOf 5)) = some z1 := g1
  have g2' : DataW.trod enc Tryd.prog w base sp held n1 3 (([a0, a1, a2].drop 2).take (Tryd.prog.cellsOf 3)) = some z2 := g2
  have k0' : DataW.trod enc Tryd.prog w base sp held n2 3 (([a3, a4, a5, a6].drop 0).take (Tryd.prog.cellsOf 3)) = some u0 := k0
  have k1' : DataW.trod enc Tryd.prog w base sp held n2 3 (([a3, a4, a5, a6].drop 1).take (Tryd.prog.cellsOf 3)) = some u1 := k1
  have k2' : DataW.trod enc Tryd.prog w base sp held n2 3 (([a3, a4, a5, a6].drop 2).take (Tryd.prog.cellsOf 3)) = some u2 := k2
  have k3' : DataW.trod enc Tryd.prog w base sp held n2 4 (([a3, a4, a5, a6].drop 3).take (Tryd.prog.cellsOf 4)) = some u3 := k3
  rw [c5] at g0' g1'
  rw [c3] at g2' k0' k1' k2'
  rw [c4] at k3'
  simp only [List.drop_zero, List.drop_succ_cons, List.take_succ_cons, List.take_zero] at g0' g1' g2' k0' k1' k2' k3'
  obtain ⟨de, e0, rfl, w0⟩ := DataW.trod_int Tryd.underlying5 g0'
  obtain ⟨qu, e1, rfl, w1⟩ := DataW.trod_int Tryd.underlying5 g1'
  obtain ⟨en, e2, rfl, w2⟩ := DataW.trod_int Tryd.underlying3 g2'
  obtain ⟨F, e3, rfl, w3⟩ := DataW.trod_int Tryd.underlying3 k0'
  obtain ⟨Fs, e4, rfl, w4⟩ := DataW.trod_int Tryd.underlying3 k1'
  obtain ⟨R, e5, rfl, w5⟩ := DataW.trod_int Tryd.underlying3 k2'
  obtain ⟨U, e6, rfl⟩ := DataW.trod_bool Tryd.underlying4 k3'
  simp only [List.cons.injEq, and_true] at e0 e1 e2 e3 e4 e5 e6
  subst e0 e1 e2 e3 e4 e5 e6 hy0 hy1
  simp only [Prod.mk.injEq] at hx
  obtain ⟨rfl, rfl⟩ := hx
  exact ⟨de, qu, en, F, Fs, R, U, rfl, rfl, rfl, w0, w1, w2, w3, w4, w5⟩
set_option maxRecDepth 100000 in
theorem shut_way {de qu en F Fs R : Int} {U : Bool} (w0 : (Lit.int .u8 de).wf = true) (w1 : (Lit.int .u8 qu).wf = true) (w2 : (Lit.int .i64 en).wf = true) (w3 : (Lit.int .i64 F).wf = true) (w4 : (Lit.int .i64 Fs).wf = true) (w5 : (Lit.int .i64 R).wf = true) :
    DataW.Trod enc Tryd.prog w base sp held 27 (.agg #[.int .u8 de, .int .u8 qu, .int .i64 en, .int .i64 F, .int .i64 Fs, .int .i64 R, .bool U]) (wayD de qu en F Fs R U) [] := by
  have hb : DataW.trod enc Tryd.prog w base sp held 1 4 [.bool U] = some (.lit (.bool U), []) := by simp [DataW.trod, Tryd.underlying4]
  have h23 : DataW.trod enc Tryd.prog w base sp held 2 23 [.int .u8 de, .int .u8 qu, .int .i64 en] = some (.agg [.lit (.int .u8 de), .lit (.int .u8 qu), .lit (.int .i64 en)], []) :=
    trod_struct3_mk (y0 := (.lit (.int .u8 de), [])) (y1 := (.lit (.int .u8 qu), [])) (y2 := (.lit (.int .i64 en), [])) Tryd.underlying23 (by rw [c23]; rfl)
      (by show DataW.trod _ _ _ _ _ _ _ 5 (([Value.int .u8 de, .int .u8 qu, .int .i64 en].drop 0).take (Tryd.prog.cellsOf 5)) = _; rw [c5]; exact trod_int_mk 0 Tryd.underlying5 w0)
      (by show DataW.trod _ _ _ _ _ _ _ 5 (([Value.int .u8 de, .int .u8 qu, .int .i64 en].drop 1).take (Tryd.prog.cellsOf 5)) = _; rw [c5]; exact trod_int_mk 0 Tryd.underlying5 w1)
      (by show DataW.trod _ _ _ _ _ _ _ 3 (([Value.int .u8 de, .int .u8 qu, .int .i64 en].drop 2).take (Tryd.prog.cellsOf 3)) = _; rw [c3]; exact trod_int_mk 0 Tryd.underlying3 w2)
  have h25 : DataW.trod enc Tryd.prog w base sp held 2 25 [.int .i64 F, .int .i64 Fs, .int .i64 R, .bool U] = some (.agg [.lit (.int .i64 F), .lit (.int .i64 Fs), .lit (.int .i64 R), .lit (.bool U)], []) :=
    trod_struct4_mk (y0 := (.lit (.int .i64 F), [])) (y1 := (.lit (.int .i64 Fs), [])) (y2 := (.lit (.int .i64 R), [])) (y3 := (.lit (.bool U), [])) Tryd.underlying25 (by rw [c25]; rfl)
      (by show DataW.trod _ _ _ _ _ _ _ 3 (([Value.int .i64 F, .int .i64 Fs, .int .i64 R, .bool U].drop 0).take (Tryd.prog.cellsOf 3)) = _; rw [c3]; exact trod_int_mk 0 Tryd.underlying3 w3)
      (by show DataW.trod _ _ _ _ _ _ _ 3 (([Value.int .i64 F, .int .i64 Fs, .int .i64 R, .bool U].drop 1).take (Tryd.prog.cellsOf 3)) = _; rw [c3]; exact trod_int_mk 0 Tryd.underlying3 w4)
      (by show DataW.trod _ _ _ _ _ _ _ 3 (([Value.int .i64 F, .int .i64 Fs, .int .i64 R, .bool U].drop 2).take (Tryd.prog.cellsOf 3)) = _; rw [c3]; exact trod_int_mk 0 Tryd.underlying3 w5)
      (by show DataW.trod _ _ _ _ _ _ _ 4 (([Value.int .i64 F, .int .i64 Fs, .int .i64 R, .bool U].drop 3).take (Tryd.prog.cellsOf 4)) = _; rw [c4]; exact hb)
  exact ⟨3, trod_struct2_mk (y0 := (_, [])) (y1 := (_, [])) Tryd.underlying27 (by rw [c27]; rfl)
    (by show DataW.trod _ _ _ _ _ _ _ 23 (([Value.int .u8 de, .int .u8 qu, .int .i64 en, .int .i64 F, .int .i64 Fs, .int .i64 R, .bool U].drop 0).take (Tryd.prog.cellsOf 23)) = _; rw [c23]; exact h23)
    (by show DataW.trod _ _ _ _ _ _ _ 25 (([Value.int .u8 de, .int .u8 qu, .int .i64 en, .int .i64 F, .int .i64 Fs, .int .i64 R, .bool U].drop 3).take (Tryd.prog.cellsOf 25)) = _; rw [c25]; exact h25)⟩
end
theorem laidOut : laidOutB Tryd.prog = true := by kernel_rfl
theorem c41 : Tryd.prog.cellsOf 41 = 1 := by kernel_rfl
theorem c43 : Tryd.prog.cellsOf 43 = 2 := by kernel_rfl
theorem ints_C {w : World} {x : Addr} {zs : List Int} {n : Nat} (hn : n ≤ zs.length) (hm : zs.length ≤ maxLen) (hcell : ∀ i, i < zs.length → w.cell? (x.add i) = some (.int .i64 (zs.getD i 0))) : Kd.C (Kd.int .i64) w (some x) n (zs.take n) := by
  refine ⟨by rw [List.length_take]; omega, by simp only [maxLen] at hm; omega, fun hp => ⟨x, rfl, fun j p hj => ⟨[.int .i64 p], rfl, rfl, fun i u hi => ?_⟩⟩⟩
  have hjl : j < n := by have := (List.getElem?_eq_some_iff.1 hj).1; rw [List.length_take] at this; omega
  match i, hi with
  | 0, hi =>
    simp at hi
    subst hi
    have h := hcell j (by omega)
    rw [List.getElem?_take_of_lt hjl] at hj
    rw [List.getD_eq_getElem?_getD, hj] at h
    show w.cell? (x.add (j * 1 + 0)) = _
    simpa using h
  | i + 1, hi => simp at hi
section
variable {H : Type} {enc : TypeId × Value → H} {w : World} {base : Nat} {held : Bool}
set_option maxRecDepth 100000 in
theorem open_ints1 {n : Nat} {v : Value} {x : DataW H × List MemPlace} (h : DataW.trod enc Tryd.prog w base (fun _ => true) held n 41 [v] = some x) : ∃ A k c l, v = .slice A k c ∧ l.length = k ∧ k ≤ c ∧ Kd.C (Kd.int .i64) w A k l := by
  rcases open_ints Tryd.underlying41 Tryd.underlying3 (by kernel_rfl) h with ⟨hcs, _⟩ | ⟨y, l, c, zs, hcs, _, hl, hm, hz, _, hcell, hwz⟩
  · simp only [List.cons.injEq, and_true] at hcs
    exact ⟨none, 0, 0, [], hcs, rfl, Nat.le_refl _, rfl, Nat.zero_le _, fun h => absurd h (Nat.lt_irrefl _)⟩
  · simp only [List.cons.injEq, and_true] at hcs
    have hz' : zs.length = c := by simpa using hz
    exact ⟨some y, l, c, zs.take l, hcs, by rw [List.length_take]; omega, hl, ints_C (by omega) (by omega) hcell⟩
set_option maxRecDepth 100000 in
theorem open_deal {r : Reach} {b0 : Nat} {v : Value} {d : DataW H} {p : List MemPlace} (hv : Value.okWide Tryd.prog w r b0 43 v) (h : DataW.Trod enc Tryd.prog w base (fun _ => true) held 43 v d p) :
    ∃ A1 n1 c1 l1 A2 n2 c2 l2, v = .agg #[.slice A1 n1 c1, .slice A2 n2 c2] ∧ l1.length = n1 ∧ n1 ≤ c1 ∧ Kd.C (Kd.int .i64) w A1 n1 l1 ∧ l2.length = n2 ∧ n2 ≤ c2 ∧ Kd.C (Kd.int .i64) w A2 n2 l2 := by
  obtain ⟨cs, rfl, hsz⟩ := okWide_struct Tryd.underlying43 hv
  obtain ⟨a0, a1, rfl⟩ := array2 (hsz.trans c43)
  obtain ⟨fuel, hf⟩ := h
  obtain ⟨y0, y1, n, hx, _, h0, h1⟩ := trod_struct2 Tryd.underlying43 hf
  have h0' : DataW.trod enc Tryd.prog w base (fun _ => true) held n 41 (([a0, a1].drop 0).take (Tryd.prog.cellsOf 41)) = some y0 := h0
  have h1' : DataW.trod enc Tryd.prog w base (fun _ => true) held n 41 (([a0, a1].drop 1).take (Tryd.prog.cellsOf 41)) = some y1 := h1
  rw [c41] at h0' h1'
  simp only [List.drop_zero, List.drop_succ_cons, List.take_succ_cons, List.take_zero] at h0' h1'
  obtain ⟨A1, n1, c1, l1, rfl, e1, m1, K1⟩ := open_ints1 h0'
  obtain ⟨A2, n2, c2, l2, rfl, e2, m2, K2⟩ := open_ints1 h1'
  exact ⟨A1, n1, c1, l1, A2, n2, c2, l2, rfl, e1, m1, K1, e2, m2, K2⟩
end
theorem u8_range {n : Int} (h : (Lit.int .u8 n).wf = true) : 0 ≤ n ∧ n ≤ 255 := by
  simp [Lit.wf] at h
  have a : IntKind.u8.min = 0 := rfl
  have b : IntKind.u8.max = 255 := rfl
  omega
set_option maxRecDepth 100000 in
/-- What the walk gives, for every argument and every world that holds the table. -/
theorem contract (H : Type) (enc : TypeId × Value → H) (W : World) (base : Nat) (args : Array Value) (ds gs : List (DataW H)) (before : List MemPlace)
    (hval : ∀ (j : Nat) t v, Tryd.f4.params[j]? = some t → args[j]? = some v → Value.okWide Tryd.prog W .any base t v)
    (hW : DataW.Whole enc Tryd.prog Tryd.f4.params.toList Rows.topChunksSpec.vars false W args.toList ds gs before) (hL : laidMetH Tryd.prog Rows.topChunksRow.laid W) :
    Calls Tryd.prog 4 args W fun e W' => ∃ v, e = .returned v ∧ Rows.topChunksSpec.post enc Tryd.prog Tryd.f4 false true false false W args v W' := by
  have hW' := hW
  obtain ⟨p, q, hA0, hV, rfl, hfz, hnd⟩ := hW
  have hA : DataW.TrodAll enc Tryd.prog W 0 (fun _ => true) true Tryd.f4.params.toList args.toList ds p := hA0
  rw [Tryd.params4] at hA hval
  obtain ⟨v0, vs0, d0, ds0, p0, q0, hargs, rfl, rfl, h0, r0⟩ := trodAll_cons hA
  obtain ⟨v1, vs1, d1, ds1, p1, q1, rfl, rfl, rfl, h1, r1⟩ := trodAll_cons r0
  obtain ⟨v2, vs2, d2, ds2, p2, q2, rfl, rfl, rfl, h2, r2⟩ := trodAll_cons r1
  obtain ⟨rfl, rfl, rfl⟩ := trodAll_nil r2
  obtain rfl : args = #[v0, v1, v2] := by cases args; simp_all
  obtain ⟨rfl, rfl⟩ := trodVars_none hV
  obtain ⟨de, qu, en, F, Fs, R, U, rfl, rfl, rfl, w0, w1, w2, w3, w4, w5⟩ := open_way (hval 0 27 v0 rfl rfl) h0
  obtain ⟨s, rfl, rfl, rfl, y1⟩ := open_string Tryd.underlying9 (hval 1 9 v1 rfl rfl) h1
  obtain ⟨A1, n1, c1, l1, A2, n2, c2, l2, rfl, e1, m1, K1, e2, m2, K2⟩ := open_deal (hval 2 43 v2 rfl rfl) h2
  have lt2 : ∀ x ∈ p2, x.block < W.heap.size := by obtain ⟨m, hm⟩ := h2; exact DataW.trod_lt m _ _ _ hm
  clear hA0
  have hcc := chunks_calls W.heap.size de qu en F Fs R U s A1 l1 c1 A2 l2 c2 W (utf_of_laid hL) (u8_range w0) (u8_range w1) (by rw [e1]; exact K1) (by rw [e1]; exact m1) (by rw [e2]; exact K2) (by rw [e2]; exact m2)
  rw [e1, e2] at hcc
  refine hcc.mono fun e W' ⟨he, ha⟩ => ?_
  subst he
  have bel : Below W.heap.size W W' := ha.below (Nat.le_refl _) (fun _ _ h => h)
  exact ⟨_, rfl, _, _, _, [], _, [], hW', trodAll_mk1 (shut_bool Tryd.underlying4 _), trodAll_cons_mk (shut_way w0 w1 w2 w3 w4 w5) (trodAll_cons_mk (shut_string Tryd.underlying9 y1) (trodAll_cons_mk (Below.trod laidOut (by kernel_rfl) (of_decide_eq_true (by kernel_rfl)) h2 bel lt2) trodAll_mk0)), rfl, bel.frame _, fun h => by cases h⟩
/-- A world for the witness: the door's own run has laid the table. -/
noncomputable def laidWorld (os : Os) : World := World.doorLaid Tryd.prog 400 os
theorem laid_met (os : Os) (args : Array Value) : laidMet Tryd.prog Rows.topChunksRow.laid ((laidWorld os).forCall (fun _ _ => 0) ⟨#[], args, []⟩).memory :=
  laidMet_of_run' 8 (by kernel_rfl) (by kernel_rfl)
set_option maxRecDepth 100000 in
theorem lifted (os : Os) (started : os.Started) (H : Type) (enc : TypeId × Value → H) (F : Stop.Interp) :
    ReturnsInHanded {} Tryd.checked os 4 .any ((OpenSpec.ofChange Rows.topChunksSpec).preRow enc Tryd.prog Tryd.f4 Rows.topChunksRow.domain false Rows.topChunksRow.laid) (((OpenSpec.ofChange Rows.topChunksSpec).at F).post enc Tryd.prog Tryd.f4 false true false false) := by
  have hx : ∃ places, DataW.whole enc Tryd.prog ((laidWorld os).forCall (fun _ _ => 0) ⟨#[], #[.agg #[.int .u8 0, .int .u8 0, .int .i64 0, .int .i64 0, .int .i64 0, .int .i64 0, .bool false], .string ByteArray.empty, .agg #[.slice none 0 0, .slice none 0 0]], []⟩).memory Tryd.f4.params.toList Rows.topChunksSpec.vars false (#[.agg #[.int .u8 0, .int .u8 0, .int .i64 0, .int .i64 0, .int .i64 0, .int .i64 0, .bool false], .string ByteArray.empty, .agg #[.slice none 0 0, .slice none 0 0]] : Array Value).toList 8 = some ([.agg [.agg [.lit (.int .u8 0), .lit (.int .u8 0), .lit (.int .i64 0)], .agg [.lit (.int .i64 0), .lit (.int .i64 0), .lit (.int .i64 0), .lit (.bool false)]], .lit (.string []), .agg [.nil, .nil]], [], places) := ⟨[], by kernel_rfl⟩
  obtain ⟨places, hx⟩ := hx
  refine returnsInHanded_of_row (C := Tryd.checked) (s := OpenSpec.ofChange Rows.topChunksSpec) own started (by kernel_rfl) Tryd.func4
    (witness_row_atRef (enc := enc) (C := Tryd.checked) false (laidWorld os) #[.agg #[.int .u8 0, .int .u8 0, .int .i64 0, .int .i64 0, .int .i64 0, .int .i64 0, .bool false], .string ByteArray.empty, .agg #[.slice none 0 0, .slice none 0 0]] rfl (by kernel_rfl) (by kernel_rfl) (by kernel_rfl)
      (OpenSpec.preRow_of_cond 8 hx (by kernel_rfl) (fun k hk => by cases hk) (by kernel_rfl) (laid_met os _))) ?_
  intro W base args ds gs before hval hW _ _ _ hL _ _
  exact contract H enc W base args ds gs before hval hW hL
theorem said : Rows.TopChunksSaid :=
  OpenClaim.holds_of_cond 4 Tryd.f4 rfl rfl rfl rfl rfl rfl rfl ⟨rfl, rfl, rfl, rfl, rfl⟩ rfl rfl rfl rfl rfl (by kernel_rfl) Tryd.func4 (by kernel_rfl)
    (of_decide_eq_true (by kernel_rfl)) (by unfold Func.isWrapper; first | (rw [if_pos (by decide +kernel)]; kernel_rfl) | (rw [if_neg (by decide +kernel)]; exact ⟨rfl, rfl⟩))
    (fun os started H enc _ F => by rw [OpenClaim.pre_eq_preRow]; exact lifted os started H enc F)
/-- No parameter wants a stand-in; the program's own looks are off: what the card asks. -/
theorem plain (f : FuncId) (fn : Func) (hf : Tryd.pinned.checked.prog.funcNamed "quillpen/quillpentop.TopChunks" = some f) (hfn : Tryd.pinned.checked.prog.funcs[f]? = some fn) :
    false = Tryd.pinned.checked.prog.looks [] ∧ ∀ (j : Nat) t, fn.params[j]? = some t → Tryd.pinned.checked.prog.wantsStandIn t = false := by
  obtain rfl : f = 4 := Option.some.inj ((show Tryd.prog.funcNamed "quillpen/quillpentop.TopChunks" = some 4 by kernel_rfl).symm.trans hf) |>.symm
  obtain rfl : fn = Tryd.f4 := (Option.some.inj (Tryd.func4.symm.trans hfn)).symm
  refine ⟨by kernel_rfl, fun j t ht => ?_⟩
  rw [Tryd.params4] at ht
  have hm : t = 27 ∨ t = 9 ∨ t = 43 := by
    have := Array.mem_of_getElem? ht
    simpa using this
  rcases hm with rfl | rfl | rfl
  · exact (show Tryd.prog.wantsStandIn 27 = false by kernel_rfl)
  · exact (show Tryd.prog.wantsStandIn 9 = false by kernel_rfl)
  · exact (show Tryd.prog.wantsStandIn 43 = false by kernel_rfl)
theorem card : Rows.TopChunksCardSaid :=
  Claim7.holds_tied_plain_at .later [] _ _ _ _ said (fun _ h => by cases h) (by kernel_rfl) (fun _ h => by cases h) topChunks_row_tie rfl ⟨rfl, rfl⟩ (by kernel_rfl) rfl plain (by kernel_rfl)
#print axioms card
end Go.Proofs.YtmignbhpofmgeaaDoor.topChunks
namespace Go.Proofs.YtmignbhpofmgeaaDoor
/-- The tied card, under a short name, for the claim. -/
theorem topChunks_card : Rows.TopChunksCardSaid := topChunks.card
end Go.Proofs.YtmignbhpofmgeaaDoor
