/- A part of the reader. -/
import Derived.Test.YtmignbhpofmgeaaDoorProg
import Derived.Below
import Derived.Deep.Draws
import Derived.Deep.AppendLies
import Derived.Maps.AppendAt
import Derived.OwnWalk
import Derived.Laws.BytesArg
import Derived.Laws.MakeOwn
import Derived.Laws.OwnMore
import Derived.Deep.OwnRows
import Derived.Tactics
import Derived.Lib.ConvBytes
import Derived.Laws.Slices
import Derived.WalkKit
import Derived.KernelRfl
import Derived.RowKit3
import Derived.Deep.LoopGhost
import Derived.Deep.QuietTactic
import Derived.BigQuiet
import Derived.WideLaws
import Derived.Deep.DeepCutAuto
import Derived.Deep.CutBlock
import Derived.Deep.RegionHeld3
import Derived.Laws.Rows
import Derived.Lib.AppendStr
import Derived.ArgAppend
import Derived.Laws.IdiomCopy
import Derived.OrdersHeld
import Derived.Laws.BitsLemmas
import Derived.RowKit
import Derived.Test.YtmignbhpofmgeaaDoorWWords
import Derived.Test.YtmignbhpofmgeaaDoorWLast
import Derived.Test.YtmignbhpofmgeaaDoorWTab
import Derived.Test.YtmignbhpofmgeaaDoorWFour
import Derived.Test.YtmignbhpofmgeaaDoorWQPut
import Derived.Test.YtmignbhpofmgeaaDoorWApart
import Derived.Test.YtmignbhpofmgeaaDoorWArr
import Derived.Test.YtmignbhpofmgeaaDoorWZeros
import Derived.Test.YtmignbhpofmgeaaDoorWFoot
import Derived.Test.YtmignbhpofmgeaaDoorWKept
import Derived.Test.YtmignbhpofmgeaaDoorWShare
import Derived.Test.YtmignbhpofmgeaaDoorWN
import Derived.Test.YtmignbhpofmgeaaDoorWFootNe
import Derived.Test.YtmignbhpofmgeaaDoorWAt
import Derived.Test.YtmignbhpofmgeaaDoorWEqStruct
import Derived.Test.YtmignbhpofmgeaaDoorWRepsOne
import Derived.Test.YtmignbhpofmgeaaDoorWInv
import Derived.Test.YtmignbhpofmgeaaDoorWInvWords
import Derived.Test.YtmignbhpofmgeaaDoorWGuard
import Derived.Test.YtmignbhpofmgeaaDoorWNEv
import Derived.Test.YtmignbhpofmgeaaDoorWMore
import Derived.Test.YtmignbhpofmgeaaDoorIter
import Derived.RangeFuncBox
import Derived.Lib.ConvBytes
import Derived.Test.YtmignbhpofmgeaaDoorOe
namespace Go.Proofs.YtmignbhpofmgeaaDoor.Top
open Go.RowKit Go.Proofs.YtmignbhpofmgeaaDoorW.PrintWords Go.Proofs.YtmignbhpofmgeaaDoorW.PrintLast Go.Proofs.YtmignbhpofmgeaaDoorW.PrintMore Go.Proofs.YtmignbhpofmgeaaDoor.Iter
set_option linter.unusedVariables false
set_option linter.unusedSimpArgs false

theorem TabAt.acts {W W' : World} {qv : Value} {ls : List (List ByteArray)} (h : TabAt W qv ls) (ha : Acts (fun _ => False) W W') : TabAt W' qv ls := by
  obtain ⟨rows, h1, h2, h3⟩ := h
  exact ⟨rows, owns_keep h1 (fun k e => ha.same k (row_lt h1 k e) (fun h => h)), h2, fun i v l hi hl => by
    have h4 := h3 i v l hi hl
    exact owns_keep h4 (fun k e => ha.same k (row_lt h4 k e) (fun h => h))⟩
theorem strs_C {W : World} {v : Value} {l : List ByteArray} (h : W.ownsRow 0 9 1 v l.length (l.map Value.string)) (hb : l.length ≤ 1000000) : ∃ a c, v = .slice a l.length c ∧ l.length ≤ c ∧ Kd.string.C W a l.length l := by
  obtain ⟨a, c, hv, hc⟩ := slice_cap h
  refine ⟨a, c, hv, hc, rfl, by omega, fun hp => ?_⟩
  obtain ⟨g, cap, e1, _, _⟩ := owns_cell h 0 (.string (l[0]'hp)) (by simp [hp])
  rw [e1] at hv
  simp only [Value.slice.injEq] at hv
  refine ⟨⟨g, 0, none⟩, hv.1.symm, fun j p hj => ⟨[.string p], rfl, rfl, fun i u hi => ?_⟩⟩
  obtain ⟨g2, cap2, e2, e3, _⟩ := owns_cell h j (.string p) (by rw [List.getElem?_map, hj]; rfl)
  rw [e1] at e2
  simp only [Value.slice.injEq, Option.some.injEq, Addr.mk.injEq, and_true, true_and] at e2
  match i, hi with
  | 0, hi =>
    simp at hi
    subst hi
    rw [add_plain, e2.1]
    show W.cell? ⟨g2, 0 + (j * 1 + 0), none⟩ = _
    simpa using e3
  | i + 1, hi => simp at hi
theorem tab_C {W : World} {qv : Value} {ls : List (List ByteArray)} (h : TabAt W qv ls) (hb : ls.length ≤ 1000000) (hr : ∀ x ∈ ls, x.length ≤ 1000000) : ∃ a c, qv = .slice a ls.length c ∧ ls.length ≤ c ∧ Kd.C (Kd.slice 9 Kd.string) W a ls.length ls := by
  obtain ⟨rows, h1, h2, h3⟩ := h
  obtain ⟨a, c, hv, hc⟩ := slice_cap h1
  refine ⟨a, c, hv, hc, rfl, by omega, fun hp => ?_⟩
  obtain ⟨v0, hv0⟩ : ∃ v0, rows[0]? = some v0 := ⟨_, List.getElem?_eq_getElem (by omega)⟩
  obtain ⟨g, cap, e1, _, _⟩ := owns_cell h1 0 v0 hv0
  rw [e1] at hv
  simp only [Value.slice.injEq] at hv
  refine ⟨⟨g, 0, none⟩, hv.1.symm, fun j p hj => ?_⟩
  have hjl : j < ls.length := (List.getElem?_eq_some_iff.1 hj).1
  obtain ⟨v, hvj⟩ : ∃ v, rows[j]? = some v := ⟨_, List.getElem?_eq_getElem (by omega)⟩
  obtain ⟨oa, oc, rfl, hoc, hC⟩ := strs_C (h3 j v p hvj hj) (hr p (List.mem_of_getElem? hj))
  refine ⟨[.slice oa p.length oc], rfl, ⟨oa, oc, rfl, hoc, hC⟩, fun i u hi => ?_⟩
  obtain ⟨g2, cap2, e2, e3, _⟩ := owns_cell h1 j _ hvj
  rw [e1] at e2
  simp only [Value.slice.injEq, Option.some.injEq, Addr.mk.injEq, and_true, true_and] at e2
  match i, hi with
  | 0, hi =>
    simp at hi
    subst hi
    rw [add_plain, e2.1]
    show W.cell? ⟨g2, 0 + (j * 1 + 0), none⟩ = _
    simpa using e3
  | i + 1, hi => simp at hi
set_option maxRecDepth 100000 in
set_option maxHeartbeats 16000000 in
theorem chunks_calls (n0 : Nat) (de qu en F Fs Rl : Int) (U : Bool) (s : ByteArray) (A1 : Option Addr) (l1 : List Int) (c1 : Nat) (A2 : Option Addr) (l2 : List Int) (c2 : Nat) (W : World) (hU : Utf n0 W) (hd : 0 ≤ de ∧ de ≤ 255) (hq : 0 ≤ qu ∧ qu ≤ 255)
    (hr1 : Kd.C (Kd.int .i64) W A1 l1.length l1) (hc1 : l1.length ≤ c1) (hr2 : Kd.C (Kd.int .i64) W A2 l2.length l2) (hc2 : l2.length ≤ c2) :
    Calls Tryd.prog 4 #[.agg #[.int .u8 de, .int .u8 qu, .int .i64 en, .int .i64 F, .int .i64 Fs, .int .i64 Rl, .bool U], .string s, .agg #[.slice A1 l1.length c1, .slice A2 l2.length c2]] W (fun e w' => e = .returned (.bool true) ∧ Acts (fun _ => False) W w') := by
  obtain ⟨W1, hW1⟩ : ∃ W1, (W.alloc (.cells #[.int .u8 de, .int .u8 qu, .int .i64 en, .int .i64 F, .int .i64 Fs, .int .i64 Rl, .bool U] 27)).alloc (.cells #[.slice A1 l1.length c1, .slice A2 l2.length c2] 43) = W1 := ⟨_, rfl⟩
  have hx : W1.heap[W.heap.size]? = some (.cells #[.int .u8 de, .int .u8 qu, .int .i64 en, .int .i64 F, .int .i64 Fs, .int .i64 Rl, .bool U] 27 (0, 0)) := by rw [← hW1]; exact blk_alloc (by simpa using heap_alloc_new W (.cells #[.int .u8 de, .int .u8 qu, .int .i64 en, .int .i64 F, .int .i64 Fs, .int .i64 Rl, .bool U] 27)) _
  have hy : W1.heap[W.heap.size + 1]? = some (.cells #[.slice A1 l1.length c1, .slice A2 l2.length c2] 43 (0, 0)) := by rw [← hW1]; simpa using heap_alloc_new (W.alloc (.cells #[.int .u8 de, .int .u8 qu, .int .i64 en, .int .i64 F, .int .i64 Fs, .int .i64 Rl, .bool U] 27)) (.cells #[.slice A1 l1.length c1, .slice A2 l2.length c2] 43)
  have hA1 : Acts (fun _ => False) W W1 := by rw [← hW1]; exact (Acts.alloc (fun _ => False) _ _).trans (Acts.alloc (fun _ => False) _ _) (fun _ h => .inl h)
  have x0 := (blk_cell hx 0).trans rfl
  have x1 := (blk_cell hx 1).trans rfl
  have x2 := (blk_cell hx 2).trans rfl
  have x3 := (blk_cell hx 3).trans rfl
  have x4 := (blk_cell hx 4).trans rfl
  have x5 := (blk_cell hx 5).trans rfl
  have x6 := (blk_cell hx 6).trans rfl
  have p0 := (blk_cell hy 0).trans rfl
  have p1 := (blk_cell hy 1).trans rfl
  have hrc := right_calls de qu en F Fs Rl U W1
  have HU : Hid (Utf n0 W) := hU
  clear hU
  by_cases hs : (s.size : Int) > 300
  · go_enter Tryd.func4, Tryd.ntmps4
    go_wp2_with (first
      | (go_at_call 7; ((with_reducible refine (alive_calls n0 _ (HU.out.acts hA1 (fun _ h => h.elim))).mono ?_); rintro e wl ⟨rfl, hAl⟩)))
    go_ret
    exact ⟨rfl, hA1.trans hAl (fun _ h => .inl h)⟩
  by_cases hm1 : (l1.length : Int) > 100
  · go_enter Tryd.func4, Tryd.ntmps4
    go_wp2_with (first
      | (go_at_call 7; ((with_reducible refine (alive_calls n0 _ (HU.out.acts hA1 (fun _ h => h.elim))).mono ?_); rintro e wl ⟨rfl, hAl⟩)))
    go_ret
    exact ⟨rfl, hA1.trans hAl (fun _ h => .inl h)⟩
  by_cases hm2 : (l2.length : Int) > 100
  · go_enter Tryd.func4, Tryd.ntmps4
    go_wp2_with (first
      | (go_at_call 7; ((with_reducible refine (alive_calls n0 _ (HU.out.acts hA1 (fun _ h => h.elim))).mono ?_); rintro e wl ⟨rfl, hAl⟩)))
    go_ret
    exact ⟨rfl, hA1.trans hAl (fun _ h => .inl h)⟩
  obtain ⟨ok, hR⟩ : ∃ ok, rightB de qu en F Fs Rl = ok := ⟨_, rfl⟩
  rw [hR] at hrc
  cases ok with
  | false =>
    go_enter Tryd.func4, Tryd.ntmps4
    go_wp2_with (first
      | (go_at_call 6; ((with_reducible refine hrc.mono ?_); rintro e w2 ⟨rfl, hA2⟩; have HA2 : Hid (Acts (fun _ => False) W w2) := hA1.trans hA2 (fun _ h => .inl h); have HX2 : Hid (w2.heap[W.heap.size]? = _) := (hA2.same _ (blk_lt hx) (fun h => h)).trans hx; have HY2 : Hid (w2.heap[W.heap.size + 1]? = _) := (hA2.same _ (blk_lt hy) (fun h => h)).trans hy; have hx2 := HX2.out; have hy2 := HY2.out; have z0 := (blk_cell hx2 0).trans rfl; have z1 := (blk_cell hx2 1).trans rfl; have z2 := (blk_cell hx2 2).trans rfl; have z3 := (blk_cell hx2 3).trans rfl; have z4 := (blk_cell hx2 4).trans rfl; have z5 := (blk_cell hx2 5).trans rfl; have z6 := (blk_cell hx2 6).trans rfl; have q0 := (blk_cell hy2 0).trans rfl; have q1 := (blk_cell hy2 1).trans rfl; clear hA2 hx2 hy2 hrc))
      | (go_at_call 7; ((with_reducible refine (alive_calls n0 _ (HU.out.acts HA2.out (fun _ h => h.elim))).mono ?_); rintro e wl ⟨rfl, hAl⟩)))
    go_ret
    exact ⟨rfl, HA2.out.trans hAl (fun _ h => .inl h)⟩
  | true =>
    obtain ⟨k1, k2, k3⟩ := right_parts U hR hd hq
    have hsm := fed_small de qu en F Fs Rl U k3 (bytesOf s)
    rw [bytesOf_len] at hsm
    have hSc := Small.close (M := s.size) hsm.1 hsm.2.2.2
    have hRc := Rowed.close (M := s.size) hsm.2.1 hsm.2.2.2
    have hf1 := fun w (ha : Acts (fun _ => False) W w) => fed_calls n0 de qu en F Fs Rl U s A1 l1 c1 w (HU.out.acts ha (fun _ h => h.elim)) k1 k2 k3 (by omega) (by omega) (Kd.C_below hr1 (ha.below (Nat.le_refl _) (fun _ _ h => h))) hc1
    have hf2 := fun w (ha : Acts (fun _ => False) W w) => fed_calls n0 de qu en F Fs Rl U s A2 l2 c2 w (HU.out.acts ha (fun _ h => h.elim)) k1 k2 k3 (by omega) (by omega) (Kd.C_below hr2 (ha.below (Nat.le_refl _) (fun _ _ h => h))) hc2
    obtain ⟨fin, hF⟩ : ∃ fin, finR de qu en F Fs Rl U s = fin := ⟨_, rfl⟩
    have hF' : closeR (feedL (bytesOf s) (initR de qu en F Fs Rl U)) = fin := hF
    rw [hF'] at hSc hRc
    rw [hF] at hf1 hf2
    simp only [fltV] at hf1 hf2
    have hlen : fin.ready.length ≤ 1000000 := by have := hSc.2.2; omega
    have hrow : ∀ x ∈ fin.ready, x.length ≤ 1000000 := fun x hx => by have := hRc.2 x hx; omega
    obtain ⟨kt, htab⟩ := table_tells fin.ready 1000000 (Nat.le_refl _) hlen hrow
    clear hsm hSc hRc hF hF' hR k1 k2 k3
    go_enter Tryd.func4, Tryd.ntmps4
    go_wp2_with (first
      | (go_at_call 6; ((with_reducible refine hrc.mono ?_); rintro e w2 ⟨rfl, hA2⟩; have HA2 : Hid (Acts (fun _ => False) W w2) := hA1.trans hA2 (fun _ h => .inl h); have HX2 : Hid (w2.heap[W.heap.size]? = _) := (hA2.same _ (blk_lt hx) (fun h => h)).trans hx; have HY2 : Hid (w2.heap[W.heap.size + 1]? = _) := (hA2.same _ (blk_lt hy) (fun h => h)).trans hy; have hx2 := HX2.out; have hy2 := HY2.out; have z0 := (blk_cell hx2 0).trans rfl; have z1 := (blk_cell hx2 1).trans rfl; have z2 := (blk_cell hx2 2).trans rfl; have z3 := (blk_cell hx2 3).trans rfl; have z4 := (blk_cell hx2 4).trans rfl; have z5 := (blk_cell hx2 5).trans rfl; have z6 := (blk_cell hx2 6).trans rfl; have q0 := (blk_cell hy2 0).trans rfl; have q1 := (blk_cell hy2 1).trans rfl; clear hA2 hx2 hy2 hrc))
      | (go_at_call 14; (revert hf1; intro hf1; (with_reducible refine (hf1 _ HA2.out).mono ?_); rintro e w3 ⟨qv1, rfl, hT1, hA3⟩; clear hf1; have hA34 : Acts (fun _ => False) w3 (w3.alloc (.cells #[.int .i64 fin.fk, .int .i64 fin.fat] 35)) := Acts.alloc _ _ _; have hb4 : (w3.alloc (.cells #[.int .i64 fin.fk, .int .i64 fin.fat] 35)).heap[w3.heap.size]? = some (.cells #[.int .i64 fin.fk, .int .i64 fin.fat] 35 (0, 0)) := (by simpa using heap_alloc_new w3 (.cells #[.int .i64 fin.fk, .int .i64 fin.fat] 35)); have HA4 : Hid (Acts (fun _ => False) w2 _) := hA3.trans hA34 (fun _ h => .inl h); have HAW4 : Hid (Acts (fun _ => False) W _) := HA2.out.trans HA4.out (fun _ h => .inl h); have HT4 : Hid (TabAt _ qv1 fin.ready) := hT1.acts hA34; have HB4 : Hid (_ = _) := hb4; clear hT1 hA3 hA34 hb4; have hx2 := (HA4.out.same _ (blk_lt HX2.out) (fun h => h)).trans HX2.out; have hy2 := (HA4.out.same _ (blk_lt HY2.out) (fun h => h)).trans HY2.out; have z0 := (blk_cell hx2 0).trans rfl; have z1 := (blk_cell hx2 1).trans rfl; have z2 := (blk_cell hx2 2).trans rfl; have z3 := (blk_cell hx2 3).trans rfl; have z4 := (blk_cell hx2 4).trans rfl; have z5 := (blk_cell hx2 5).trans rfl; have z6 := (blk_cell hx2 6).trans rfl; have q0 := (blk_cell hy2 0).trans rfl; have q1 := (blk_cell hy2 1).trans rfl; clear hx2 hy2))
      | (go_at_call 14; ((with_reducible refine (hf2 _ HAW4.out).mono ?_); rintro e w5 ⟨qv2, rfl, hT2, hA5⟩; clear hf2; have hA56 : Acts (fun _ => False) w5 (w5.alloc (.cells #[.int .i64 fin.fk, .int .i64 fin.fat] 35)) := Acts.alloc _ _ _; have hb6 : (w5.alloc (.cells #[.int .i64 fin.fk, .int .i64 fin.fat] 35)).heap[w5.heap.size]? = some (.cells #[.int .i64 fin.fk, .int .i64 fin.fat] 35 (0, 0)) := (by simpa using heap_alloc_new w5 (.cells #[.int .i64 fin.fk, .int .i64 fin.fat] 35)); have HA6 : Hid (Acts (fun _ => False) _ _) := hA5.trans hA56 (fun _ h => .inl h); have HAW6 : Hid (Acts (fun _ => False) W _) := HAW4.out.trans HA6.out (fun _ h => .inl h); obtain ⟨a1, b1, rfl, hab1, hC1⟩ := tab_C (HT4.out.acts HA6.out) hlen hrow; obtain ⟨a2, b2, rfl, hab2, hC2⟩ := tab_C (hT2.acts hA56) hlen hrow; have hbA := (HA6.out.same _ (blk_lt HB4.out) (fun h => h)).trans HB4.out; have HBA : Hid (_ = _) := hbA; have HBB : Hid (_ = _) := hb6; clear hT2 hA5 hA56 hb6 hbA; have hst := PTopChunks.quillpenref05_SameTable.calls kt a1 b1 fin.ready a2 b2 fin.ready true _ hC1 hab1 hC2 hab2 (htab kt (Nat.le_refl _))))
      | (go_at_call 15; ((with_reducible refine hst.mono ?_); rintro e w7 ⟨rfl, hdr⟩; clear hst; obtain ⟨nd, rfl⟩ := hdr.out; have g0 := (blk_cell HBA.out 0).trans rfl; have g1 := (blk_cell HBA.out 1).trans rfl; have g2 := (blk_cell HBB.out 0).trans rfl; have g3 := (blk_cell HBB.out 1).trans rfl))
      | (go_at_call 7; ((with_reducible refine (alive_calls n0 _ (HU.out.acts (HAW6.out.trans (Acts.drewN _ _ _) (fun _ h => .inl h)) (fun _ h => h.elim))).mono ?_); rintro e wl ⟨rfl, hAl⟩)))
    go_ret
    exact ⟨rfl, (HAW6.out.trans (Acts.drewN _ _ _) (fun _ h => .inl h)).trans hAl (fun _ h => .inl h)⟩
end Go.Proofs.YtmignbhpofmgeaaDoor.Top
