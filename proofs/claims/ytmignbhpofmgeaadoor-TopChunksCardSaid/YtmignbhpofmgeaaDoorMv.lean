/- A part of the reader. -/
import Derived.Test.YtmignbhpofmgeaaDoorProg
import Derived.Below
import Derived.Deep.Draws
import Derived.Deep.AppendLies
import Derived.Maps.AppendAt
import Derived.OwnWalk
import Derived.Laws.BytesArg
import Derived.Laws.MakeOwn
import Derived.Laws.OwnMore
import Derived.Deep.OwnRows
import Derived.Tactics
import Derived.Lib.ConvBytes
import Derived.Laws.Slices
import Derived.WalkKit
import Derived.KernelRfl
import Derived.RowKit3
import Derived.Deep.LoopGhost
import Derived.Deep.QuietTactic
import Derived.BigQuiet
import Derived.WideLaws
import Derived.Deep.DeepCutAuto
import Derived.Deep.CutBlock
import Derived.Deep.RegionHeld3
import Derived.Laws.Rows
import Derived.Lib.AppendStr
import Derived.ArgAppend
import Derived.Laws.IdiomCopy
import Derived.OrdersHeld
import Derived.Laws.BitsLemmas
import Derived.RowKit
import Derived.Test.YtmignbhpofmgeaaDoorWWords
import Derived.Test.YtmignbhpofmgeaaDoorWLast
import Derived.Test.YtmignbhpofmgeaaDoorWTab
import Derived.Test.YtmignbhpofmgeaaDoorWFour
import Derived.Test.YtmignbhpofmgeaaDoorWQPut
import Derived.Test.YtmignbhpofmgeaaDoorWApart
import Derived.Test.YtmignbhpofmgeaaDoorWArr
import Derived.Test.YtmignbhpofmgeaaDoorWZeros
import Derived.Test.YtmignbhpofmgeaaDoorWFoot
import Derived.Test.YtmignbhpofmgeaaDoorWKept
import Derived.Test.YtmignbhpofmgeaaDoorWShare
import Derived.Test.YtmignbhpofmgeaaDoorWN
import Derived.Test.YtmignbhpofmgeaaDoorWFootNe
import Derived.Test.YtmignbhpofmgeaaDoorWAt
import Derived.Test.YtmignbhpofmgeaaDoorWEqStruct
import Derived.Test.YtmignbhpofmgeaaDoorWRepsOne
import Derived.Test.YtmignbhpofmgeaaDoorWInv
import Derived.Test.YtmignbhpofmgeaaDoorWInvWords
import Derived.Test.YtmignbhpofmgeaaDoorWGuard
import Derived.Test.YtmignbhpofmgeaaDoorWNEv
import Derived.Test.YtmignbhpofmgeaaDoorWMore
import Derived.Test.YtmignbhpofmgeaaDoorIter
import Derived.RangeFuncBox
import Derived.Lib.ConvBytes
import Derived.Test.YtmignbhpofmgeaaDoorMe
import Derived.Test.YtmignbhpofmgeaaDoorMu
namespace Go.Proofs.YtmignbhpofmgeaaDoor.Top
open Go.RowKit Go.Proofs.YtmignbhpofmgeaaDoorW.PrintWords Go.Proofs.YtmignbhpofmgeaaDoorW.PrintLast Go.Proofs.YtmignbhpofmgeaaDoorW.PrintMore Go.Proofs.YtmignbhpofmgeaaDoor.Iter
set_option linter.unusedVariables false
set_option linter.unusedSimpArgs false

/-- Bytes lie in a row of their own, not older than n0. -/
structure Bytes (n0 : Nat) (W : World) (v : Value) (xs : List Int) (g cap : Nat) : Prop where
  val : v = .slice (some ⟨g, 0, none⟩) xs.length cap
  new : n0 ≤ g
  room : xs.length ≤ cap
  row : ∃ (cur : Array Value) (t : TypeId) (fz : Nat × Nat), W.heap[g]? = some (.cells cur t fz) ∧ cap ≤ cur.size ∧ (∀ (i : Nat) (x : Int), xs[i]? = some x → cur[i]? = some (Value.int .u8 x)) ∧ (∀ i : Nat, i < cap → ¬ (fz.1 ≤ i ∧ i < fz.2))
theorem Bytes.lt {n0 : Nat} {W : World} {v : Value} {xs : List Int} {g cap : Nat} (h : Bytes n0 W v xs g cap) : g < W.heap.size := by
  obtain ⟨cur, t, fz, h1, _⟩ := h.row
  exact (Array.getElem?_eq_some_iff.1 h1).1
theorem Bytes.cell {n0 : Nat} {W : World} {v : Value} {xs : List Int} {g cap : Nat} (h : Bytes n0 W v xs g cap) (i : Nat) (x : Int) (hi : xs[i]? = some x) : W.cell? ⟨g, i, none⟩ = some (.int .u8 x) := by
  obtain ⟨cur, t, fz, h1, _, h3, _⟩ := h.row
  simp [World.cell?, h1, h3 i x hi]
theorem Bytes.more {n0 : Nat} {W : World} {v : Value} {xs : List Int} {g cap : Nat} (h : Bytes n0 W v xs g cap) (i : Nat) (hi : i < cap) : (W.cell? ⟨g, i, none⟩).isSome = true ∧ W.frozen? ⟨g, i, none⟩ = false := by
  obtain ⟨cur, t, fz, h1, h2, h3, h4⟩ := h.row
  have := h4 i hi
  have hlt : i < cur.size := by omega
  constructor
  · simp [World.cell?, h1, hlt]
  · simp [World.frozen?, h1]; omega
theorem Bytes.keep {n0 : Nat} {W W' : World} {v : Value} {xs : List Int} {g cap : Nat} (h : Bytes n0 W v xs g cap) (hk : W'.heap[g]? = W.heap[g]?) : Bytes n0 W' v xs g cap :=
  ⟨h.val, h.new, h.room, by rw [hk]; exact h.row⟩
theorem wpList_run {P : Program} {w w1 : World} {ops : Array Oper} {rest : List Oper} {o : Oper} {a : Act} {Q : Exit → Act → World → Prop} (hgd : o.guard = none) (s x : Operand) (t : TypeId) {v : Value}
    (ho : o.op = .call { callee := .builtin .append, args := #[s, x], argTypes := #[t, t] }) (hr : (Builtin.append_ #[t, t] o.type #[a.eval s, a.eval x]).run P w = .ok v w1)
    (h : wpList P ops Q rest (a.put o.dst v) w1) : wpList P ops Q (o :: rest) a w := by
  refine wpList_plain hgd fun K hK => ?_
  unfold Oper.wp execOp
  simp only [ho, resolve, invoke, builtin, Sem.run_bind, Sem.run_pure, Result.andThen_ok, List.map_toArray, List.map_cons, List.map_nil, hr]
  exact hK _ _ h
theorem add_plain (b o j : Nat) : (⟨b, o, none⟩ : Addr).add j = ⟨b, o + j, none⟩ := by unfold Addr.add; split <;> simp_all
/-- One byte more. -/
theorem append_byte (n0 : Nat) (W : World) (v : Value) (xs : List Int) (g cap : Nat) (h : Bytes n0 W v xs g cap) (hn : n0 ≤ W.heap.size) (h3 : xs.length ≤ 3) (b : Nat) (c : Int) (hb : W.cell? ⟨b, 0, none⟩ = some (.int .u8 c)) (ty : TypeId) :
    ∃ v' W' g' cap', (Builtin.append_ #[37, 37] ty #[v, .slice (some ⟨b, 0, none⟩) 1 1]).run Tryd.prog W = .ok v' W' ∧ Bytes n0 W' v' (xs ++ [c]) g' cap' ∧ Acts (fun k => k = g) W W' := by
  obtain ⟨i0, hi, hz0, hz1, hz2⟩ := info_parts elem5
  obtain rfl := h.val
  have hnews : ∀ j u, [Value.int .u8 c][j]? = some u → W.cell? ((⟨b, 0, none⟩ : Addr).add j) = some u := fun j u hj => by
    match j, hj with
    | 0, hj => simp at hj; subst hj; rw [add_plain]; exact hb
    | j + 1, hj => simp at hj
  by_cases hr : xs.length + 1 ≤ cap
  · have hm := h.more xs.length (by omega)
    have hx := run_append_room_cells (P := Tryd.prog) (w := W) 37 ty 5 i0 Tryd.underlying37 hi g 0 xs.length cap ⟨b, 0, none⟩ 1 1 [.int .u8 c] (by rw [hz1]; rfl) hnews (by simp [Value.oneCell']) hr
      (fun j hj => by obtain rfl : j = 0 := by simpa using hj
                      rw [hz1, show 0 + xs.length * 1 + 0 = xs.length by omega]; exact hm.1)
      (fun j hj => by obtain rfl : j = 0 := by simpa using hj
                      rw [hz1, show 0 + xs.length * 1 + 0 = xs.length by omega]; exact hm.2)
    rw [hz1, show 0 + xs.length * 1 = xs.length by omega] at hx
    have e1 : W.setCells g xs.length [Value.int .u8 c] = W.setCell ⟨g, xs.length, none⟩ (.int .u8 c) := rfl
    rw [e1] at hx
    have hA : Acts (fun k => k = g) W (W.setCell ⟨g, xs.length, none⟩ (.int .u8 c)) := Acts.setCell _ _ _ _ rfl
    refine ⟨_, _, g, cap, hx, ⟨by simp, h.new, by simpa using hr, ?_⟩, hA⟩
    obtain ⟨cur, t, fz, h1, h2, h4, h5⟩ := h.row
    refine ⟨cur.setIfInBounds xs.length (.int .u8 c), t, fz, by simp [World.setCell, Array.getElem?_modify, h1], by simpa using h2, fun i x hi => ?_, h5⟩
    rw [Array.getElem?_setIfInBounds]
    rcases Nat.lt_trichotomy i xs.length with hl | hl | hl
    · rw [if_neg (by omega)]; rw [List.getElem?_append_left hl] at hi; exact h4 i x hi
    · subst hl
      simp at hi
      subst hi
      rw [if_pos rfl, if_pos (by omega)]
    · rw [List.getElem?_eq_none (by simp; omega)] at hi; cases hi
  · have hr' : cap < xs.length + 1 := by omega
    obtain ⟨v', w', h1, h2, h3'⟩ := run_append_arg_grows (P := Tryd.prog) (w := W) 37 ty 5 i0 (.int .u8 0) 1 1 Tryd.underlying37 hi hz0 hz1 hz2 rfl (by decide) ⟨g, 0, none⟩ xs.length cap (xs.map (Value.int .u8)) (by simp)
      (fun j u hj => by
        rw [List.getElem?_map] at hj
        cases hx : xs[j]? with
        | none => rw [hx] at hj; cases hj
        | some x => rw [hx] at hj; cases hj; rw [add_plain, Nat.zero_add]; exact h.cell j x hx) ⟨b, 0, none⟩ 1 1 [.int .u8 c] rfl hnews hr' (by simp [maxLen]; omega) (by omega)
    rcases h2.2 with ⟨_, h0⟩ | ⟨g', cap', cur, rfl, k1, k2, k3, k4, k5, k6⟩
    · omega
    refine ⟨_, _, g', cap', h1, ⟨by simp, Nat.le_trans hn k1, by simpa using k3, cur, 5, (0, 0), k2, by omega, fun i x hi => ?_, fun i _ => by omega⟩, (Acts.grown (C := fun k => k = g) h3' (fun r hr => by cases hr))⟩
    have hil : i < xs.length + 1 := by
      have := (List.getElem?_eq_some_iff.1 hi).1; simpa using this
    rw [← Array.getElem?_toList, ← List.getElem?_take_of_lt (i := i) (j := (xs.length + 1) * 1) (by omega), k6]
    have e2 : xs.map (Value.int .u8) ++ [Value.int .u8 c] = (xs ++ [c]).map (Value.int .u8) := by simp
    rw [e2, List.getElem?_map, hi]; rfl
theorem equalIn_nil (d g n c : Nat) (W : World) : (Op.equalIn (d + 1) 37 (.slice (some ⟨g, 0, none⟩) n c) (.slice none 0 0)).run Tryd.prog W = .ok false W := by
  rw [Op.equalIn]
  simp [run_underlying Tryd.underlying37]
theorem eql_nil (g n c : Nat) (W : World) : (binOp BinOp.eql 37 (.slice (some ⟨g, 0, none⟩) n c) (.slice none 0 0)).run Tryd.prog W = .ok (.bool false) W := by
  have h := equalIn_nil 9999 g n c W
  simp only [binOp, Op.equal]
  rw [show Op.maxDepth = 9999 + 1 from rfl]
  simp only [Sem.run_bind, h, Result.andThen_ok, Sem.run_pure]
set_option maxRecDepth 100000 in
set_option maxHeartbeats 2000000 in
theorem clone_calls (g : Nat) (c : Int) (W : World) (hc : W.cell? ⟨g, 0, none⟩ = some (.int .u8 c)) :
    Calls Tryd.prog 43 #[.slice (some ⟨g, 0, none⟩) 1 1] W (fun e w' => ∃ v' g' cap', e = .returned v' ∧ Bytes W.heap.size w' v' [c] g' cap' ∧ Acts (fun _ => False) W w') := by
  have hgl : g < W.heap.size := by
    rcases Nat.lt_or_ge g W.heap.size with h | h
    · exact h
    · simp [World.cell?, Array.getElem?_eq_none h] at hc
  have he := fun w' => eql_nil g 1 1 w'
  obtain ⟨i0, hi, hz0, hz1, hz2⟩ := info_parts elem5
  have hA0 : Acts (fun _ => False) W (W.alloc (.cells #[] 5)) := Acts.alloc _ _ _
  have hc' : (W.alloc (.cells #[] 5)).cell? ⟨g, 0, none⟩ = some (.int .u8 c) := (cell_same (hA0.same g hgl (fun h => h))).trans hc
  obtain ⟨v', w1, h1, h2, h3⟩ := run_append_arg_grows (P := Tryd.prog) (w := W.alloc (.cells #[] 5)) 37 37 5 i0 (.int .u8 0) 1 1 Tryd.underlying37 hi hz0 hz1 hz2 rfl (by decide) ⟨W.heap.size, 0, none⟩ 0 0 [] (by simp)
      (fun j u hj => by simp at hj) ⟨g, 0, none⟩ 1 1 [.int .u8 c] rfl (fun j u hj => by
        match j, hj with
        | 0, hj => simp at hj; subst hj; rw [add_plain]; exact hc'
        | j + 1, hj => simp at hj) (by omega) (by simp [maxLen]) (by omega)
  have hF : ∃ g' cap', Bytes W.heap.size w1 v' [c] g' cap' := by
    rcases h2.2 with ⟨_, h0⟩ | ⟨g', cap', cur, rfl, k1, k2, k3, k4, k5, k6⟩
    · omega
    refine ⟨g', cap', ⟨by simp, Nat.le_trans hA0.size k1, by simpa using k3, cur, 5, (0, 0), k2, by omega, fun i x hi => ?_, fun i _ => by omega⟩⟩
    have hil : i < 1 := by
      have := (List.getElem?_eq_some_iff.1 hi).1; simpa using this
    rw [← Array.getElem?_toList, ← List.getElem?_take_of_lt (i := i) (j := (0 + 1) * 1) (by omega), k6]
    obtain rfl : i = 0 := by omega
    simp at hi
    subst hi
    rfl
  have hA : Acts (fun _ => False) W w1 := hA0.trans (Acts.grown (C := fun _ => False) h3 (fun r hr => by cases hr)) (fun _ h => .inl h)
  obtain ⟨g', cap', hB⟩ := hF
  clear h2 h3 hA0 hc'
  go_enter Tryd.func43, Tryd.ntmps43
  go_wp2_with (at_builtin; refine wpList_run rfl _ _ 37 rfl h1 ?_)
  go_ret
  exact ⟨_, _, _, rfl, hB, hA⟩
/-- What a Stripper holds. -/
structure SS where
  held : Int
  over : Bool
  had : Bool
  closed : Bool
def SS.cells (s : SS) : Array Value := #[.int .i64 s.held, .bool s.over, .bool s.had, .bool s.closed]
def SAt (S : Nat) (s : SS) (W : World) : Prop := W.heap[S]? = some (.cells s.cells 98 (0, 0))
theorem SAt.lt {S : Nat} {s : SS} {W : World} (h : SAt S s W) : S < W.heap.size := (Array.getElem?_eq_some_iff.1 h).1
theorem SAt.set {S : Nat} {s s' : SS} {W : World} (h : SAt S s W) (j : Nat) (v : Value) (hc : s.cells.setIfInBounds j v = s'.cells) : SAt S s' (W.setCell ⟨S, j, none⟩ v) := by
  unfold SAt
  rw [blk_set h, hc]
theorem SAt.keep {S : Nat} {s : SS} {W W' : World} (h : SAt S s W) (hk : W'.heap[S]? = W.heap[S]?) : SAt S s W' := hk.trans h
def bomMark : List Int := [239, 187, 191]
def feedS (s : SS) (c : Int) : SS × List Int :=
  if s.closed = true then (s, []) else if s.over = true then (s, [c]) else
  if c = bomMark.getD s.held.toNat 0 then (if s.held = 2 then { s with held := 0, over := true, had := true } else { s with held := s.held + 1 }, [])
  else ({ s with held := 0, over := true }, bomMark.take s.held.toNat ++ [c])
def closeS (s : SS) : SS × List Int := ({ s with held := 0, over := true, closed := true }, bomMark.take s.held.toNat)
theorem feedS_held (s : SS) (c : Int) (h0 : 0 ≤ s.held) (h2 : s.held ≤ 2) : 0 ≤ (feedS s c).1.held ∧ (feedS s c).1.held ≤ 2 := by
  unfold feedS
  split
  · exact ⟨h0, h2⟩
  split
  · exact ⟨h0, h2⟩
  split
  · split <;> (simp only; omega)
  · exact ⟨Int.le_refl _, by show (0 : Int) ≤ 2; decide⟩
theorem mark_bytes (k : Nat) (hk : k ≤ 2) : ((⟨#[239, 187, 191]⟩ : ByteArray).extract 0 k).data.toList.map (fun b => (b.toNat : Int)) = bomMark.take k := by
  rcases k with _ | _ | _ | k <;> first | decide | omega
theorem mark_size (k : Nat) (hk : k ≤ 2) : ((⟨#[239, 187, 191]⟩ : ByteArray).extract 0 k).size = k := by
  rcases k with _ | _ | _ | k <;> first | decide | omega
theorem acts_bytesWorld (W : World) (e : TypeId) (s : ByteArray) : Acts (fun _ => False) W (Lib.bytesWorld W e s) :=
  ⟨rfl, rfl, rfl, by rw [Lib.bytesWorld_size]; omega, fun k hk _ => Lib.bytesWorld_at_old W e s k hk⟩
theorem bytes_conv (W : World) (s : ByteArray) (xs : List Int) (h : s.data.toList.map (fun b => (b.toNat : Int)) = xs) :
    Bytes W.heap.size (Lib.bytesWorld W 5 s) (.slice (some ⟨W.heap.size, 0, none⟩) s.size (grownCap W s.size 0 5)) xs W.heap.size (grownCap W s.size 0 5) := by
  have hl : xs.length = s.size := by rw [← h, List.length_map, Array.length_toList]; rfl
  have hge : s.size ≤ grownCap W s.size 0 5 := grownCap_ge W s.size 0 5
  have hsz : (Lib.bytesCells W 5 s).size = grownCap W s.size 0 5 := by
    simp only [Lib.bytesCells, Array.size_append, Array.size_map, Array.size_replicate]
    have : s.data.size = s.size := rfl
    omega
  refine ⟨by rw [hl], Nat.le_refl _, by rw [hl]; exact hge, _, _, _, Lib.bytesWorld_at_new W 5 s, by omega, fun i x hi => ?_, fun i hi => by omega⟩
  have hi2 : i < s.data.toList.length := by
    have := (List.getElem?_eq_some_iff.1 hi).1
    rw [← h] at this; simpa using this
  have hi3 : i < s.data.size := by simpa using hi2
  rw [← h, List.getElem?_map] at hi
  simp only [Lib.bytesCells]
  rw [Array.getElem?_append_left (by simpa using hi3)]
  simp at hi ⊢
  obtain ⟨b, hb, rfl⟩ := hi
  exact ⟨b, hb, rfl⟩
set_option maxRecDepth 100000 in
set_option maxHeartbeats 2000000 in
theorem close_calls (S : Nat) (s : SS) (W : World) (h : SAt S s W) (h0 : 0 ≤ s.held) (h2 : s.held ≤ 2) :
    Calls Tryd.prog 27 #[.pointer (some ⟨S, 0, none⟩)] W (fun e w' => ∃ v' g' cap', e = .returned v' ∧ Bytes W.heap.size w' v' (closeS s).2 g' cap' ∧ SAt S (closeS s).1 w' ∧ Acts (fun k => k = S) W w') := by
  have c0 := (blk_cell h 0).trans rfl
  simp only [SS.cells] at c0
  have hcut : ∀ w', (Instr.slice 9 (.string ⟨#[239, 187, 191]⟩) none (some (.int .i64 s.held)) none).run Tryd.prog w' = .ok (.string ((⟨#[239, 187, 191]⟩ : ByteArray).extract 0 s.held.toNat)) w' := fun w' => run_slice_string_h (P := Tryd.prog) (w := w') (s := ⟨#[239, 187, 191]⟩) (t := 9) (ht := by kernel_rfl) (kh := .i64) (h := s.held) h0 (by rw [show (⟨#[239, 187, 191]⟩ : ByteArray).size = 3 from rfl]; omega)
  have hk : s.held.toNat ≤ 2 := by omega
  obtain ⟨m, hm⟩ : ∃ m, (⟨#[239, 187, 191]⟩ : ByteArray).extract 0 s.held.toNat = m := ⟨_, rfl⟩
  rw [hm] at hcut
  have hB := bytes_conv W m (bomMark.take s.held.toNat) (by rw [← hm]; exact mark_bytes _ hk)
  have hA := acts_bytesWorld W 5 m
  have hconv := Lib.run_convert_string_bytes (P := Tryd.prog) W 9 37 5 m (u := .string) (by kernel_rfl) Tryd.underlying37 (by kernel_rfl)
  obtain ⟨v, hv⟩ : ∃ v, Value.slice (some ⟨W.heap.size, 0, none⟩) m.size (grownCap W m.size 0 5) = v := ⟨_, rfl⟩
  obtain ⟨w1, hw⟩ : ∃ w1, Lib.bytesWorld W 5 m = w1 := ⟨_, rfl⟩
  rw [hv, hw] at hB hconv
  rw [hw] at hA
  clear hv hw hm
  have h1 : SAt S s w1 := h.keep (hA.same S h.lt (fun h => h))
  have z0 := blk_frozen h1 0
  have z1 := blk_frozen h1 1
  have z3 := blk_frozen h1 3
  have d0 := (blk_cell h1 0).trans rfl
  have d1 := (blk_cell h1 1).trans rfl
  have d3 := (blk_cell h1 3).trans rfl
  simp only [SS.cells] at d0 d1 d3
  go_enter Tryd.func27, Tryd.ntmps27
  go_wp2
  go_ret
  have k1 := h1.set (s' := { s with held := 0 }) 0 (.int .i64 0) rfl
  have k2 := k1.set (s' := { s with held := 0, over := true }) 1 (.bool true) rfl
  have k3 := k2.set (s' := (closeS s).1) 3 (.bool true) rfl
  have hA3 : Acts (fun k => k = S) w1 _ := ((acts_set (B := S) w1 0 (.int .i64 0)).trans (acts_set (B := S) _ 1 (.bool true)) (fun _ h => .inl h)).trans (acts_set (B := S) _ 3 (.bool true)) (fun _ h => .inl h)
  exact ⟨_, _, _, rfl, hB.keep (hA3.same _ hB.lt (fun e => by have := h.lt; omega)), k3, (hA.weaken (fun _ _ h => h.elim)).trans hA3 (fun _ h => .inl h)⟩
/-- Bytes that are handed on. -/
def Handed (n0 : Nat) (W : World) (v : Value) (xs : List Int) : Prop := (xs = [] ∧ v = .slice none 0 0) ∨ ∃ g cap, Bytes n0 W v xs g cap
def FdTo (S : Nat) (s : SS) (c : Int) (W : World) (e : Ending) (w' : World) : Prop :=
  ∃ v', e = .returned v' ∧ Handed W.heap.size w' v' (feedS s c).2 ∧ SAt S (feedS s c).1 w' ∧ Acts (fun k => k = S) W w'
set_option maxRecDepth 100000 in
set_option maxHeartbeats 4000000 in
theorem feed_calls (S : Nat) (s : SS) (W : World) (h : SAt S s W) (h0 : 0 ≤ s.held) (h2 : s.held ≤ 2) (g : Nat) (c : Int) (hc : W.cell? ⟨g, 0, none⟩ = some (.int .u8 c)) (hne : g ≠ S) :
    Calls Tryd.prog 29 #[.pointer (some ⟨S, 0, none⟩), .slice (some ⟨g, 0, none⟩) 1 1] W (FdTo S s c W) := by
  obtain ⟨held, over, had, closed⟩ := s
  have c0 := (blk_cell h 0).trans rfl
  have c1 := (blk_cell h 1).trans rfl
  have c2 := (blk_cell h 2).trans rfl
  have c3 := (blk_cell h 3).trans rfl
  simp only [SS.cells] at c0 c1 c2 c3 h0 h2
  cases closed with
  | true =>
    go_enter Tryd.func29, Tryd.ntmps29
    go_wp2
    go_ret
    exact ⟨_, rfl, .inl ⟨rfl, rfl⟩, h, Acts.refl _ _⟩
  | false =>
    cases over with
    | true =>
      have hcl := clone_calls g c W hc
      go_enter Tryd.func29, Tryd.ntmps29
      go_wp2
      go_loopw [14] (fun y wl => y = .int .i64 0 ∧ wl = W) (fun y _ => 1 - (intOf y).toNat)
      case atStart => exact ⟨rfl, rfl⟩
      case round =>
        obtain ⟨rfl, rfl⟩ := hrel
        go_wp2_with (go_at_call 43; (with_reducible refine hcl.mono ?_); rintro e w1 ⟨v', g', cap', rfl, hB, hA⟩)
        go_ret
        exact ⟨_, rfl, .inr ⟨_, _, hB⟩, h.keep (hA.same S h.lt (fun h => h)), hA.weaken (fun _ _ h => h.elim)⟩
    | false =>
      have hcut : ∀ w', (Instr.slice 9 (.string ⟨#[239, 187, 191]⟩) none (some (.int .i64 held)) none).run Tryd.prog w' = .ok (.string ((⟨#[239, 187, 191]⟩ : ByteArray).extract 0 held.toNat)) w' := fun w' => run_slice_string_h (P := Tryd.prog) (w := w') (s := ⟨#[239, 187, 191]⟩) (t := 9) (ht := by kernel_rfl) (kh := .i64) (h := held) h0 (by rw [show (⟨#[239, 187, 191]⟩ : ByteArray).size = 3 from rfl]; omega)
      have hidx : ∀ w', (Instr.index 9 (.string ⟨#[239, 187, 191]⟩) (.int .i64 held)).run Tryd.prog w' = .ok (.int .u8 (bomMark.getD held.toNat 0)) w' := fun w' => by
        rw [run_index_string (P := Tryd.prog) w' 9 _ .i64 held (by kernel_rfl)]
        have : held = 0 ∨ held = 1 ∨ held = 2 := by omega
        rcases this with rfl | rfl | rfl <;> rfl
      have hk : held.toNat ≤ 2 := by omega
      by_cases hq : c = bomMark.getD held.toNat 0
      · have e3 : held = 0 ∨ held = 1 ∨ held = 2 := by omega
        rw [← hq] at hidx
        have e : feedS ⟨held, false, had, false⟩ c = (if held = 2 then ⟨0, true, true, false⟩ else ⟨held + 1, false, had, false⟩, []) := by simp only [feedS]; rw [if_neg (by simp), if_neg (by simp), if_pos hq]
        unfold FdTo
        rw [e]
        clear e hq
        have z0 := blk_frozen h 0
        have z1 := blk_frozen h 1
        have z2 := blk_frozen h 2
        have hS : Hid (SAt S _ W) := h
        clear h
        rcases e3 with rfl | rfl | rfl
        all_goals go_enter Tryd.func29, Tryd.ntmps29
        all_goals go_wp2
        · go_loopw [14] (fun y wl => (y = .int .i64 0 ∧ wl = W) ∨ (y = .int .i64 1 ∧ Hid (SAt S ⟨1, false, had, false⟩ wl) ∧ Hid (Acts (fun k => k = S) W wl))) (fun y _ => 1 - (intOf y).toNat)
          case atStart => exact .inl ⟨rfl, rfl⟩
          case round =>
            rcases hrel with ⟨rfl, rfl⟩ | ⟨rfl, HS, HA⟩
            · go_wp2
              go_roundw
              case rel => exact .inr ⟨by go_num, hS.out.set (s' := ⟨1, false, had, false⟩) 0 (.int .i64 1) rfl, acts_set _ _ _⟩
              case measure => simp [intOf]
            · go_wp2
              go_ret
              exact ⟨_, rfl, .inl ⟨rfl, rfl⟩, HS.out, HA.out⟩
        · go_loopw [14] (fun y wl => (y = .int .i64 0 ∧ wl = W) ∨ (y = .int .i64 1 ∧ Hid (SAt S ⟨2, false, had, false⟩ wl) ∧ Hid (Acts (fun k => k = S) W wl))) (fun y _ => 1 - (intOf y).toNat)
          case atStart => exact .inl ⟨rfl, rfl⟩
          case round =>
            rcases hrel with ⟨rfl, rfl⟩ | ⟨rfl, HS, HA⟩
            · go_wp2
              go_roundw
              case rel => exact .inr ⟨by go_num, hS.out.set (s' := ⟨2, false, had, false⟩) 0 (.int .i64 2) rfl, acts_set _ _ _⟩
              case measure => simp [intOf]
            · go_wp2
              go_ret
              exact ⟨_, rfl, .inl ⟨rfl, rfl⟩, HS.out, HA.out⟩
        · go_loopw [14] (fun y wl => (y = .int .i64 0 ∧ wl = W) ∨ (y = .int .i64 1 ∧ Hid (SAt S ⟨0, true, true, false⟩ wl) ∧ Hid (Acts (fun k => k = S) W wl))) (fun y _ => 1 - (intOf y).toNat)
          case atStart => exact .inl ⟨rfl, rfl⟩
          case round =>
            rcases hrel with ⟨rfl, rfl⟩ | ⟨rfl, HS, HA⟩
            · go_wp2
              go_roundw
              case rel =>
                have k1 := hS.out.set (s' := ⟨3, false, had, false⟩) 0 (.int .i64 3) rfl
                have k2 := k1.set (s' := ⟨0, false, had, false⟩) 0 (.int .i64 0) rfl
                have k3 := k2.set (s' := ⟨0, true, had, false⟩) 1 (.bool true) rfl
                have k4 := k3.set (s' := ⟨0, true, true, false⟩) 2 (.bool true) rfl
                exact .inr ⟨by go_num, k4, (((acts_set (B := S) _ 0 _).trans (acts_set (B := S) _ 0 _) (fun _ h => .inl h)).trans (acts_set (B := S) _ 1 _) (fun _ h => .inl h)).trans (acts_set (B := S) _ 2 _) (fun _ h => .inl h)⟩
              case measure => simp [intOf]
            · go_wp2
              go_ret
              exact ⟨_, rfl, .inl ⟨rfl, rfl⟩, HS.out, HA.out⟩
      · obtain ⟨m, hm⟩ : ∃ m, (⟨#[239, 187, 191]⟩ : ByteArray).extract 0 held.toNat = m := ⟨_, rfl⟩
        rw [hm] at hcut
        have hB := bytes_conv W.drew m (bomMark.take held.toNat) (by rw [← hm]; exact mark_bytes _ hk)
        have hA : Acts (fun _ => False) W (Lib.bytesWorld W.drew 5 m) := (Acts.drewN (fun _ => False) W 1).trans (acts_bytesWorld W.drew 5 m) (fun _ h => .inl h)
        have hconv := Lib.run_convert_string_bytes (P := Tryd.prog) W.drew 9 37 5 m (u := .string) (by kernel_rfl) Tryd.underlying37 (by kernel_rfl)
        obtain ⟨v1, hv⟩ : ∃ v, Value.slice (some ⟨W.drew.heap.size, 0, none⟩) m.size (grownCap W.drew m.size 0 5) = v := ⟨_, rfl⟩
        obtain ⟨w1, hw⟩ : ∃ w1, Lib.bytesWorld W.drew 5 m = w1 := ⟨_, rfl⟩
        rw [hv, hw] at hB hconv
        rw [hw] at hA
        clear hv hw hm
        have hgl : g < W.heap.size := by
          rcases Nat.lt_or_ge g W.heap.size with h | h
          · exact h
          · simp [World.cell?, Array.getElem?_eq_none h] at hc
        have h1 : SAt S ⟨held, false, had, false⟩ w1 := h.keep (hA.same S h.lt (fun h => h))
        have hc1 : w1.cell? ⟨g, 0, none⟩ = some (.int .u8 c) := (cell_same (hA.same g hgl (fun h => h))).trans hc
        obtain ⟨v2, w2, g2, cap2, hr, hB2, hA2⟩ := append_byte W.heap.size w1 v1 _ _ _ hB hA.size (by simp [bomMark]; omega) g c hc1 37
        have hS2 : S ≠ W.drew.heap.size := Nat.ne_of_lt h.lt
        have h2x : SAt S ⟨held, false, had, false⟩ w2 := h1.keep (hA2.same S h1.lt hS2)
        have hA3 : Acts (fun k => k = S) W w2 := (hA.weaken (fun _ _ h => h.elim)).trans hA2 (fun j e => .inr (by subst e; exact Nat.le_refl W.heap.size))
        have e : feedS ⟨held, false, had, false⟩ c = (⟨0, true, had, false⟩, bomMark.take held.toNat ++ [c]) := by simp only [feedS]; rw [if_neg (by simp), if_neg (by simp), if_neg hq]
        obtain ⟨q, hq0⟩ : ∃ q, bomMark.getD held.toNat 0 = q := ⟨_, rfl⟩
        rw [hq0] at hq hidx
        clear hq0
        unfold FdTo
        rw [e]
        clear e hB hA hA2 hc1 hgl
        have z0 := blk_frozen h2x 0
        have z1 := blk_frozen h2x 1
        have d0 := (blk_cell h2x 0).trans rfl
        have d1 := (blk_cell h2x 1).trans rfl
        simp only [SS.cells] at d0 d1
        go_enter Tryd.func29, Tryd.ntmps29
        go_wp2
        go_loopw [14] (fun y wl => y = .int .i64 0 ∧ wl = W) (fun y _ => 1 - (intOf y).toNat)
        case atStart => exact ⟨rfl, rfl⟩
        case round =>
          obtain ⟨rfl, rfl⟩ := hrel
          go_wp2
          refine start_ (n := 11) (S := fun w' => SAt S ⟨held, false, had, false⟩ w') (ds := []) #[false, false, false, false, false, false, false, false, false, false, false] (by kernel_rfl) rfl rfl (h) (fun hHeld => ?_)
          refine pure_ (i := 0) (N := some 36) (v := ?_) (a' := ?_) #[true, false, false, false, false, false, false, false, false, false, false] rfl rfl (by kernel_rfl) (fun _ _ _ h => h) (Or.inl ⟨by rfl, ?_⟩) ?_ ?_
          rotate_left
          · intro w'
            go_simp
            with_reducible rfl
          rotate_left
          · simp only [Act.put, List.setIfInBounds_toArray, List.set_cons_zero, List.set_cons_succ]
            rfl
          refine pure_ (i := 1) (N := some 37) (v := ?_) (a' := ?_) #[true, true, false, false, false, false, false, false, false, false, false] rfl rfl (by kernel_rfl) (fun _ _ _ h => h) (Or.inl ⟨by rfl, ?_⟩) ?_ ?_
          rotate_left
          · intro w'
            go_simp
            with_reducible rfl
          rotate_left
          · simp only [Act.put, List.setIfInBounds_toArray, List.set_cons_zero, List.set_cons_succ]
            rfl
          refine pure_ (i := 2) (N := some 38) (v := ?_) (a' := ?_) #[true, true, true, false, false, false, false, false, false, false, false] rfl rfl (by kernel_rfl) (fun _ _ _ h => h) (Or.inl ⟨by rfl, ?_⟩) ?_ ?_
          rotate_left
          · intro w'
            go_simp
            with_reducible rfl
          rotate_left
          · simp only [Act.put, List.setIfInBounds_toArray, List.set_cons_zero, List.set_cons_succ]
            rfl
          refine take_ (i := 3) (N := some 39) (v := ?_) (a' := ?_) #[true, true, true, true, false, false, false, false, false, false, false] rfl rfl (by kernel_rfl) (fun _ _ _ h => h) (Or.inl ⟨by rfl, ?_⟩) hHeld ?_ ?_
          rotate_left
          · intro w' s0
            have c := (blk_cell s0 0).trans rfl
            simp only [SS.cells] at c
            go_simp
            with_reducible rfl
          rotate_left
          · simp only [Act.put, List.setIfInBounds_toArray, List.set_cons_zero, List.set_cons_succ]
            rfl
          refine pure_ (i := 4) (N := some 40) (v := ?_) (a' := ?_) #[true, true, true, true, true, false, false, false, false, false, false] rfl rfl (by kernel_rfl) (fun _ _ _ h => h) (Or.inl ⟨by rfl, ?_⟩) ?_ ?_
          rotate_left
          · intro w'
            go_simp
            with_reducible rfl
          rotate_left
          · simp only [Act.put, List.setIfInBounds_toArray, List.set_cons_zero, List.set_cons_succ]
            rfl
          refine pure_ (i := 6) (N := some 42) (v := ?_) (a' := ?_) #[true, true, true, true, true, false, true, false, false, false, false] rfl rfl (by kernel_rfl) (fun _ _ _ h => h) (Or.inl ⟨by rfl, ?_⟩) ?_ ?_
          rotate_left
          · intro w'
            go_simp
            with_reducible rfl
          rotate_left
          · simp only [Act.put, List.setIfInBounds_toArray, List.set_cons_zero, List.set_cons_succ]
            rfl
          refine pure_ (i := 7) (N := some 43) (v := ?_) (a' := ?_) #[true, true, true, true, true, false, true, true, false, false, false] rfl rfl (by kernel_rfl) (fun _ _ _ h => h) (Or.inl ⟨by rfl, ?_⟩) ?_ ?_
          rotate_left
          · intro w'
            go_simp
            with_reducible rfl
          rotate_left
          · simp only [Act.put, List.setIfInBounds_toArray, List.set_cons_zero, List.set_cons_succ]
            rfl
          refine pure_ (i := 8) (N := some 44) (v := ?_) (a' := ?_) #[true, true, true, true, true, false, true, true, true, false, false] rfl rfl (by kernel_rfl) (fun _ _ _ h => h) (Or.inl ⟨by rfl, ?_⟩) ?_ ?_
          rotate_left
          · intro w'
            go_simp
            with_reducible rfl
          rotate_left
          · simp only [Act.put, List.setIfInBounds_toArray, List.set_cons_zero, List.set_cons_succ]
            rfl
          refine one_ (i := 5) (N := some 41) #[true, true, true, true, true, true, true, true, true, false, false] rfl rfl (by kernel_rfl) (by decide) (fun K hK => ?_)
          refine value_ (w1 := w1) (v := v1) (by rfl) rfl ?_ ?_
          · go_simp
          refine hK.out _ _ (h1) (fun hHeld => ?_)
          clear hK K
          refine norm_ (a' := ?_) ?_ ?_
          rotate_left
          · show Act.put _ (some 41) _ = _
            simp only [Act.put, List.setIfInBounds_toArray, List.set_cons_zero, List.set_cons_succ]
            rfl
          refine one_ (i := 9) (N := some 45) #[true, true, true, true, true, true, true, true, true, true, false] rfl rfl (by kernel_rfl) (by decide) (fun K hK => ?_)
          refine value_ (w1 := w2) (v := v2) (by rfl) rfl ?_ ?_
          · exact run_op_append rfl hr
          refine hK.out _ _ (h2x) (fun hHeld => ?_)
          clear hK K
          refine norm_ (a' := ?_) ?_ ?_
          rotate_left
          · show Act.put _ (some 45) _ = _
            simp only [Act.put, List.setIfInBounds_toArray, List.set_cons_zero, List.set_cons_succ]
            rfl
          refine pure_ (i := 10) (N := some 7) (v := ?_) (a' := ?_) #[true, true, true, true, true, true, true, true, true, true, true] rfl rfl (by kernel_rfl) (fun _ _ _ h => h) (Or.inl ⟨by rfl, ?_⟩) ?_ ?_
          rotate_left
          · intro w'
            go_simp
            with_reducible rfl
          rotate_left
          · simp only [Act.put, List.setIfInBounds_toArray, List.set_cons_zero, List.set_cons_succ]
            rfl
          refine done_ (by kernel_rfl) ?_
          clear hHeld
          go_wp2
          go_ret
          have k1 := h2x.set (s' := ⟨0, false, had, false⟩) 0 (.int .i64 0) rfl
          have k2 := k1.set (s' := ⟨0, true, had, false⟩) 1 (.bool true) rfl
          have hA5 : Acts (fun k => k = S) w2 _ := (acts_set (B := S) w2 0 (.int .i64 0)).trans (acts_set (B := S) _ 1 (.bool true)) (fun _ h => .inl h)
          exact ⟨_, rfl, .inr ⟨_, _, hB2.keep (hA5.same _ hB2.lt (fun e => by have := hB2.new; have := h.lt; omega))⟩, k2, hA3.trans hA5 (fun _ h => .inl h)⟩
end Go.Proofs.YtmignbhpofmgeaaDoor.Top
