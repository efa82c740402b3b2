/- A part of the reader. -/
import Derived.Test.YtmignbhpofmgeaaDoorProg
import Derived.Below
import Derived.Deep.Draws
import Derived.Deep.AppendLies
import Derived.Maps.AppendAt
import Derived.OwnWalk
import Derived.Laws.BytesArg
import Derived.Laws.MakeOwn
import Derived.Laws.OwnMore
import Derived.Deep.OwnRows
import Derived.Tactics
import Derived.Lib.ConvBytes
import Derived.Laws.Slices
import Derived.WalkKit
import Derived.KernelRfl
import Derived.RowKit3
import Derived.Deep.LoopGhost
import Derived.Deep.QuietTactic
import Derived.BigQuiet
import Derived.WideLaws
import Derived.Deep.DeepCutAuto
import Derived.Deep.CutBlock
import Derived.Deep.RegionHeld3
import Derived.Laws.Rows
import Derived.Lib.AppendStr
import Derived.ArgAppend
import Derived.Laws.IdiomCopy
import Derived.OrdersHeld
import Derived.Laws.BitsLemmas
import Derived.RowKit
import Derived.Test.YtmignbhpofmgeaaDoorWWords
import Derived.Test.YtmignbhpofmgeaaDoorWLast
import Derived.Test.YtmignbhpofmgeaaDoorWTab
import Derived.Test.YtmignbhpofmgeaaDoorWFour
import Derived.Test.YtmignbhpofmgeaaDoorWQPut
import Derived.Test.YtmignbhpofmgeaaDoorWApart
import Derived.Test.YtmignbhpofmgeaaDoorWArr
import Derived.Test.YtmignbhpofmgeaaDoorWZeros
import Derived.Test.YtmignbhpofmgeaaDoorWFoot
import Derived.Test.YtmignbhpofmgeaaDoorWKept
import Derived.Test.YtmignbhpofmgeaaDoorWShare
import Derived.Test.YtmignbhpofmgeaaDoorWN
import Derived.Test.YtmignbhpofmgeaaDoorWFootNe
import Derived.Test.YtmignbhpofmgeaaDoorWAt
import Derived.Test.YtmignbhpofmgeaaDoorWEqStruct
import Derived.Test.YtmignbhpofmgeaaDoorWRepsOne
import Derived.Test.YtmignbhpofmgeaaDoorWInv
import Derived.Test.YtmignbhpofmgeaaDoorWInvWords
import Derived.Test.YtmignbhpofmgeaaDoorWGuard
import Derived.Test.YtmignbhpofmgeaaDoorWNEv
import Derived.Test.YtmignbhpofmgeaaDoorWMore
import Derived.Test.YtmignbhpofmgeaaDoorIter
import Derived.RangeFuncBox
import Derived.Lib.ConvBytes
import Derived.Test.YtmignbhpofmgeaaDoorMa
namespace Go.Proofs.YtmignbhpofmgeaaDoor.Top
open Go.RowKit Go.Proofs.YtmignbhpofmgeaaDoorW.PrintWords Go.Proofs.YtmignbhpofmgeaaDoorW.PrintLast Go.Proofs.YtmignbhpofmgeaaDoorW.PrintMore Go.Proofs.YtmignbhpofmgeaaDoor.Iter
set_option linter.unusedVariables false
set_option linter.unusedSimpArgs false

/-- The spans of bytes that go on, by states. -/
def utfTab : List (List (Int × Int × Int)) := [[(0, 127, 0), (194, 223, 1), (224, 224, 4), (225, 236, 2), (237, 237, 5), (238, 239, 2), (240, 240, 6), (241, 243, 3), (244, 244, 7)], [(128, 191, 0)], [(128, 191, 1)], [(128, 191, 2)], [(160, 191, 1)], [(128, 159, 1)], [(144, 191, 2)], [(128, 143, 2)]]
def goesOn (s : Int × Int × Int) (b : Int) : Bool := decide (s.1 ≤ b) && decide (b ≤ s.2.1)
def stepIn (L : List (Int × Int × Int)) (b : Int) : Int × Bool := match L.find? (fun s => goesOn s b) with
  | some s => (s.2.2, true)
  | none => (0, false)
def stepU (i : Nat) (b : Int) : Int × Bool := stepIn (utfTab.getD i []) b
/-- One state's spans lie. -/
structure Spans (n0 : Nat) (i : Nat) (L : List (Int × Int × Int)) (W : World) (g o c : Nat) : Prop where
  low : g < n0
  head : W.cell? ⟨0, i, none⟩ = some (.slice (some ⟨g, o, none⟩) L.length c)
  cap : L.length ≤ c
  from_ : ∀ j s, L[j]? = some s → W.cell? ⟨g, o + j * 3, none⟩ = some (.int .u8 s.1)
  to_ : ∀ j s, L[j]? = some s → W.cell? ⟨g, o + j * 3 + 1, none⟩ = some (.int .u8 s.2.1)
  next_ : ∀ j s, L[j]? = some s → W.cell? ⟨g, o + j * 3 + 2, none⟩ = some (.int .i64 s.2.2)
theorem cell_same {W W' : World} {b o : Nat} (h : W'.heap[b]? = W.heap[b]?) : W'.cell? ⟨b, o, none⟩ = W.cell? ⟨b, o, none⟩ := by simp [World.cell?, h]
theorem Spans.keep {n0 i : Nat} {L : List (Int × Int × Int)} {W W' : World} {g o c : Nat} (h : Spans n0 i L W g o c) (hk : ∀ k, k < n0 → W'.heap[k]? = W.heap[k]?) : Spans n0 i L W' g o c :=
  ⟨h.low, (cell_same (hk 0 (by have := h.low; omega))).trans h.head, h.cap, fun j s hj => (cell_same (hk g h.low)).trans (h.from_ j s hj), fun j s hj => (cell_same (hk g h.low)).trans (h.to_ j s hj), fun j s hj => (cell_same (hk g h.low)).trans (h.next_ j s hj)⟩
/-- The table lies in blocks that are older than n0. -/
def Utf (n0 : Nat) (W : World) : Prop := n0 ≤ W.heap.size ∧ ∀ i, i < 8 → ∃ g o c, Spans n0 i (utfTab.getD i []) W g o c
theorem Utf.keep {n0 : Nat} {W W' : World} (h : Utf n0 W) (hs : W.heap.size ≤ W'.heap.size) (hk : ∀ k, k < n0 → W'.heap[k]? = W.heap[k]?) : Utf n0 W' :=
  ⟨Nat.le_trans h.1 hs, fun i hi => let ⟨g, o, c, hh⟩ := h.2 i hi; ⟨g, o, c, hh.keep hk⟩⟩
theorem Utf.acts {n0 : Nat} {C : Nat → Prop} {W W' : World} (h : Utf n0 W) (ha : Acts C W W') (hc : ∀ k, C k → n0 ≤ k) : Utf n0 W' :=
  h.keep ha.size (fun k hk => ha.same k (Nat.lt_of_lt_of_le hk h.1) (fun h => by have := hc k h; omega))
theorem utfTab_short (i : Nat) : (utfTab.getD i []).length ≤ 9 := by
  rcases i with _ | _ | _ | _ | _ | _ | _ | _ | i <;> first | decide | simp [utfTab]
theorem stepIn_skip {L : List (Int × Int × Int)} {b : Int} {k : Nat} (h : ∀ j s, j < k → L[j]? = some s → goesOn s b = false) (hk : L.length ≤ k) : stepIn L b = (0, false) := by
  unfold stepIn
  rw [List.find?_eq_none.2 (fun s hs => by
    obtain ⟨j, hj, rfl⟩ := List.mem_iff_getElem.1 hs
    rw [h j _ (by omega) (List.getElem?_eq_getElem hj)]; simp)]
theorem stepIn_hit {L : List (Int × Int × Int)} {b : Int} {k : Nat} {s : Int × Int × Int} (h : ∀ j s, j < k → L[j]? = some s → goesOn s b = false) (hs : L[k]? = some s) (hg : goesOn s b = true) : stepIn L b = (s.2.2, true) := by
  obtain ⟨hk, rfl⟩ := List.getElem?_eq_some_iff.1 hs
  have : L.find? (fun s => goesOn s b) = some L[k] := by
    rw [List.find?_eq_some_iff_getElem]
    exact ⟨hg, k, hk, rfl, fun j hj => by rw [h j _ hj (List.getElem?_eq_getElem (by omega))]; rfl⟩
  unfold stepIn
  rw [this]
set_option maxRecDepth 100000 in
set_option maxHeartbeats 4000000 in
theorem step_calls (n0 i : Nat) (b : Int) (W : World) (hU : Utf n0 W) (hi : i < 8) :
    Calls Tryd.prog 25 #[.int .i64 i, .int .u8 b] W (fun e w' => e = .returned (.tuple #[.int .i64 (stepU i b).1, .bool (stepU i b).2]) ∧ Acts (fun _ => False) W w') := by
  obtain ⟨g, o, c, hs⟩ := hU.2 i hi
  have h9 := utfTab_short i
  unfold stepU
  obtain ⟨L, hL⟩ : ∃ L, utfTab.getD i [] = L := ⟨_, rfl⟩
  rw [hL] at hs h9 ⊢
  have hn0 := hU.1
  clear hU hL
  have hh := hs.head
  have HS : Hid (Spans n0 i L W g o c) := hs
  clear hs
  go_enter Tryd.func25, Tryd.ntmps25
  go_wp2
  go_loopw [12] (fun x wl => ∃ k : Nat, k ≤ L.length ∧ x = .int .i64 k ∧ Hid (∀ j s, j < k → L[j]? = some s → goesOn s b = false) ∧ Hid (Acts (fun _ => False) W wl)) (fun x _ => L.length - (intOf x).toNat)
  case atStart => exact ⟨0, Nat.zero_le _, rfl, (fun j _ h => by omega), Acts.refl _ _⟩
  case round =>
    obtain ⟨k, hk, rfl, HN, HA⟩ := hrel
    by_cases hlt : k < L.length
    · obtain ⟨s, hsk⟩ : ∃ s, L[k]? = some s := ⟨_, List.getElem?_eq_getElem hlt⟩
      have hs' := HS.out.keep (W' := wr) (fun k hk => HA.out.same k (by omega) (fun h => h))
      have a1 := hs'.from_ k s hsk
      have a2 := hs'.to_ k s hsk
      have a3 := hs'.next_ k s hsk
      clear hs'
      by_cases hg : goesOn s b = true
      · have hg' := hg
        simp only [goesOn, Bool.and_eq_true, decide_eq_true_eq] at hg'
        obtain ⟨g1, g2⟩ := hg'
        go_wp2
        go_ret2
        rw [stepIn_hit HN.out hsk hg]
        exact ⟨rfl, HA.out.trans (Acts.alloc (fun _ => False) _ _) (fun _ h => .inl h)⟩
      · have hn : goesOn s b = false := by simpa using hg
        have HN2 : Hid (∀ j s, j < k + 1 → L[j]? = some s → goesOn s b = false) := fun j s' hj hs' => by
          by_cases e : j = k
          · subst e; rw [hsk] at hs'; obtain rfl := Option.some.inj hs'; exact hn
          · exact HN.out j s' (by omega) hs'
        have HA2 : ∀ o, Hid (Acts (fun _ => False) W (wr.alloc o)) := fun o => HA.out.trans (Acts.alloc (fun _ => False) _ _) (fun _ h => .inl h)
        clear HN hg
        have hn' : ¬ (s.1 ≤ b ∧ b ≤ s.2.1) := by simpa [goesOn] using hn
        clear hn
        by_cases g1 : s.1 ≤ b
        · have g2 : ¬ b ≤ s.2.1 := fun h => hn' ⟨g1, h⟩
          clear hn'
          go_wp2
          go_roundw
          case rel => exact ⟨k + 1, by omega, by go_num, HN2, HA2 _⟩
          case measure => simp [intOf]; omega
        · clear hn'
          go_wp2
          go_roundw
          case rel => exact ⟨k + 1, by omega, by go_num, HN2, HA2 _⟩
          case measure => simp [intOf]; omega
    · obtain rfl : k = L.length := by omega
      go_wp2
      go_ret2
      rw [stepIn_skip HN.out (Nat.le_refl _)]
      exact ⟨rfl, HA.out⟩
end Go.Proofs.YtmignbhpofmgeaaDoor.Top
