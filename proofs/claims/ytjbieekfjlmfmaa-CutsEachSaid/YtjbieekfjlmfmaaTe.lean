/- cuts.Ways: what its closure tells. -/
import Derived.Test.YtjbieekfjlmfmaaXCutsEachx1
import Derived.Test.YtjbieekfjlmfmaaXCutsEachx2
namespace Go.Proofs.Ytjbieekfjlmfmaa.Cuts07
open Go.RowKit Go.Shelf Go.Proofs.YtjbieekfjlmfmaaW.PrintWords Go.Proofs.YtjbieekfjlmfmaaW.PrintLast Go.Proofs.YtjbieekfjlmfmaaW.PrintMore Go.Proofs.Ytjbieekfjlmfmaa.Iter Go.Proofs.Ytjbieekfjlmfmaa.XCutsEach
set_option linter.unusedVariables false
set_option linter.unusedSimpArgs false
attribute [local go_sem] Oper.semAt_some

/-- A list of its own: what a round is handed. -/
def HandRow (x : List Int) (args : Array Value) (F : Nat → Prop) (W : World) : Prop :=
  ∃ v, args = #[v] ∧ W.ownsRow 0 3 1 v x.length (x.map (Value.int .i64)) ∧ ∀ k, F k ↔ v.ownBlock = some k
/-- How many ways. -/
def manyOf (n : Int) : Nat := if n < 0 ∨ 16 < n then 0 else 2 ^ (n - 1).toNat
/-- Is there a cut at k in way i. -/
def bit (i k : Nat) : Bool := (i / 2 ^ (k - 1)) % 2 == 1
def wayUp (i : Nat) : Nat → List Int
  | 0 => []
  | k + 1 => if 1 ≤ k ∧ bit i k = true then wayUp i k ++ [(k : Int)] else wayUp i k
def wayOf (n : Int) (i : Nat) : List Int := wayUp i n.toNat
def waysOf (n : Int) : List (List Int) := (List.range (manyOf n)).map (wayOf n)
theorem wayUp_len (i : Nat) : ∀ k, (wayUp i k).length ≤ k
  | 0 => by simp [wayUp]
  | k + 1 => by have := wayUp_len i k; unfold wayUp; split <;> simp <;> omega
theorem many_le (n : Int) : manyOf n ≤ 32768 := by
  unfold manyOf; split
  · omega
  · have : (n - 1).toNat ≤ 15 := by omega
    exact Nat.pow_le_pow_right (by omega) this
theorem count_is (n : Int) : ∃ b, cuts_Count.f n = some ((manyOf n : Int), b) := by
  unfold cuts_Count.f manyOf
  by_cases h1 : n < 0
  · exact ⟨22, by rw [if_pos h1, if_pos (.inl h1)]; rfl⟩
  · rw [if_neg h1]
    by_cases h2 : n > 16
    · exact ⟨26, by rw [if_pos h2, if_pos (.inr h2)]; rfl⟩
    · refine ⟨0, ?_⟩
      rw [if_neg h2, if_neg (by omega)]
      have hn : n = 0 ∨ n = 1 ∨ n = 2 ∨ n = 3 ∨ n = 4 ∨ n = 5 ∨ n = 6 ∨ n = 7 ∨ n = 8 ∨ n = 9 ∨ n = 10 ∨ n = 11 ∨ n = 12 ∨ n = 13 ∨ n = 14 ∨ n = 15 ∨ n = 16 := by omega
      rcases hn with h | h | h | h | h | h | h | h | h | h | h | h | h | h | h | h | h <;> subst h <;> decide +kernel
theorem wraps16 (n : Int) (h0 : 0 ≤ n) (h1 : n < 2 ^ 16) : IntKind.i64.wrap n = n := by rw [IntKind.wrap_i64]; omega
theorem bit_is (i k : Nat) (hi : i < 32768) : (bits BinOp.and .i64 ((i : Int) / 2 ^ (k - 1)) 1 == 1) = bit i k := by
  have e : (i : Int) / 2 ^ (k - 1) = ((i / 2 ^ (k - 1) : Nat) : Int) := by push_cast; rfl
  have hle : i / 2 ^ (k - 1) ≤ i := Nat.div_le_self _ _
  unfold bit
  rw [e]
  generalize i / 2 ^ (k - 1) = q at hle ⊢
  have hm := bits_mask .i64 16 (by decide) wraps16 1 (by decide) (q : Int) (by omega) (by omega)
  have hm2 : bits BinOp.and .i64 (q : Int) 1 = (q : Int) % 2 := hm
  rw [hm2]
  rw [Bool.eq_iff_iff]
  simp only [beq_iff_eq]
  omega
theorem way_end (n : Int) (k j : Nat) (hn : 0 ≤ n) (h1 : 1 ≤ j) (h2 : (j : Int) ≤ n ∨ j = 1) (h3 : ¬ (j : Int) < n) : wayUp k j = wayOf n k := by
  unfold wayOf
  rcases h2 with h | h
  · rw [show n.toNat = j from by omega]
  · subst h
    have : n.toNat = 0 ∨ n.toNat = 1 := by omega
    rcases this with h | h <;> rw [h]
    simp [wayUp]
set_option maxRecDepth 100000 in
set_option maxHeartbeats 4000000 in
theorem ways_gives (Bn : Nat) (n : Int) (hn1 : -9223372036854775808 ≤ n) (hn2 : n ≤ 9223372036854775807) (w : World) (hb : w.heap[Bn]? = some (.cells #[.int .i64 n] 3 (0, 0))) :
    Gives Try.prog 24 #[.pointer (some ⟨Bn, 0, none⟩)] HandRow (waysOf n) (fun k => k = Bn) (fun _ => False) (fun _ => True) (fun _ _ => True) w := by
  intro l J Jx C W hz hD hJ hJx hdis h0 hY
  obtain ⟨i0, hi, hz0, hz1, hz2⟩ := info_parts elem3
  have kBn := (hD Bn (.inl rfl)).trans hb
  have lBn : Bn < W.heap.size := (Array.getElem?_eq_some_iff.1 kBn).1
  have cBn := Boxed.cell (t := 3) kBn
  have nBn := hdis Bn (.inl rfl)
  obtain ⟨bad, hcnt⟩ := count_is n
  have hml := many_le n
  have hwl : (waysOf n).length = manyOf n := by simp [waysOf]
  refine (callsIn_wide (n := 1)).1 (callsIn_of_wp Try.func24 rfl trivial ?_ rfl)
  simp only [Try.ntmps24, List.size_toArray, List.length_cons, List.length_nil, Nat.reduceAdd, Nat.reduceSub, Array.replicate_succ, Array.replicate_zero, List.push_toArray, List.append_toArray, List.nil_append, List.cons_append]
  gi_wp2
  refine ⟨trivial, (callsIn_wide.2 (cuts_Count.calls n _ _ _ hcnt)).mono ?_⟩
  rintro e w1 ⟨rfl, hb1⟩
  have kBn1 := (hb1.block Bn lBn).trans kBn
  have hA1 : Acts (fun _ => False) W w1 := Acts.of_below hb1
  gi_wp2
  gi_loopw [14] (fun z wr => ∃ (k : Nat) (C1 : Nat → Prop), k ≤ manyOf n ∧ z = .int .i64 k ∧ J ((waysOf n).take k) C1 wr ∧ Acts C W wr ∧ More W C C1)
    (fun z _ => manyOf n - (intOf z).toNat)
  case atStart => exact ⟨0, C, Nat.zero_le _, rfl, hJ.acts h0 hA1 (fun _ _ h => h), hA1.weaken (fun _ _ h => h.elim), More.refl _ _⟩
  case round =>
    obtain ⟨wo, rfl⟩ : ∃ wo, wo = wr := ⟨_, rfl⟩
    obtain ⟨k, C1, hk, rfl, hJs, hA, hM⟩ := hrel
    have kBr := (hA.same Bn lBn nBn).trans kBn
    have cBr := Boxed.cell (t := 3) kBr
    by_cases hlt : k < manyOf n
    · have hn3 : 0 ≤ n ∧ n ≤ 16 := by unfold manyOf at hlt; split at hlt <;> omega
      gi_wp2
      gi_loopw [6, 7] (fun v6 v7 wr => ∃ (j : Nat), 1 ≤ j ∧ ((j : Int) ≤ n ∨ j = 1) ∧ v7 = .int .i64 j ∧ wr.ownsRow wo.heap.size 3 1 v6 (wayUp k j).length ((wayUp k j).map (Value.int .i64)) ∧ Acts (fun _ => False) wo wr)
        (fun _ v7 _ => 20 - (intOf v7).toNat)
      case atStart => exact ⟨1, Nat.le_refl _, .inr rfl, rfl, World.ownsRow_nil _ _ _ _, Acts.refl _ _⟩
      case round =>
        obtain ⟨j, hj1, hj2, rfl, hrow, hAi⟩ := hrel
        have kBi := (hAi.same Bn (Array.getElem?_eq_some_iff.1 kBr).1 id).trans kBr
        have cBi := Boxed.cell (t := 3) kBi
        have hwl2 := wayUp_len k j
        have lv := hrow.lt
        have hzi := hAi.size
        by_cases hjn : (j : Int) < n
        · have hbit := bit_is k j (by omega)
          cases hb2 : bit k j with
          | true =>
            rw [hb2] at hbit
            gi_wp2_with (gi_at_builtin; refine wpListIn_append_own_at _ rfl _ _ 22 rfl wo.heap.size 3 i0 (.int .i64 0) 1 8 Try.underlying22 hi hz0 hz1 hz2 rfl (by decide) u6 (wayUp k j).length _ rfl (hrow.alloc _) ⟨wr.heap.size, 0, none⟩ 1 1 [.int .i64 j] rfl rfl (cell_one_new _ _ _) (by simp [Value.oneCell']) (by simp [maxLen]; omega) (by omega) (by simp; omega) ?_; intro v' w2 hown hgrow hnil hat)
            go_roundw
            case rel =>
              have hw : wayUp k (j + 1) = wayUp k j ++ [(j : Int)] := by rw [wayUp, if_pos ⟨hj1, hb2⟩]
              exact ⟨j + 1, by omega, .inl (by omega), by simp, by rw [hw]; simpa using hown, (hAi.trans (Acts.alloc (fun _ => False) wr _) (fun _ h => .inl h)).trans (Acts.grown (C := fun q => u6.ownBlock = some q) hgrow (fun r e => e)) (fun q hq => .inr (lv q hq).1)⟩
            case measure => simp [intOf]; omega
          | false =>
            rw [hb2] at hbit
            gi_wp2
            go_roundw
            case rel => exact ⟨j + 1, by omega, .inl (by omega), by simp, by rw [wayUp, if_neg (fun h => by rw [hb2] at h; exact absurd h.2 (by decide))]; exact hrow, hAi⟩
            case measure => simp [intOf]; omega
        · have hwe := way_end n k j hn3.1 hj1 hj2 hjn
          rw [hwe] at hrow
          clear hwe
          have hJi : J ((waysOf n).take k) C1 wr := hJ.acts hJs hAi (fun _ _ h => h)
          have hwk : k < (waysOf n).length := by omega
          have hxk : (waysOf n)[k] = wayOf n k := by simp [waysOf]
          have htk : (waysOf n).take k ++ [wayOf n k] = (waysOf n).take (k + 1) := by rw [List.take_succ_eq_append_getElem hwk, hxk]
          have hAwr : Acts C W wr := hA.trans hAi (fun _ h => h.elim)
          have hzr := hA.size
          obtain ⟨fn, tmps, assign, body, hy, hR⟩ := hY ((waysOf n).take k) (wayOf n k) #[u6] (fun q => u6.ownBlock = some q) C1 wr hJi (by rw [htk]; exact List.take_prefix _ _) ⟨u6, rfl, hrow.mono (Nat.zero_le _), fun _ => Iff.rfl⟩ (fun q hq hc => by have := hJ.live _ _ _ hJs q hc; have := (lv q hq).1; omega) (fun q hq => by have := (lv q hq).1; omega) (hAwr.weaken (fun _ _ h => .inl h)) hM
          try dsimp only at hy
          rw [htk] at hR
          clear hY
          gi_wp2
          refine hR.mono ?_
          have fin : ∀ (C2 : Nat → Prop) (W3 : World), Acts (fun q => C1 q ∨ u6.ownBlock = some q) wr W3 → More wr (fun q => C1 q ∨ u6.ownBlock = some q) C2 → Acts C W W3 ∧ More W C C2 := fun C2 W3 hA3 hM3 =>
            ⟨hAwr.trans hA3 (fun q hq => hq.elim (hM q) (fun h => .inr (by have := (lv q h).1; omega))), fun q hq => (hM3 q hq).elim (fun h => h.elim (hM q) (fun h => .inr (by have := (lv q h).1; omega))) (fun h => .inr (by have := hAwr.size; omega))⟩
          rintro e W3 (⟨rfl, C2, hA3, hM3, hJ3⟩ | ⟨rfl, C2, hA3, hM3, hJ3⟩) <;> obtain ⟨q1, q2⟩ := fin C2 W3 hA3 hM3
          · gi_wp2
            go_roundw
            case rel => exact ⟨k + 1, C2, by omega, by simp, hJ3, q1, q2⟩
            case measure => simp [intOf]; omega
          · gi_wp2
            refine bodyPost_ret (results_none rfl _ _ _) rfl ?_
            exact ⟨⟨_, rfl⟩, C2, q1.weaken (fun _ _ h => .inl h), q2, .inr ⟨_, List.take_prefix _ _, hJ3, trivial⟩⟩
    · obtain rfl : k = manyOf n := by omega
      rw [List.take_of_length_le (by omega)] at hJs
      gi_wp2
      go_end0
      exact ⟨⟨_, rfl⟩, C1, hA.weaken (fun _ _ h => .inl h), hM, .inl ⟨hJs, trivial⟩⟩
end Go.Proofs.Ytjbieekfjlmfmaa.Cuts07
