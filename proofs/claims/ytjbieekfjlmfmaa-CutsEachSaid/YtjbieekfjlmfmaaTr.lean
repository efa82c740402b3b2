/- A region that draws its order inside a round of a range over a function: walked by hand as outside. No program is in sight. -/
import Derived.Test.YtjbieekfjlmfmaaTq
import Derived.Test.YtjbieekfjlmfmaaWLast
namespace Go.Proofs.Ytjbieekfjlmfmaa.Iter
open Go Go.Proofs.YtjbieekfjlmfmaaW.PrintLast
set_option linter.unusedVariables false
section
variable {P : Program} {ops : Array Oper} {Q : Exit → Act → World → Prop} {md : Region.Mode} {r : Nat} {S : World → Prop} {ds : List Nat}
theorem rows_wide {row : String} {args : Array Value} {w : World} {R : Value → World → Prop} (h : Rows P row args w R) (n : Nat) : RowsIn Fence.wide n P row args w R :=
  fun c cs hroom => let ⟨v, w', r, s⟩ := h c cs; ⟨v, w', r, stepsIn_wide.2 s⟩
theorem upon_wide {o : Oper} {a : Act} {K : Act → World → Prop} (x : Result Next) (h : o.upon P a K Q x) : o.uponIn Fence.wide 0 P a K Q x := by
  cases x with
  | ok x w' =>
    cases x with
    | enter f args => exact ⟨fun h => Bool.noConfusion h, callsIn_wide.2 h⟩
    | row row args => exact ⟨fun h => Bool.noConfusion h, rows_wide h _⟩
    | round l f t as bd => exact h.elim
    | _ => exact h
  | halt x w' => cases x <;> exact h
theorem any_wide (hlo : ¬ LetsOut Q) : ∀ (fuel : Nat) (listed : Array Bool) (a : Act) (w : World), wpAny P md ops Q fuel listed a w → wpAnyIn Fence.wide 0 P md ops Q fuel listed a w
  | 0, _, _, _, h => h
  | fuel + 1, listed, a, w, h => ⟨h.1, fun i hi => by
    have h2 := h.2 i hi
    unfold wpOp at h2
    unfold wpOpIn
    cases ho : ops[i]? with
    | none => rw [ho] at h2; exact any_wide hlo fuel _ a w h2
    | some o =>
      rw [ho] at h2
      simp only at h2 ⊢
      split at h2
      · rename_i hw
        rw [if_pos hw]
        rcases h2 with h2 | h2
        · refine Oper.wpIn_mono (fun a w => any_wide hlo fuel _ a w) ⟨fun _ _ => trivial, ?_⟩
          exact upon_wide _ h2
        · exact absurd h2.2 hlo
      · rename_i hw
        rw [if_neg hw]
        exact ⟨fun _ _ => trivial, any_wide hlo fuel _ _ w h2⟩⟩
theorem start_round {id n : Nat} {a : Act} {w : World} (l : Array Bool) (hd : noDefer ops.toList = true) (hm : P.follows .mixedOrders = true) (hn : ops.size = n) (hl : Array.replicate n false = l) (hlo : ¬ LetsOut Q) (hS : S w.drew)
    (h : S w.drew → wpAnyLast P .any ops Q S ds n l a w.drew) : (Code.region id ops true).wpIn (Fence.wide.inRound r) 0 P Q a w := by
  subst hn
  subst hl
  have hd' : ∀ (i : Nat) (o : Oper), ops[i]? = some o → ∀ c, o.op ≠ .defer c := fun i o ho => noDefer_spec hd i o (by simpa using ho)
  exact wpIn_region_any hm (anyIn_round hd' _ _ _ _ (any_wide hlo _ _ _ _ (wpAny_of_last _ _ _ _ (h hS))))
end
end Go.Proofs.Ytjbieekfjlmfmaa.Iter
