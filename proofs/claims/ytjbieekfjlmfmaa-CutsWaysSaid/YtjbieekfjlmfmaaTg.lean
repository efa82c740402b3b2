/- CutsWays: the law's walk, as its row asks it. -/
import Derived.Test.YtjbieekfjlmfmaaTf
import Derived.Test.YtjbieekfjlmfmaaPureCutsEach
import Derived.OpenShut
namespace Go.Proofs.Ytjbieekfjlmfmaa.Cuts07
open Go.RowKit Go.Shelf
theorem cutsWays_walk (a0 a1 : Int) (w : World) (w0 : (Lit.int .i64 a0).wf = true) (w1 : (Lit.int .i64 a1).wf = true) :
    Calls Try.prog 4 #[.int .i64 a0, .int .i64 a1] w fun e w' => e = .returned (.bool true) ∧ Below w.heap.size w w' := by
  obtain ⟨k, hk⟩ := Pure.awake_tells
  have b0 := bounds_i64 w0
  have b1 := bounds_i64 w1
  exact ways_walk a0 a1 b0.1 b0.2 b1.1 b1.2 w ⟨k, hk k (Nat.le_refl _)⟩
end Go.Proofs.Ytjbieekfjlmfmaa.Cuts07
