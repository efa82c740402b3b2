-- PRINTED BY print.sh 35421559b90ae4d0a3588c463048766b98c2df88dd9212a6774a882060cdf62d: not written by this session
import Derived.Test.YtmignbhpofmgeaaDoorPTopStickyx0
namespace Go.Proofs.YtmignbhpofmgeaaDoor.PTopSticky
open Go.RowKit Go.Proofs.YtmignbhpofmgeaaDoorW.PrintWords Go.Proofs.YtmignbhpofmgeaaDoorW.PrintLast Go.Proofs.YtmignbhpofmgeaaDoorW.PrintMore
attribute [local go_sem] max2_int min2_int max_two min_two max_three min_three max_four min_four   -- for this text's walks alone
set_option linter.unusedVariables false
set_option linter.unusedSimpArgs false

/-- A state of type 96 at block g of W; what its slices lead to came in by w0. -/
def IsS96 (w0 W : World) (g : Nat) (f0 : Int) (f1 : Int) (f2 : Int) (f3 : Bool) (f4 : List Int) (f5 : List ByteArray) (f6 : Int) (f7 : Int) (f8 : Int) (f9 : Int) : Prop := ∃ A4 c4, ∃ A5 c5, W.heap[g]? = some (.cells #[.int .i64 f0, .int .i64 f1, .int .i64 f2, .bool f3, .slice A4 f4.length c4, .slice A5 f5.length c5, .int .i64 f6, .int .i64 f7, .int .i64 f8, .int .i64 f9] 96 (0, 0)) ∧ w0.heap.size ≤ g ∧ Kd.C (Kd.int .u8) w0 A4 f4.length f4 ∧ Kd.C Kd.string w0 A5 f5.length f5
theorem IsS96.grown {w0 W : World} {g : Nat} {f0 : Int} {f1 : Int} {f2 : Int} {f3 : Bool} {f4 : List Int} {f5 : List ByteArray} {f6 : Int} {f7 : Int} {f8 : Int} {f9 : Int} {W1 : World} {row : Option Nat} (h : IsS96 w0 W g f0 f1 f2 f3 f4 f5 f6 f7 f8 f9) (hw : W.grownBy W1 row) (hne : some g ≠ row) : IsS96 w0 W1 g f0 f1 f2 f3 f4 f5 f6 f7 f8 f9 := by
  obtain ⟨A4, c4, A5, c5, hb, hg, hr4, hr5⟩ := h
  exact ⟨A4, c4, A5, c5, blk_grown hb hw hne, hg, hr4, hr5⟩
theorem IsS96.own_neN {w0 W : World} {g : Nat} {f0 : Int} {f1 : Int} {f2 : Int} {f3 : Bool} {f4 : List Int} {f5 : List ByteArray} {f6 : Int} {f7 : Int} {f8 : Int} {f9 : Int} {α : Type} {d : Kd α} {e : Nat} {base : Nat} {ok : Nat → Prop} {v : Value} {xs : List α} (h : IsS96 w0 W g f0 f1 f2 f3 f4 f5 f6 f7 f8 f9) (ho : Kd.N d e W base ok v xs) (ht : e ≠ 96) : some g ≠ v.ownBlock := by
  obtain ⟨A4, c4, A5, c5, hb, hg, hr4, hr5⟩ := h
  exact Kd.N_ne ho hb ht
theorem IsS96.fresh {w0 W : World} {g : Nat} {f0 : Int} {f1 : Int} {f2 : Int} {f3 : Bool} {f4 : List Int} {f5 : List ByteArray} {f6 : Int} {f7 : Int} {f8 : Int} {f9 : Int} (h : IsS96 w0 W g f0 f1 f2 f3 f4 f5 f6 f7 f8 f9) : ∀ k, W.heap.size ≤ k → k ≠ g := by
  obtain ⟨A4, c4, A5, c5, hb, hg, hr4, hr5⟩ := h
  exact Kd.freshB hb
theorem IsS96.kept {w0 W : World} {g : Nat} {f0 : Int} {f1 : Int} {f2 : Int} {f3 : Bool} {f4 : List Int} {f5 : List ByteArray} {f6 : Int} {f7 : Int} {f8 : Int} {f9 : Int} {W1 : World} {S : Nat → Prop} (h : IsS96 w0 W g f0 f1 f2 f3 f4 f5 f6 f7 f8 f9) (hk : Kept W W1 S) (hne : ¬ S g) : IsS96 w0 W1 g f0 f1 f2 f3 f4 f5 f6 f7 f8 f9 := by
  obtain ⟨A4, c4, A5, c5, hb, hg, hr4, hr5⟩ := h
  exact ⟨A4, c4, A5, c5, blk_kept hb hk hne, hg, hr4, hr5⟩
theorem IsS96.below {w0 W : World} {g : Nat} {f0 : Int} {f1 : Int} {f2 : Int} {f3 : Bool} {f4 : List Int} {f5 : List ByteArray} {f6 : Int} {f7 : Int} {f8 : Int} {f9 : Int} {W1 : World} (h : IsS96 w0 W g f0 f1 f2 f3 f4 f5 f6 f7 f8 f9) (hw : Below W.heap.size W W1) : IsS96 w0 W1 g f0 f1 f2 f3 f4 f5 f6 f7 f8 f9 := h.grown (grown_of_below hw none) (by simp)
theorem IsS96.alloc {w0 W : World} {g : Nat} {f0 : Int} {f1 : Int} {f2 : Int} {f3 : Bool} {f4 : List Int} {f5 : List ByteArray} {f6 : Int} {f7 : Int} {f8 : Int} {f9 : Int} (h : IsS96 w0 W g f0 f1 f2 f3 f4 f5 f6 f7 f8 f9) (o : Obj) : IsS96 w0 (W.alloc o) g f0 f1 f2 f3 f4 f5 f6 f7 f8 f9 := h.below (below_alloc (Below.refl _ _) o)
theorem IsS96.drewN {w0 W : World} {g : Nat} {f0 : Int} {f1 : Int} {f2 : Int} {f3 : Bool} {f4 : List Int} {f5 : List ByteArray} {f6 : Int} {f7 : Int} {f8 : Int} {f9 : Int} (h : IsS96 w0 W g f0 f1 f2 f3 f4 f5 f6 f7 f8 f9) (m : Nat) : IsS96 w0 (W.drewN m) g f0 f1 f2 f3 f4 f5 f6 f7 f8 f9 := h
theorem IsS96.drew {w0 W : World} {g : Nat} {f0 : Int} {f1 : Int} {f2 : Int} {f3 : Bool} {f4 : List Int} {f5 : List ByteArray} {f6 : Int} {f7 : Int} {f8 : Int} {f9 : Int} (h : IsS96 w0 W g f0 f1 f2 f3 f4 f5 f6 f7 f8 f9) : IsS96 w0 W.drew g f0 f1 f2 f3 f4 f5 f6 f7 f8 f9 := h
theorem IsS96.at_ {w0 W : World} {g : Nat} {f0 : Int} {f1 : Int} {f2 : Int} {f3 : Bool} {f4 : List Int} {f5 : List ByteArray} {f6 : Int} {f7 : Int} {f8 : Int} {f9 : Int} {w' : World} {m : Nat} (hq : W.drewN m = w') (h : IsS96 w0 W g f0 f1 f2 f3 f4 f5 f6 f7 f8 f9) : IsS96 w0 w' g f0 f1 f2 f3 f4 f5 f6 f7 f8 f9 := by subst hq; exact IsS96.drewN h m
theorem IsS96.apart {w0 W : World} {g : Nat} {f0 : Int} {f1 : Int} {f2 : Int} {f3 : Bool} {f4 : List Int} {f5 : List ByteArray} {f6 : Int} {f7 : Int} {f8 : Int} {f9 : Int} {α : Type} {d : Kd α} {e : Nat} {base : Nat} {ok : Nat → Prop} {v : Value} {xs : List α} (h : IsS96 w0 W g f0 f1 f2 f3 f4 f5 f6 f7 f8 f9) (ho : d.R e W base ok v xs) (ht : ∀ q, q ∈ e :: d.E → q ≠ 96) : d.R e W base (fun k => ok k ∧ k ≠ g) v xs := by
  obtain ⟨A4, c4, A5, c5, hb, hg, hr4, hr5⟩ := h
  exact Kd.R_types ho hb ht
theorem IsS96.own_ne {w0 W : World} {g : Nat} {f0 : Int} {f1 : Int} {f2 : Int} {f3 : Bool} {f4 : List Int} {f5 : List ByteArray} {f6 : Int} {f7 : Int} {f8 : Int} {f9 : Int} {α : Type} {d : Kd α} {e : Nat} {base : Nat} {ok : Nat → Prop} {v : Value} {xs : List α} (h : IsS96 w0 W g f0 f1 f2 f3 f4 f5 f6 f7 f8 f9) (ho : d.R e W base ok v xs) (ht : e ≠ 96) : some g ≠ v.ownBlock := by
  obtain ⟨A4, c4, A5, c5, hb, hg, hr4, hr5⟩ := h
  exact Kd.R_ne ho hb ht
theorem IsS96.apartQ {w0 W : World} {g : Nat} {f0 : Int} {f1 : Int} {f2 : Int} {f3 : Bool} {f4 : List Int} {f5 : List ByteArray} {f6 : Int} {f7 : Int} {f8 : Int} {f9 : Int} {α : Type} {d : Kd α} {e : Nat} {base : Nat} {ok : Nat → Prop} {v : Value} {xs : List α} (h : IsS96 w0 W g f0 f1 f2 f3 f4 f5 f6 f7 f8 f9) (ho : d.Q e W base ok v xs) (ht : ∀ q, q ∈ e :: d.E → q ≠ 96) : d.Q e W base (fun k => ok k ∧ k ≠ g) v xs := by
  obtain ⟨A4, c4, A5, c5, hb, hg, hr4, hr5⟩ := h
  exact Kd.Q_types ho hb ht
theorem IsS96.own_neQ {w0 W : World} {g : Nat} {f0 : Int} {f1 : Int} {f2 : Int} {f3 : Bool} {f4 : List Int} {f5 : List ByteArray} {f6 : Int} {f7 : Int} {f8 : Int} {f9 : Int} {α : Type} {d : Kd α} {e : Nat} {base : Nat} {ok : Nat → Prop} {v : Value} {xs : List α} (h : IsS96 w0 W g f0 f1 f2 f3 f4 f5 f6 f7 f8 f9) (ho : d.Q e W base ok v xs) (ht : e ≠ 96) : some g ≠ v.ownBlock := by
  obtain ⟨A4, c4, A5, c5, hb, hg, hr4, hr5⟩ := h
  exact Kd.Q_ne ho hb ht
theorem IsS96.apartS {w0 W : World} {g : Nat} {f0 : Int} {f1 : Int} {f2 : Int} {f3 : Bool} {f4 : List Int} {f5 : List ByteArray} {f6 : Int} {f7 : Int} {f8 : Int} {f9 : Int} {α : Type} {d : Kd α} {e : Nat} {base : Nat} {ok : Nat → Prop} {v : Value} {xs : List α} (h : IsS96 w0 W g f0 f1 f2 f3 f4 f5 f6 f7 f8 f9) (ho : d.S e W base ok v xs) (ht : ∀ q, q ∈ e :: d.E → q ≠ 96) : d.S e W base (fun k => ok k ∧ k ≠ g) v xs := by
  obtain ⟨A4, c4, A5, c5, hb, hg, hr4, hr5⟩ := h
  exact Kd.S_types ho hb ht
theorem IsS96.own_neS {w0 W : World} {g : Nat} {f0 : Int} {f1 : Int} {f2 : Int} {f3 : Bool} {f4 : List Int} {f5 : List ByteArray} {f6 : Int} {f7 : Int} {f8 : Int} {f9 : Int} {α : Type} {d : Kd α} {e : Nat} {base : Nat} {ok : Nat → Prop} {v : Value} {xs : List α} (h : IsS96 w0 W g f0 f1 f2 f3 f4 f5 f6 f7 f8 f9) (ho : d.S e W base ok v xs) (ht : e ≠ 96) : some g ≠ v.ownBlock := by
  obtain ⟨A4, c4, A5, c5, hb, hg, hr4, hr5⟩ := h
  exact Kd.S_ne ho hb ht
theorem IsS96.lt {w0 W : World} {g : Nat} {f0 : Int} {f1 : Int} {f2 : Int} {f3 : Bool} {f4 : List Int} {f5 : List ByteArray} {f6 : Int} {f7 : Int} {f8 : Int} {f9 : Int} (h : IsS96 w0 W g f0 f1 f2 f3 f4 f5 f6 f7 f8 f9) : g < W.heap.size := by
  obtain ⟨A4, c4, A5, c5, hb, hg, hr4, hr5⟩ := h
  exact blk_lt hb
theorem IsS96.ge {w0 W : World} {g : Nat} {f0 : Int} {f1 : Int} {f2 : Int} {f3 : Bool} {f4 : List Int} {f5 : List ByteArray} {f6 : Int} {f7 : Int} {f8 : Int} {f9 : Int} (h : IsS96 w0 W g f0 f1 f2 f3 f4 f5 f6 f7 f8 f9) : w0.heap.size ≤ g := by
  obtain ⟨A4, c4, A5, c5, hb, hg, hr4, hr5⟩ := h
  exact hg
theorem IsS96.ne_blk {w0 W : World} {g : Nat} {f0 : Int} {f1 : Int} {f2 : Int} {f3 : Bool} {f4 : List Int} {f5 : List ByteArray} {f6 : Int} {f7 : Int} {f8 : Int} {f9 : Int} {a : Nat} {cs : Array Value} {t : TypeId} {fr : Nat × Nat} (h : IsS96 w0 W g f0 f1 f2 f3 f4 f5 f6 f7 f8 f9) (hb2 : W.heap[a]? = some (.cells cs t fr)) (ht : t ≠ 96) : g ≠ a := by
  obtain ⟨A4, c4, A5, c5, hb, hg, hr4, hr5⟩ := h
  rintro rfl
  rw [hb] at hb2
  injection hb2 with hb2
  injection hb2 with _ ht2
  exact ht ht2.symm
theorem IsS96.far {w0 W : World} {g : Nat} {f0 : Int} {f1 : Int} {f2 : Int} {f3 : Bool} {f4 : List Int} {f5 : List ByteArray} {f6 : Int} {f7 : Int} {f8 : Int} {f9 : Int} {p : Addr} (h : IsS96 w0 W g f0 f1 f2 f3 f4 f5 f6 f7 f8 f9) (hne : g ≠ p.block) (u : Value) : IsS96 w0 (W.setCell p u) g f0 f1 f2 f3 f4 f5 f6 f7 f8 f9 := by
  obtain ⟨A4, c4, A5, c5, hb, hg, hr4, hr5⟩ := h
  exact ⟨A4, c4, A5, c5, blk_far hb hne u, hg, hr4, hr5⟩
theorem cellS96_0 {W : World} {g : Nat} {A4 : Option Addr} {c4 : Nat} {A5 : Option Addr} {c5 : Nat} {f0 : Int} {f1 : Int} {f2 : Int} {f3 : Bool} {f4 : List Int} {f5 : List ByteArray} {f6 : Int} {f7 : Int} {f8 : Int} {f9 : Int} (h : W.heap[g]? = some (.cells #[.int .i64 f0, .int .i64 f1, .int .i64 f2, .bool f3, .slice A4 f4.length c4, .slice A5 f5.length c5, .int .i64 f6, .int .i64 f7, .int .i64 f8, .int .i64 f9] 96 (0, 0))) : W.cell? ⟨g, 0, none⟩ = some (.int .i64 f0) := (blk_cell h 0).trans rfl
theorem IsS96.set_0 {w0 W : World} {g : Nat} {f0 : Int} {f1 : Int} {f2 : Int} {f3 : Bool} {f4 : List Int} {f5 : List ByteArray} {f6 : Int} {f7 : Int} {f8 : Int} {f9 : Int} (h : IsS96 w0 W g f0 f1 f2 f3 f4 f5 f6 f7 f8 f9) (x : Int) : IsS96 w0 (W.setCell ⟨g, 0, none⟩ (.int .i64 x)) g x f1 f2 f3 f4 f5 f6 f7 f8 f9 := by
  obtain ⟨A4, c4, A5, c5, hb, hg, hr4, hr5⟩ := h
  exact ⟨A4, c4, A5, c5, by simpa using blk_set hb 0 (.int .i64 x), hg, hr4, hr5⟩
theorem cellS96_1 {W : World} {g : Nat} {A4 : Option Addr} {c4 : Nat} {A5 : Option Addr} {c5 : Nat} {f0 : Int} {f1 : Int} {f2 : Int} {f3 : Bool} {f4 : List Int} {f5 : List ByteArray} {f6 : Int} {f7 : Int} {f8 : Int} {f9 : Int} (h : W.heap[g]? = some (.cells #[.int .i64 f0, .int .i64 f1, .int .i64 f2, .bool f3, .slice A4 f4.length c4, .slice A5 f5.length c5, .int .i64 f6, .int .i64 f7, .int .i64 f8, .int .i64 f9] 96 (0, 0))) : W.cell? ⟨g, 1, none⟩ = some (.int .i64 f1) := (blk_cell h 1).trans rfl
theorem IsS96.set_1 {w0 W : World} {g : Nat} {f0 : Int} {f1 : Int} {f2 : Int} {f3 : Bool} {f4 : List Int} {f5 : List ByteArray} {f6 : Int} {f7 : Int} {f8 : Int} {f9 : Int} (h : IsS96 w0 W g f0 f1 f2 f3 f4 f5 f6 f7 f8 f9) (x : Int) : IsS96 w0 (W.setCell ⟨g, 1, none⟩ (.int .i64 x)) g f0 x f2 f3 f4 f5 f6 f7 f8 f9 := by
  obtain ⟨A4, c4, A5, c5, hb, hg, hr4, hr5⟩ := h
  exact ⟨A4, c4, A5, c5, by simpa using blk_set hb 1 (.int .i64 x), hg, hr4, hr5⟩
theorem cellS96_2 {W : World} {g : Nat} {A4 : Option Addr} {c4 : Nat} {A5 : Option Addr} {c5 : Nat} {f0 : Int} {f1 : Int} {f2 : Int} {f3 : Bool} {f4 : List Int} {f5 : List ByteArray} {f6 : Int} {f7 : Int} {f8 : Int} {f9 : Int} (h : W.heap[g]? = some (.cells #[.int .i64 f0, .int .i64 f1, .int .i64 f2, .bool f3, .slice A4 f4.length c4, .slice A5 f5.length c5, .int .i64 f6, .int .i64 f7, .int .i64 f8, .int .i64 f9] 96 (0, 0))) : W.cell? ⟨g, 2, none⟩ = some (.int .i64 f2) := (blk_cell h 2).trans rfl
theorem IsS96.set_2 {w0 W : World} {g : Nat} {f0 : Int} {f1 : Int} {f2 : Int} {f3 : Bool} {f4 : List Int} {f5 : List ByteArray} {f6 : Int} {f7 : Int} {f8 : Int} {f9 : Int} (h : IsS96 w0 W g f0 f1 f2 f3 f4 f5 f6 f7 f8 f9) (x : Int) : IsS96 w0 (W.setCell ⟨g, 2, none⟩ (.int .i64 x)) g f0 f1 x f3 f4 f5 f6 f7 f8 f9 := by
  obtain ⟨A4, c4, A5, c5, hb, hg, hr4, hr5⟩ := h
  exact ⟨A4, c4, A5, c5, by simpa using blk_set hb 2 (.int .i64 x), hg, hr4, hr5⟩
theorem cellS96_3 {W : World} {g : Nat} {A4 : Option Addr} {c4 : Nat} {A5 : Option Addr} {c5 : Nat} {f0 : Int} {f1 : Int} {f2 : Int} {f3 : Bool} {f4 : List Int} {f5 : List ByteArray} {f6 : Int} {f7 : Int} {f8 : Int} {f9 : Int} (h : W.heap[g]? = some (.cells #[.int .i64 f0, .int .i64 f1, .int .i64 f2, .bool f3, .slice A4 f4.length c4, .slice A5 f5.length c5, .int .i64 f6, .int .i64 f7, .int .i64 f8, .int .i64 f9] 96 (0, 0))) : W.cell? ⟨g, 3, none⟩ = some (.bool f3) := (blk_cell h 3).trans rfl
theorem IsS96.set_3 {w0 W : World} {g : Nat} {f0 : Int} {f1 : Int} {f2 : Int} {f3 : Bool} {f4 : List Int} {f5 : List ByteArray} {f6 : Int} {f7 : Int} {f8 : Int} {f9 : Int} (h : IsS96 w0 W g f0 f1 f2 f3 f4 f5 f6 f7 f8 f9) (x : Bool) : IsS96 w0 (W.setCell ⟨g, 3, none⟩ (.bool x)) g f0 f1 f2 x f4 f5 f6 f7 f8 f9 := by
  obtain ⟨A4, c4, A5, c5, hb, hg, hr4, hr5⟩ := h
  exact ⟨A4, c4, A5, c5, by simpa using blk_set hb 3 (.bool x), hg, hr4, hr5⟩
theorem cellS96_4 {W : World} {g : Nat} {A4 : Option Addr} {c4 : Nat} {A5 : Option Addr} {c5 : Nat} {f0 : Int} {f1 : Int} {f2 : Int} {f3 : Bool} {f4 : List Int} {f5 : List ByteArray} {f6 : Int} {f7 : Int} {f8 : Int} {f9 : Int} (h : W.heap[g]? = some (.cells #[.int .i64 f0, .int .i64 f1, .int .i64 f2, .bool f3, .slice A4 f4.length c4, .slice A5 f5.length c5, .int .i64 f6, .int .i64 f7, .int .i64 f8, .int .i64 f9] 96 (0, 0))) : W.cell? ⟨g, 4, none⟩ = some (.slice A4 f4.length c4) := (blk_cell h 4).trans rfl
theorem cellS96_5 {W : World} {g : Nat} {A4 : Option Addr} {c4 : Nat} {A5 : Option Addr} {c5 : Nat} {f0 : Int} {f1 : Int} {f2 : Int} {f3 : Bool} {f4 : List Int} {f5 : List ByteArray} {f6 : Int} {f7 : Int} {f8 : Int} {f9 : Int} (h : W.heap[g]? = some (.cells #[.int .i64 f0, .int .i64 f1, .int .i64 f2, .bool f3, .slice A4 f4.length c4, .slice A5 f5.length c5, .int .i64 f6, .int .i64 f7, .int .i64 f8, .int .i64 f9] 96 (0, 0))) : W.cell? ⟨g, 5, none⟩ = some (.slice A5 f5.length c5) := (blk_cell h 5).trans rfl
theorem cellS96_6 {W : World} {g : Nat} {A4 : Option Addr} {c4 : Nat} {A5 : Option Addr} {c5 : Nat} {f0 : Int} {f1 : Int} {f2 : Int} {f3 : Bool} {f4 : List Int} {f5 : List ByteArray} {f6 : Int} {f7 : Int} {f8 : Int} {f9 : Int} (h : W.heap[g]? = some (.cells #[.int .i64 f0, .int .i64 f1, .int .i64 f2, .bool f3, .slice A4 f4.length c4, .slice A5 f5.length c5, .int .i64 f6, .int .i64 f7, .int .i64 f8, .int .i64 f9] 96 (0, 0))) : W.cell? ⟨g, 6, none⟩ = some (.int .i64 f6) := (blk_cell h 6).trans rfl
theorem IsS96.set_6 {w0 W : World} {g : Nat} {f0 : Int} {f1 : Int} {f2 : Int} {f3 : Bool} {f4 : List Int} {f5 : List ByteArray} {f6 : Int} {f7 : Int} {f8 : Int} {f9 : Int} (h : IsS96 w0 W g f0 f1 f2 f3 f4 f5 f6 f7 f8 f9) (x : Int) : IsS96 w0 (W.setCell ⟨g, 6, none⟩ (.int .i64 x)) g f0 f1 f2 f3 f4 f5 x f7 f8 f9 := by
  obtain ⟨A4, c4, A5, c5, hb, hg, hr4, hr5⟩ := h
  exact ⟨A4, c4, A5, c5, by simpa using blk_set hb 6 (.int .i64 x), hg, hr4, hr5⟩
theorem cellS96_7 {W : World} {g : Nat} {A4 : Option Addr} {c4 : Nat} {A5 : Option Addr} {c5 : Nat} {f0 : Int} {f1 : Int} {f2 : Int} {f3 : Bool} {f4 : List Int} {f5 : List ByteArray} {f6 : Int} {f7 : Int} {f8 : Int} {f9 : Int} (h : W.heap[g]? = some (.cells #[.int .i64 f0, .int .i64 f1, .int .i64 f2, .bool f3, .slice A4 f4.length c4, .slice A5 f5.length c5, .int .i64 f6, .int .i64 f7, .int .i64 f8, .int .i64 f9] 96 (0, 0))) : W.cell? ⟨g, 7, none⟩ = some (.int .i64 f7) := (blk_cell h 7).trans rfl
theorem IsS96.set_7 {w0 W : World} {g : Nat} {f0 : Int} {f1 : Int} {f2 : Int} {f3 : Bool} {f4 : List Int} {f5 : List ByteArray} {f6 : Int} {f7 : Int} {f8 : Int} {f9 : Int} (h : IsS96 w0 W g f0 f1 f2 f3 f4 f5 f6 f7 f8 f9) (x : Int) : IsS96 w0 (W.setCell ⟨g, 7, none⟩ (.int .i64 x)) g f0 f1 f2 f3 f4 f5 f6 x f8 f9 := by
  obtain ⟨A4, c4, A5, c5, hb, hg, hr4, hr5⟩ := h
  exact ⟨A4, c4, A5, c5, by simpa using blk_set hb 7 (.int .i64 x), hg, hr4, hr5⟩
theorem cellS96_8 {W : World} {g : Nat} {A4 : Option Addr} {c4 : Nat} {A5 : Option Addr} {c5 : Nat} {f0 : Int} {f1 : Int} {f2 : Int} {f3 : Bool} {f4 : List Int} {f5 : List ByteArray} {f6 : Int} {f7 : Int} {f8 : Int} {f9 : Int} (h : W.heap[g]? = some (.cells #[.int .i64 f0, .int .i64 f1, .int .i64 f2, .bool f3, .slice A4 f4.length c4, .slice A5 f5.length c5, .int .i64 f6, .int .i64 f7, .int .i64 f8, .int .i64 f9] 96 (0, 0))) : W.cell? ⟨g, 8, none⟩ = some (.int .i64 f8) := (blk_cell h 8).trans rfl
theorem IsS96.set_8 {w0 W : World} {g : Nat} {f0 : Int} {f1 : Int} {f2 : Int} {f3 : Bool} {f4 : List Int} {f5 : List ByteArray} {f6 : Int} {f7 : Int} {f8 : Int} {f9 : Int} (h : IsS96 w0 W g f0 f1 f2 f3 f4 f5 f6 f7 f8 f9) (x : Int) : IsS96 w0 (W.setCell ⟨g, 8, none⟩ (.int .i64 x)) g f0 f1 f2 f3 f4 f5 f6 f7 x f9 := by
  obtain ⟨A4, c4, A5, c5, hb, hg, hr4, hr5⟩ := h
  exact ⟨A4, c4, A5, c5, by simpa using blk_set hb 8 (.int .i64 x), hg, hr4, hr5⟩
theorem cellS96_9 {W : World} {g : Nat} {A4 : Option Addr} {c4 : Nat} {A5 : Option Addr} {c5 : Nat} {f0 : Int} {f1 : Int} {f2 : Int} {f3 : Bool} {f4 : List Int} {f5 : List ByteArray} {f6 : Int} {f7 : Int} {f8 : Int} {f9 : Int} (h : W.heap[g]? = some (.cells #[.int .i64 f0, .int .i64 f1, .int .i64 f2, .bool f3, .slice A4 f4.length c4, .slice A5 f5.length c5, .int .i64 f6, .int .i64 f7, .int .i64 f8, .int .i64 f9] 96 (0, 0))) : W.cell? ⟨g, 9, none⟩ = some (.int .i64 f9) := (blk_cell h 9).trans rfl
theorem IsS96.set_9 {w0 W : World} {g : Nat} {f0 : Int} {f1 : Int} {f2 : Int} {f3 : Bool} {f4 : List Int} {f5 : List ByteArray} {f6 : Int} {f7 : Int} {f8 : Int} {f9 : Int} (h : IsS96 w0 W g f0 f1 f2 f3 f4 f5 f6 f7 f8 f9) (x : Int) : IsS96 w0 (W.setCell ⟨g, 9, none⟩ (.int .i64 x)) g f0 f1 f2 f3 f4 f5 f6 f7 f8 x := by
  obtain ⟨A4, c4, A5, c5, hb, hg, hr4, hr5⟩ := h
  exact ⟨A4, c4, A5, c5, by simpa using blk_set hb 9 (.int .i64 x), hg, hr4, hr5⟩
theorem IsS96.new (w0 W : World) (A4 : Option Addr) (c4 : Nat) (A5 : Option Addr) (c5 : Nat) (f0 : Int) (f1 : Int) (f2 : Int) (f3 : Bool) (f4 : List Int) (f5 : List ByteArray) (f6 : Int) (f7 : Int) (f8 : Int) (f9 : Int) (hB : Below w0.heap.size w0 W) (hr4 : Kd.C (Kd.int .u8) w0 A4 f4.length f4) (hr5 : Kd.C Kd.string w0 A5 f5.length f5) : IsS96 w0 (W.alloc (.cells #[.int .i64 f0, .int .i64 f1, .int .i64 f2, .bool f3, .slice A4 f4.length c4, .slice A5 f5.length c5, .int .i64 f6, .int .i64 f7, .int .i64 f8, .int .i64 f9] 96)) W.heap.size f0 f1 f2 f3 f4 f5 f6 f7 f8 f9 := ⟨A4, c4, A5, c5, by simpa using heap_alloc_new W _, hB.size, hr4, hr5⟩

/-! ### fields_Maker_begin: function 58 -/
def fields_Maker_begin.f (s0_0 : Int) (s0_1 : Int) (s0_2 : Int) (s0_3 : Bool) (s0_4 : List Int) (s0_5 : List ByteArray) (s0_6 : Int) (s0_7 : Int) (s0_8 : Int) (s0_9 : Int) : Option (Int × Int × Int × Int × Bool × Int × Int × Int × Int) := if s0_6 ≥ s0_2 then (some (9, s0_0, s0_1, s0_2, s0_3, s0_6, s0_7, s0_8, s0_9)) else (some (0, s0_0, s0_1, s0_2, s0_3, wrap64 (s0_6 + 1), s0_7, s0_8, s0_9))
set_option maxHeartbeats 8000000 in
set_option maxRecDepth 100000 in
theorem fields_Maker_begin.calls (g : Nat) (s0_0 : Int) (s0_1 : Int) (s0_2 : Int) (s0_3 : Bool) (s0_4 : List Int) (s0_5 : List ByteArray) (s0_6 : Int) (s0_7 : Int) (s0_8 : Int) (s0_9 : Int) (r1 : Int) (r2 : Int) (r3 : Int) (r4 : Int) (r5 : Bool) (r6 : Int) (r7 : Int) (r8 : Int) (r9 : Int) (w0 w : World) (hI : IsS96 w0 w g s0_0 s0_1 s0_2 s0_3 s0_4 s0_5 s0_6 s0_7 s0_8 s0_9) (hB : Below w0.heap.size w0 w) (h : fields_Maker_begin.f s0_0 s0_1 s0_2 s0_3 s0_4 s0_5 s0_6 s0_7 s0_8 s0_9 = some (r1, r2, r3, r4, r5, r6, r7, r8, r9)) :
    Calls Tryd.prog 58 #[.pointer (some ⟨g, 0, none⟩)] w fun e w' => e = .returned (.int .i64 r1) ∧ IsS96 w0 w' g r2 r3 r4 r5 s0_4 s0_5 r6 r7 r8 r9 ∧ Below w0.heap.size w0 w' ∧ KeepBut w w' g none := by
  have HI0 := Aside0.mk hI
  have HK := Aside0.mk (KeepBut.refl w g none)
  have HL := Aside0.mk hB.size
  clear hI
  have HW0 := Aside0.mk hB.size
  have HB := Aside0.mk hB
  clear hB
  have H : (if s0_6 ≥ s0_2 then (some (9, s0_0, s0_1, s0_2, s0_3, s0_6, s0_7, s0_8, s0_9)) else (some (0, s0_0, s0_1, s0_2, s0_3, wrap64 (s0_6 + 1), s0_7, s0_8, s0_9))) = some (r1, r2, r3, r4, r5, r6, r7, r8, r9) := h
  clear h
  by_cases c2 : s0_6 ≥ s0_2
  · rw [if_pos c2] at H
    have c2b0 : decide (s0_2 ≤ s0_6) = true := decide_eq_true c2
    clear c2
    simp only [Option.some.injEq, Prod.mk.injEq] at H
    obtain ⟨rfl, rfl, rfl, rfl, rfl, rfl, rfl, rfl, rfl⟩ := H
    obtain ⟨ASz3_4, cSz3_4, ASz3_5, cSz3_5, HGz3, hgz3, HSz3_4, HSz3_5⟩ := HI0.out
    have hcz3_0 := cellS96_0 HGz3
    have hcz3_1 := cellS96_1 HGz3
    have hcz3_2 := cellS96_2 HGz3
    have hcz3_3 := cellS96_3 HGz3
    have hcz3_4 := cellS96_4 HGz3
    have hcz3_5 := cellS96_5 HGz3
    have hcz3_6 := cellS96_6 HGz3
    have hcz3_7 := cellS96_7 HGz3
    have hcz3_8 := cellS96_8 HGz3
    have hcz3_9 := cellS96_9 HGz3
    have hfz3_0 := blk_frozen HGz3 0
    have hfz3_1 := blk_frozen HGz3 1
    have hfz3_2 := blk_frozen HGz3 2
    have hfz3_3 := blk_frozen HGz3 3
    have hfz3_6 := blk_frozen HGz3 6
    have hfz3_7 := blk_frozen HGz3 7
    have hfz3_8 := blk_frozen HGz3 8
    have hfz3_9 := blk_frozen HGz3 9
    clear HGz3 hgz3
    go_enter Tryd.func58, Tryd.ntmps58
    go_wp2
    repeat (go_quiet (fail); try go_wp2)
    go_ret
    exact ⟨by first | rfl | (simp [errW_none, errW_some] <;> rfl) | (simp [*, errW_none, errW_some] <;> rfl), by repeat (first | (with_reducible first | exact HI0.out | apply IsS96.alloc | apply IsS96.drewN | apply IsS96.drew | apply IsS96.set_0 | apply IsS96.set_1 | apply IsS96.set_2 | apply IsS96.set_3 | apply IsS96.set_6 | apply IsS96.set_7 | apply IsS96.set_8 | apply IsS96.set_9) | exact HI0.out), by repeat (first | (with_reducible first | exact HB.out | apply below_alloc | apply pw_below_drewN | apply below_drew1 | refine below_set ?_ (IsS96.ge HI0.out)) | exact HB.out), by repeat (first | (with_reducible first | exact HK.out | apply KeepBut.set_ | apply keep_drewN | apply keep_drew | apply keep_alloc) | exact HK.out)⟩
  · rw [if_neg c2] at H
    have c2b0 : decide (s0_2 ≤ s0_6) = false := decide_eq_false c2
    clear c2
    simp only [Option.some.injEq, Prod.mk.injEq] at H
    obtain ⟨rfl, rfl, rfl, rfl, rfl, rfl, rfl, rfl, rfl⟩ := H
    obtain ⟨ASz4_4, cSz4_4, ASz4_5, cSz4_5, HGz4, hgz4, HSz4_4, HSz4_5⟩ := HI0.out
    have hcz4_0 := cellS96_0 HGz4
    have hcz4_1 := cellS96_1 HGz4
    have hcz4_2 := cellS96_2 HGz4
    have hcz4_3 := cellS96_3 HGz4
    have hcz4_4 := cellS96_4 HGz4
    have hcz4_5 := cellS96_5 HGz4
    have hcz4_6 := cellS96_6 HGz4
    have hcz4_7 := cellS96_7 HGz4
    have hcz4_8 := cellS96_8 HGz4
    have hcz4_9 := cellS96_9 HGz4
    have hfz4_0 := blk_frozen HGz4 0
    have hfz4_1 := blk_frozen HGz4 1
    have hfz4_2 := blk_frozen HGz4 2
    have hfz4_3 := blk_frozen HGz4 3
    have hfz4_6 := blk_frozen HGz4 6
    have hfz4_7 := blk_frozen HGz4 7
    have hfz4_8 := blk_frozen HGz4 8
    have hfz4_9 := blk_frozen HGz4 9
    clear HGz4 hgz4
    go_enter Tryd.func58, Tryd.ntmps58
    go_wp2
    repeat (go_quiet (fail); try go_wp2)
    go_ret
    exact ⟨by first | rfl | (simp [errW_none, errW_some] <;> rfl) | (simp [*, errW_none, errW_some] <;> rfl), by repeat (first | (with_reducible first | exact HI0.out | apply IsS96.alloc | apply IsS96.drewN | apply IsS96.drew | apply IsS96.set_0 | apply IsS96.set_1 | apply IsS96.set_2 | apply IsS96.set_3 | apply IsS96.set_6 | apply IsS96.set_7 | apply IsS96.set_8 | apply IsS96.set_9) | exact HI0.out), by repeat (first | (with_reducible first | exact HB.out | apply below_alloc | apply pw_below_drewN | apply below_drew1 | refine below_set ?_ (IsS96.ge HI0.out)) | exact HB.out), by repeat (first | (with_reducible first | exact HK.out | apply KeepBut.set_ | apply keep_drewN | apply keep_drew | apply keep_alloc) | exact HK.out)⟩

-- NOT PRINTED: function 59 (fields_Maker_add)

-- NOT PRINTED: function 66 (fields_Maker_put)

/-! ### fields_Maker_uniform: function 67 -/
def fields_Maker_uniform.f (s0_0 : Int) (s0_1 : Int) (s0_2 : Int) (s0_3 : Bool) (s0_4 : List Int) (s0_5 : List ByteArray) (s0_6 : Int) (s0_7 : Int) (s0_8 : Int) (s0_9 : Int) : Option (Bool × Int × Int × Int × Bool × Int × Int × Int × Int) := if s0_3 = true then (some (decide (s0_7 > 0), s0_0, s0_1, s0_2, s0_3, s0_6, s0_7, s0_8, s0_9)) else (some (false, s0_0, s0_1, s0_2, s0_3, s0_6, s0_7, s0_8, s0_9))
set_option maxHeartbeats 8000000 in
set_option maxRecDepth 100000 in
theorem fields_Maker_uniform.calls (g : Nat) (s0_0 : Int) (s0_1 : Int) (s0_2 : Int) (s0_3 : Bool) (s0_4 : List Int) (s0_5 : List ByteArray) (s0_6 : Int) (s0_7 : Int) (s0_8 : Int) (s0_9 : Int) (r1 : Bool) (r2 : Int) (r3 : Int) (r4 : Int) (r5 : Bool) (r6 : Int) (r7 : Int) (r8 : Int) (r9 : Int) (w0 w : World) (hI : IsS96 w0 w g s0_0 s0_1 s0_2 s0_3 s0_4 s0_5 s0_6 s0_7 s0_8 s0_9) (hB : Below w0.heap.size w0 w) (h : fields_Maker_uniform.f s0_0 s0_1 s0_2 s0_3 s0_4 s0_5 s0_6 s0_7 s0_8 s0_9 = some (r1, r2, r3, r4, r5, r6, r7, r8, r9)) :
    Calls Tryd.prog 67 #[.pointer (some ⟨g, 0, none⟩)] w fun e w' => e = .returned (.bool r1) ∧ IsS96 w0 w' g r2 r3 r4 r5 s0_4 s0_5 r6 r7 r8 r9 ∧ Below w0.heap.size w0 w' ∧ KeepBut w w' g none := by
  have HI0 := Aside0.mk hI
  have HK := Aside0.mk (KeepBut.refl w g none)
  have HL := Aside0.mk hB.size
  clear hI
  have HW0 := Aside0.mk hB.size
  have HB := Aside0.mk hB
  clear hB
  have H : (if s0_3 = true then (some (decide (s0_7 > 0), s0_0, s0_1, s0_2, s0_3, s0_6, s0_7, s0_8, s0_9)) else (some (false, s0_0, s0_1, s0_2, s0_3, s0_6, s0_7, s0_8, s0_9))) = some (r1, r2, r3, r4, r5, r6, r7, r8, r9) := h
  clear h
  by_cases c2 : s0_3 = true
  · subst c2
    have H1 : (some (decide (s0_7 > 0), s0_0, s0_1, s0_2, true, s0_6, s0_7, s0_8, s0_9)) = some (r1, r2, r3, r4, r5, r6, r7, r8, r9) := by rw [if_pos rfl] at H; exact H
    clear H
    have H := H1
    clear H1
    simp only [Option.some.injEq, Prod.mk.injEq] at H
    obtain ⟨rfl, rfl, rfl, rfl, rfl, rfl, rfl, rfl, rfl⟩ := H
    obtain ⟨ASz3_4, cSz3_4, ASz3_5, cSz3_5, HGz3, hgz3, HSz3_4, HSz3_5⟩ := HI0.out
    have hcz3_0 := cellS96_0 HGz3
    have hcz3_1 := cellS96_1 HGz3
    have hcz3_2 := cellS96_2 HGz3
    have hcz3_3 := cellS96_3 HGz3
    have hcz3_4 := cellS96_4 HGz3
    have hcz3_5 := cellS96_5 HGz3
    have hcz3_6 := cellS96_6 HGz3
    have hcz3_7 := cellS96_7 HGz3
    have hcz3_8 := cellS96_8 HGz3
    have hcz3_9 := cellS96_9 HGz3
    have hfz3_0 := blk_frozen HGz3 0
    have hfz3_1 := blk_frozen HGz3 1
    have hfz3_2 := blk_frozen HGz3 2
    have hfz3_3 := blk_frozen HGz3 3
    have hfz3_6 := blk_frozen HGz3 6
    have hfz3_7 := blk_frozen HGz3 7
    have hfz3_8 := blk_frozen HGz3 8
    have hfz3_9 := blk_frozen HGz3 9
    clear HGz3 hgz3
    go_enter Tryd.func67, Tryd.ntmps67
    go_wp2
    go_ret
    exact ⟨by first | rfl | (simp [errW_none, errW_some] <;> rfl) | (simp [*, errW_none, errW_some] <;> rfl), by repeat (first | (with_reducible first | exact HI0.out | apply IsS96.alloc | apply IsS96.drewN | apply IsS96.drew | apply IsS96.set_0 | apply IsS96.set_1 | apply IsS96.set_2 | apply IsS96.set_3 | apply IsS96.set_6 | apply IsS96.set_7 | apply IsS96.set_8 | apply IsS96.set_9) | exact HI0.out), by repeat (first | (with_reducible first | exact HB.out | apply below_alloc | apply pw_below_drewN | apply below_drew1 | refine below_set ?_ (IsS96.ge HI0.out)) | exact HB.out), by repeat (first | (with_reducible first | exact HK.out | apply KeepBut.set_ | apply keep_drewN | apply keep_drew | apply keep_alloc) | exact HK.out)⟩
  · replace c2 := Bool.eq_false_iff.mpr c2
    subst c2
    have H1 : (some (false, s0_0, s0_1, s0_2, false, s0_6, s0_7, s0_8, s0_9)) = some (r1, r2, r3, r4, r5, r6, r7, r8, r9) := by rw [if_neg (show ¬ (false = true) by decide)] at H; exact H
    clear H
    have H := H1
    clear H1
    simp only [Option.some.injEq, Prod.mk.injEq] at H
    obtain ⟨rfl, rfl, rfl, rfl, rfl, rfl, rfl, rfl, rfl⟩ := H
    obtain ⟨ASz4_4, cSz4_4, ASz4_5, cSz4_5, HGz4, hgz4, HSz4_4, HSz4_5⟩ := HI0.out
    have hcz4_0 := cellS96_0 HGz4
    have hcz4_1 := cellS96_1 HGz4
    have hcz4_2 := cellS96_2 HGz4
    have hcz4_3 := cellS96_3 HGz4
    have hcz4_4 := cellS96_4 HGz4
    have hcz4_5 := cellS96_5 HGz4
    have hcz4_6 := cellS96_6 HGz4
    have hcz4_7 := cellS96_7 HGz4
    have hcz4_8 := cellS96_8 HGz4
    have hcz4_9 := cellS96_9 HGz4
    have hfz4_0 := blk_frozen HGz4 0
    have hfz4_1 := blk_frozen HGz4 1
    have hfz4_2 := blk_frozen HGz4 2
    have hfz4_3 := blk_frozen HGz4 3
    have hfz4_6 := blk_frozen HGz4 6
    have hfz4_7 := blk_frozen HGz4 7
    have hfz4_8 := blk_frozen HGz4 8
    have hfz4_9 := blk_frozen HGz4 9
    clear HGz4 hgz4
    go_enter Tryd.func67, Tryd.ntmps67
    go_wp2
    go_ret
    exact ⟨by first | rfl | (simp [errW_none, errW_some] <;> rfl) | (simp [*, errW_none, errW_some] <;> rfl), by repeat (first | (with_reducible first | exact HI0.out | apply IsS96.alloc | apply IsS96.drewN | apply IsS96.drew | apply IsS96.set_0 | apply IsS96.set_1 | apply IsS96.set_2 | apply IsS96.set_3 | apply IsS96.set_6 | apply IsS96.set_7 | apply IsS96.set_8 | apply IsS96.set_9) | exact HI0.out), by repeat (first | (with_reducible first | exact HB.out | apply below_alloc | apply pw_below_drewN | apply below_drew1 | refine below_set ?_ (IsS96.ge HI0.out)) | exact HB.out), by repeat (first | (with_reducible first | exact HK.out | apply KeepBut.set_ | apply keep_drewN | apply keep_drew | apply keep_alloc) | exact HK.out)⟩

-- NOT PRINTED: function 60 (fields_Maker_next)

-- NOT PRINTED: function 61 (fields_Maker_line)

-- NOT PRINTED: function 53 (fields_Maker_gather)

-- NOT PRINTED: function 44 (fields_Maker_Take)

/-! ### stringslite_HasPrefix: function 69 -/
def stringslite_HasPrefix.f (a0 : ByteArray) (a1 : ByteArray) : Option (Bool) := if (a0.size : Int) ≥ (a1.size : Int) then (if 0 ≤ (a1.size : Int) then (if (a1.size : Int) ≤ (a0.size : Int) then (some ((a0.extract 0 ((a1.size : Int) : Int).toNat).toList == a1.toList)) else (none)) else (none)) else (some false)
set_option maxHeartbeats 8000000 in
set_option maxRecDepth 100000 in
theorem stringslite_HasPrefix.calls (a0 : ByteArray) (a1 : ByteArray) (r : Bool) (w : World) (h : stringslite_HasPrefix.f a0 a1 = some r) :
    Calls Tryd.prog 69 #[.string a0, .string a1] w fun e w' => e = .returned (.bool r) ∧ Drawn0 w w' := by
  have H : (if (a0.size : Int) ≥ (a1.size : Int) then (if 0 ≤ (a1.size : Int) then (if (a1.size : Int) ≤ (a0.size : Int) then (some ((a0.extract 0 ((a1.size : Int) : Int).toNat).toList == a1.toList)) else (none)) else (none)) else (some false)) = some r := h
  clear h
  by_cases c3 : (a0.size : Int) ≥ (a1.size : Int)
  · rw [if_pos c3] at H
    have c3b0 : decide ((a1.size : Int) ≤ (a0.size : Int)) = true := decide_eq_true c3
    have c3b1 : decide (a1.size ≤ a0.size) = true := decide_eq_true (Int.ofNat_le.mp c3)
    clear c3
    by_cases c4 : 0 ≤ (a1.size : Int)
    · rw [if_pos c4] at H
      have c4b0 := eq_true c4
      have c4b1 : decide (0 ≤ (a1.size : Int)) = true := decide_eq_true c4
      clear c4
      by_cases c5 : (a1.size : Int) ≤ (a0.size : Int)
      · rw [if_pos c5] at H
        have c5b0 := eq_true c5
        have c5b1 : decide ((a1.size : Int) ≤ (a0.size : Int)) = true := decide_eq_true c5
        clear c5
        obtain rfl := Option.some.inj H
        go_enter Tryd.func69, Tryd.ntmps69
        go_wp2
        go_ret
        exact ⟨by first | rfl | (simp; done) | (simp [*]; done), by repeat (first | exact Drawn0.refl _ | apply Drawn0.step)⟩
      · rw [if_neg c5] at H
        exact absurd H (by simp)
    · rw [if_neg c4] at H
      exact absurd H (by simp)
  · rw [if_neg c3] at H
    have c3b0 : decide ((a1.size : Int) ≤ (a0.size : Int)) = false := decide_eq_false c3
    have c3b1 : decide (a1.size ≤ a0.size) = false := decide_eq_false (fun h => c3 (Int.ofNat_le.mpr h))
    clear c3
    obtain rfl := Option.some.inj H
    go_enter Tryd.func69, Tryd.ntmps69
    go_wp2
    go_ret
    exact ⟨by first | rfl | (simp; done) | (simp [*]; done), by repeat (first | exact Drawn0.refl _ | apply Drawn0.step)⟩

/-! ### stringslite_CutPrefix: function 65 -/
def stringslite_CutPrefix.f (a0 : ByteArray) (a1 : ByteArray) : Option (ByteArray × Bool) := (stringslite_HasPrefix.f a0 a1).bind fun t148 => (if t148 = true then (if 0 ≤ (a1.size : Int) then (if (a1.size : Int) ≤ (a0.size : Int) then (some (a0.extract ((a1.size : Int) : Int).toNat a0.size, true)) else (none)) else (none)) else (some (a0, false)))
set_option maxHeartbeats 8000000 in
set_option maxRecDepth 100000 in
theorem stringslite_CutPrefix.calls (a0 : ByteArray) (a1 : ByteArray) (r1 : ByteArray) (r2 : Bool) (w : World) (h : stringslite_CutPrefix.f a0 a1 = some (r1, r2)) :
    Calls Tryd.prog 65 #[.string a0, .string a1] w fun e w' => e = .returned (.tuple #[.string r1, .bool r2]) ∧ Drawn0 w w' := by
  have H : ((stringslite_HasPrefix.f a0 a1).bind fun t148 => (if t148 = true then (if 0 ≤ (a1.size : Int) then (if (a1.size : Int) ≤ (a0.size : Int) then (some (a0.extract ((a1.size : Int) : Int).toNat a0.size, true)) else (none)) else (none)) else (some (a0, false)))) = some (r1, r2) := h
  clear h
  replace H := Option.bind_eq_some_iff.mp H
  obtain ⟨t148, A30, H⟩ := H
  replace H : (if t148 = true then (if 0 ≤ (a1.size : Int) then (if (a1.size : Int) ≤ (a0.size : Int) then (some (a0.extract ((a1.size : Int) : Int).toNat a0.size, true)) else (none)) else (none)) else (some (a0, false))) = some (r1, r2) := H
  have A3 := Aside0.mk A30
  clear A30
  by_cases c4 : t148 = true
  · subst c4
    have H1 : (if 0 ≤ (a1.size : Int) then (if (a1.size : Int) ≤ (a0.size : Int) then (some (a0.extract ((a1.size : Int) : Int).toNat a0.size, true)) else (none)) else (none)) = some (r1, r2) := by rw [if_pos rfl] at H; exact H
    clear H
    have H := H1
    clear H1
    by_cases c5 : 0 ≤ (a1.size : Int)
    · rw [if_pos c5] at H
      have c5b0 := eq_true c5
      have c5b1 : decide (0 ≤ (a1.size : Int)) = true := decide_eq_true c5
      clear c5
      by_cases c6 : (a1.size : Int) ≤ (a0.size : Int)
      · rw [if_pos c6] at H
        have c6b0 := eq_true c6
        have c6b1 : decide ((a1.size : Int) ≤ (a0.size : Int)) = true := decide_eq_true c6
        clear c6
        simp only [Option.some.injEq, Prod.mk.injEq] at H
        obtain ⟨rfl, rfl⟩ := H
        go_enter Tryd.func65, Tryd.ntmps65
        go_wp2_with (first | ((with_reducible refine gate_callee (f := 69) rfl ?_); refine goesL_ (some 8) rfl rfl Tryd.func69 (by kernel_rfl) rfl #[.string a0, .string a1] rfl (by (try simp only [List.map_toArray, List.map_cons, List.map_nil]); first | done | rfl | (simp only [List.length_drop, List.length_take]; rfl)) ?_; (with_reducible refine (stringslite_HasPrefix.calls a0 a1 true _ A3.out).mono ?_); rintro e w' ⟨rfl, ⟨nd, rfl⟩⟩; refine ⟨_, rfl, ?_⟩))
        go_ret2
        exact ⟨by first | rfl | (simp; done) | (simp [*]; done), by repeat (first | exact Drawn0.refl _ | apply Drawn0.step)⟩
      · rw [if_neg c6] at H
        exact absurd H (by simp)
    · rw [if_neg c5] at H
      exact absurd H (by simp)
  · replace c4 := Bool.eq_false_iff.mpr c4
    subst c4
    have H1 : (some (a0, false)) = some (r1, r2) := by rw [if_neg (show ¬ (false = true) by decide)] at H; exact H
    clear H
    have H := H1
    clear H1
    simp only [Option.some.injEq, Prod.mk.injEq] at H
    obtain ⟨rfl, rfl⟩ := H
    go_enter Tryd.func65, Tryd.ntmps65
    go_wp2_with (first | ((with_reducible refine gate_callee (f := 69) rfl ?_); refine goesL_ (some 8) rfl rfl Tryd.func69 (by kernel_rfl) rfl #[.string a0, .string a1] rfl (by (try simp only [List.map_toArray, List.map_cons, List.map_nil]); first | done | rfl | (simp only [List.length_drop, List.length_take]; rfl)) ?_; (with_reducible refine (stringslite_HasPrefix.calls a0 a1 false _ A3.out).mono ?_); rintro e w' ⟨rfl, ⟨nd, rfl⟩⟩; refine ⟨_, rfl, ?_⟩))
    go_ret2
    exact ⟨by first | rfl | (simp; done) | (simp [*]; done), by repeat (first | exact Drawn0.refl _ | apply Drawn0.step)⟩

/-! ### strings_CutPrefix: function 57 -/
def strings_CutPrefix.f (a0 : ByteArray) (a1 : ByteArray) : Option (ByteArray × Bool) := (stringslite_CutPrefix.f a0 a1).bind fun bt149 => (some (bt149.1, bt149.2))
set_option maxHeartbeats 8000000 in
set_option maxRecDepth 100000 in
theorem strings_CutPrefix.calls (a0 : ByteArray) (a1 : ByteArray) (r1 : ByteArray) (r2 : Bool) (w : World) (h : strings_CutPrefix.f a0 a1 = some (r1, r2)) :
    Calls Tryd.prog 57 #[.string a0, .string a1] w fun e w' => e = .returned (.tuple #[.string r1, .bool r2]) ∧ Drawn0 w w' := by
  have H : ((stringslite_CutPrefix.f a0 a1).bind fun bt149 => (some (bt149.1, bt149.2))) = some (r1, r2) := h
  clear h
  replace H := Option.bind_eq_some_iff.mp H
  obtain ⟨⟨t149, t150⟩, A30, H⟩ := H
  replace H : (some (t149, t150)) = some (r1, r2) := H
  have A3 := Aside0.mk A30
  clear A30
  simp only [Option.some.injEq, Prod.mk.injEq] at H
  obtain ⟨rfl, rfl⟩ := H
  go_enter Tryd.func57, Tryd.ntmps57
  go_wp2_with (first | ((with_reducible refine gate_callee (f := 65) rfl ?_); refine goesL_ (some 8) rfl rfl Tryd.func65 (by kernel_rfl) rfl #[.string a0, .string a1] rfl (by (try simp only [List.map_toArray, List.map_cons, List.map_nil]); first | done | rfl | (simp only [List.length_drop, List.length_take]; rfl)) ?_; (with_reducible refine (stringslite_CutPrefix.calls a0 a1 t149 t150 _ A3.out).mono ?_); rintro e w' ⟨rfl, ⟨nd, rfl⟩⟩; refine ⟨_, rfl, ?_⟩))
  go_ret2
  exact ⟨by first | rfl | (simp; done) | (simp [*]; done), by repeat (first | exact Drawn0.refl _ | apply Drawn0.step)⟩

/-! ### bom_Strip: function 49 -/
def bom_Strip.f (a0 : ByteArray) : Option (ByteArray × Bool) := (strings_CutPrefix.f a0 (⟨#[239, 187, 191]⟩ : ByteArray)).bind fun bt151 => (some (bt151.1, bt151.2))
set_option maxHeartbeats 8000000 in
set_option maxRecDepth 100000 in
theorem bom_Strip.calls (a0 : ByteArray) (r1 : ByteArray) (r2 : Bool) (w : World) (h : bom_Strip.f a0 = some (r1, r2)) :
    Calls Tryd.prog 49 #[.string a0] w fun e w' => e = .returned (.tuple #[.string r1, .bool r2]) ∧ Drawn0 w w' := by
  have H : ((strings_CutPrefix.f a0 (⟨#[239, 187, 191]⟩ : ByteArray)).bind fun bt151 => (some (bt151.1, bt151.2))) = some (r1, r2) := h
  clear h
  replace H := Option.bind_eq_some_iff.mp H
  obtain ⟨⟨t151, t152⟩, A20, H⟩ := H
  replace H : (some (t151, t152)) = some (r1, r2) := H
  have A2 := Aside0.mk A20
  clear A20
  simp only [Option.some.injEq, Prod.mk.injEq] at H
  obtain ⟨rfl, rfl⟩ := H
  go_enter Tryd.func49, Tryd.ntmps49
  go_wp2_with (first | ((with_reducible refine gate_callee (f := 57) rfl ?_); refine goesL_ (some 5) rfl rfl Tryd.func57 (by kernel_rfl) rfl #[.string a0, .string (⟨#[239, 187, 191]⟩ : ByteArray)] rfl (by (try simp only [List.map_toArray, List.map_cons, List.map_nil]); first | done | rfl | (simp only [List.length_drop, List.length_take]; rfl)) ?_; (with_reducible refine (strings_CutPrefix.calls a0 (⟨#[239, 187, 191]⟩ : ByteArray) t151 t152 _ A2.out).mono ?_); rintro e w' ⟨rfl, ⟨nd, rfl⟩⟩; refine ⟨_, rfl, ?_⟩))
  go_ret2
  exact ⟨by first | rfl | (simp; done) | (simp [*]; done), by repeat (first | exact Drawn0.refl _ | apply Drawn0.step)⟩

/-! ### scan_Close: function 30 -/
def scan_Close.f (a0 : Int) : Option (Bool × Bool × Bool × Bool × Bool × Int × Int) := if a0 = 0 then (some (false, false, false, false, false, 0, 0)) else (if a0 = 3 then (some (false, false, false, false, false, 0, 11)) else (if a0 = 5 then (some (false, false, false, false, false, 0, 6)) else (if a0 = 6 then (some (false, false, false, false, false, 0, 6)) else (some (false, false, false, true, true, 0, 0)))))
set_option maxHeartbeats 8000000 in
set_option maxRecDepth 100000 in
theorem scan_Close.calls (a0 : Int) (r1 : Bool) (r2 : Bool) (r3 : Bool) (r4 : Bool) (r5 : Bool) (r6 : Int) (r7 : Int) (w : World) (h : scan_Close.f a0 = some (r1, r2, r3, r4, r5, r6, r7)) :
    Calls Tryd.prog 30 #[.int .i64 a0] w fun e w' => e = .returned (.tuple #[.agg #[.bool r1, .bool r2, .bool r3, .bool r4, .bool r5, .int .u8 r6], .int .i64 r7]) ∧ Below w.heap.size w w' := by
  have hu77 := Tryd.underlying77
  have HB := Aside0.mk (Below.refl w.heap.size w)
  have H : (if a0 = 0 then (some (false, false, false, false, false, 0, 0)) else (if a0 = 3 then (some (false, false, false, false, false, 0, 11)) else (if a0 = 5 then (some (false, false, false, false, false, 0, 6)) else (if a0 = 6 then (some (false, false, false, false, false, 0, 6)) else (some (false, false, false, true, true, 0, 0)))))) = some (r1, r2, r3, r4, r5, r6, r7) := h
  clear h
  by_cases c2 : a0 = 0
  · rw [if_pos c2] at H
    have c2b0 : (a0 == 0) = true := beq_iff_eq.mpr c2
    have c2b1 : (a0 != 0) = false := bne_eq_false_iff_eq.mpr c2
    clear c2
    simp only [Option.some.injEq, Prod.mk.injEq] at H
    obtain ⟨rfl, rfl, rfl, rfl, rfl, rfl, rfl⟩ := H
    go_enter Tryd.func30, Tryd.ntmps30
    go_wp2_with (first | ((with_reducible refine gate_dst (N := 2) rfl ?_); refine box_event ?hg (N := 2) ?hd (cs := #[.bool false, .bool false, .bool false, .bool false, .bool false, .int .u8 0]) (t := 77) ?hr ?_; (case hd => rfl); (case hg => rfl); (case hr => first | (go_simp; done) | (go_simp; rfl)); intro gb153 hg w3 hbox hb; have n0_ := Aside0.mk (below_step (by repeat (first | (with_reducible first | exact HB.out | apply below_alloc | apply pw_below_drewN | apply below_drew1) | exact HB.out)) hb); have n1_ := Aside0.mk (hbox); have n2_ := Aside0.mk ((by rw [hg]; exact (below_size (by repeat (first | (with_reducible first | exact HB.out | apply below_alloc | apply pw_below_drewN | apply below_drew1) | exact HB.out))) : w.heap.size ≤ gb153)); have n3_ := Aside0.mk ((by rw [hg]; exact (below_size (by repeat (first | (with_reducible first | exact HB.out | apply below_alloc | apply pw_below_drewN | apply below_drew1) | exact HB.out))) : w.heap.size ≤ gb153)); clear HB; have HB := n0_; have BK153 := n1_; have GW153 := n2_; have GE153 := n3_; clear n0_ n1_ n2_ n3_; clear hb hbox hg; have hcz4_0 : w3.cell? ⟨gb153, 0, none⟩ = some (.bool false) := (blk_cell BK153.out 0).trans rfl; have hcz4_1 : w3.cell? ⟨gb153, 1, none⟩ = some (.bool false) := (blk_cell BK153.out 1).trans rfl; have hcz4_2 : w3.cell? ⟨gb153, 2, none⟩ = some (.bool false) := (blk_cell BK153.out 2).trans rfl; have hcz4_3 : w3.cell? ⟨gb153, 3, none⟩ = some (.bool false) := (blk_cell BK153.out 3).trans rfl; have hcz4_4 : w3.cell? ⟨gb153, 4, none⟩ = some (.bool false) := (blk_cell BK153.out 4).trans rfl; have hcz4_5 : w3.cell? ⟨gb153, 5, none⟩ = some (.int .u8 0) := (blk_cell BK153.out 5).trans rfl; have hfz4_0 := blk_frozen BK153.out 0; have hfz4_1 := blk_frozen BK153.out 1; have hfz4_2 := blk_frozen BK153.out 2; have hfz4_3 := blk_frozen BK153.out 3; have hfz4_4 := blk_frozen BK153.out 4; have hfz4_5 := blk_frozen BK153.out 5))
    refine bodyPost_ret (results_ct rfl _ _ gb153 77 #[.bool false, .bool false, .bool false, .bool false, .bool false, .int .u8 0] (0, 0) _ rfl (by (with_reducible repeat (first | refine blk_drewN ?_ _ | refine blk_drew ?_ | refine blk_alloc ?_ _)); refine blk_put (cs := #[.bool false, .bool false, .bool false, .bool false, .bool false, .int .u8 0]) ?_ 5 _ rfl; (with_reducible repeat (first | refine blk_drewN ?_ _ | refine blk_drew ?_ | refine blk_alloc ?_ _)); refine blk_put (cs := #[.bool false, .bool false, .bool false, .bool false, .bool false, .int .u8 0]) ?_ 4 _ rfl; (with_reducible repeat (first | refine blk_drewN ?_ _ | refine blk_drew ?_ | refine blk_alloc ?_ _)); refine blk_put (cs := #[.bool false, .bool false, .bool false, .bool false, .bool false, .int .u8 0]) ?_ 3 _ rfl; (with_reducible repeat (first | refine blk_drewN ?_ _ | refine blk_drew ?_ | refine blk_alloc ?_ _)); refine blk_put (cs := #[.bool false, .bool false, .bool false, .bool false, .bool false, .int .u8 0]) ?_ 2 _ rfl; (with_reducible repeat (first | refine blk_drewN ?_ _ | refine blk_drew ?_ | refine blk_alloc ?_ _)); refine blk_put (cs := #[.bool false, .bool false, .bool false, .bool false, .bool false, .int .u8 0]) ?_ 1 _ rfl; (with_reducible repeat (first | refine blk_drewN ?_ _ | refine blk_drew ?_ | refine blk_alloc ?_ _)); refine blk_put (cs := #[.bool false, .bool false, .bool false, .bool false, .bool false, .int .u8 0]) ?_ 0 _ rfl; (with_reducible repeat (first | refine blk_drewN ?_ _ | refine blk_drew ?_ | refine blk_alloc ?_ _)); exact BK153.out) Tryd.underlying77 rfl (by kernel_rfl)) rfl ?_
    exact ⟨by first | rfl | (simp [errW_none, errW_some] <;> rfl) | (simp [*, errW_none, errW_some] <;> rfl), by repeat (first | (with_reducible first | exact HB.out | apply below_alloc | apply pw_below_drewN | apply below_drew1 | refine below_set ?_ GE153.out) | exact HB.out)⟩
  · rw [if_neg c2] at H
    have c2b0 : (a0 == 0) = false := beq_eq_false_iff_ne.mpr c2
    have c2b1 : (a0 != 0) = true := bne_iff_ne.mpr c2
    by_cases c5 : a0 = 3
    · rw [if_pos c5] at H
      have c5b0 : (a0 == 3) = true := beq_iff_eq.mpr c5
      have c5b1 : (a0 != 3) = false := bne_eq_false_iff_eq.mpr c5
      clear c5
      simp only [Option.some.injEq, Prod.mk.injEq] at H
      obtain ⟨rfl, rfl, rfl, rfl, rfl, rfl, rfl⟩ := H
      go_enter Tryd.func30, Tryd.ntmps30
      go_wp2_with (first | ((with_reducible refine gate_dst (N := 2) rfl ?_); refine box_event ?hg (N := 2) ?hd (cs := #[.bool false, .bool false, .bool false, .bool false, .bool false, .int .u8 0]) (t := 77) ?hr ?_; (case hd => rfl); (case hg => rfl); (case hr => first | (go_simp; done) | (go_simp; rfl)); intro gb153 hg w6 hbox hb; have n0_ := Aside0.mk (below_step (by repeat (first | (with_reducible first | exact HB.out | apply below_alloc | apply pw_below_drewN | apply below_drew1) | exact HB.out)) hb); have n1_ := Aside0.mk (hbox); have n2_ := Aside0.mk ((by rw [hg]; exact (below_size (by repeat (first | (with_reducible first | exact HB.out | apply below_alloc | apply pw_below_drewN | apply below_drew1) | exact HB.out))) : w.heap.size ≤ gb153)); have n3_ := Aside0.mk ((by rw [hg]; exact (below_size (by repeat (first | (with_reducible first | exact HB.out | apply below_alloc | apply pw_below_drewN | apply below_drew1) | exact HB.out))) : w.heap.size ≤ gb153)); clear HB; have HB := n0_; have BK153 := n1_; have GW153 := n2_; have GE153 := n3_; clear n0_ n1_ n2_ n3_; clear hb hbox hg; have hcz7_0 : w6.cell? ⟨gb153, 0, none⟩ = some (.bool false) := (blk_cell BK153.out 0).trans rfl; have hcz7_1 : w6.cell? ⟨gb153, 1, none⟩ = some (.bool false) := (blk_cell BK153.out 1).trans rfl; have hcz7_2 : w6.cell? ⟨gb153, 2, none⟩ = some (.bool false) := (blk_cell BK153.out 2).trans rfl; have hcz7_3 : w6.cell? ⟨gb153, 3, none⟩ = some (.bool false) := (blk_cell BK153.out 3).trans rfl; have hcz7_4 : w6.cell? ⟨gb153, 4, none⟩ = some (.bool false) := (blk_cell BK153.out 4).trans rfl; have hcz7_5 : w6.cell? ⟨gb153, 5, none⟩ = some (.int .u8 0) := (blk_cell BK153.out 5).trans rfl; have hfz7_0 := blk_frozen BK153.out 0; have hfz7_1 := blk_frozen BK153.out 1; have hfz7_2 := blk_frozen BK153.out 2; have hfz7_3 := blk_frozen BK153.out 3; have hfz7_4 := blk_frozen BK153.out 4; have hfz7_5 := blk_frozen BK153.out 5))
      refine bodyPost_ret (results_ct rfl _ _ gb153 77 #[.bool false, .bool false, .bool false, .bool false, .bool false, .int .u8 0] (0, 0) _ rfl (by (with_reducible repeat (first | refine blk_drewN ?_ _ | refine blk_drew ?_ | refine blk_alloc ?_ _)); refine blk_put (cs := #[.bool false, .bool false, .bool false, .bool false, .bool false, .int .u8 0]) ?_ 5 _ rfl; (with_reducible repeat (first | refine blk_drewN ?_ _ | refine blk_drew ?_ | refine blk_alloc ?_ _)); refine blk_put (cs := #[.bool false, .bool false, .bool false, .bool false, .bool false, .int .u8 0]) ?_ 4 _ rfl; (with_reducible repeat (first | refine blk_drewN ?_ _ | refine blk_drew ?_ | refine blk_alloc ?_ _)); refine blk_put (cs := #[.bool false, .bool false, .bool false, .bool false, .bool false, .int .u8 0]) ?_ 3 _ rfl; (with_reducible repeat (first | refine blk_drewN ?_ _ | refine blk_drew ?_ | refine blk_alloc ?_ _)); refine blk_put (cs := #[.bool false, .bool false, .bool false, .bool false, .bool false, .int .u8 0]) ?_ 2 _ rfl; (with_reducible repeat (first | refine blk_drewN ?_ _ | refine blk_drew ?_ | refine blk_alloc ?_ _)); refine blk_put (cs := #[.bool false, .bool false, .bool false, .bool false, .bool false, .int .u8 0]) ?_ 1 _ rfl; (with_reducible repeat (first | refine blk_drewN ?_ _ | refine blk_drew ?_ | refine blk_alloc ?_ _)); refine blk_put (cs := #[.bool false, .bool false, .bool false, .bool false, .bool false, .int .u8 0]) ?_ 0 _ rfl; (with_reducible repeat (first | refine blk_drewN ?_ _ | refine blk_drew ?_ | refine blk_alloc ?_ _)); exact BK153.out) Tryd.underlying77 rfl (by kernel_rfl)) rfl ?_
      exact ⟨by first | rfl | (simp [errW_none, errW_some] <;> rfl) | (simp [*, errW_none, errW_some] <;> rfl), by repeat (first | (with_reducible first | exact HB.out | apply below_alloc | apply pw_below_drewN | apply below_drew1 | refine below_set ?_ GE153.out) | exact HB.out)⟩
    · rw [if_neg c5] at H
      have c5b0 : (a0 == 3) = false := beq_eq_false_iff_ne.mpr c5
      have c5b1 : (a0 != 3) = true := bne_iff_ne.mpr c5
      by_cases c8 : a0 = 5
      · rw [if_pos c8] at H
        have c8b0 : (a0 == 5) = true := beq_iff_eq.mpr c8
        have c8b1 : (a0 != 5) = false := bne_eq_false_iff_eq.mpr c8
        clear c8
        simp only [Option.some.injEq, Prod.mk.injEq] at H
        obtain ⟨rfl, rfl, rfl, rfl, rfl, rfl, rfl⟩ := H
        go_enter Tryd.func30, Tryd.ntmps30
        go_wp2_with (first | ((with_reducible refine gate_dst (N := 2) rfl ?_); refine box_event ?hg (N := 2) ?hd (cs := #[.bool false, .bool false, .bool false, .bool false, .bool false, .int .u8 0]) (t := 77) ?hr ?_; (case hd => rfl); (case hg => rfl); (case hr => first | (go_simp; done) | (go_simp; rfl)); intro gb153 hg w9 hbox hb; have n0_ := Aside0.mk (below_step (by repeat (first | (with_reducible first | exact HB.out | apply below_alloc | apply pw_below_drewN | apply below_drew1) | exact HB.out)) hb); have n1_ := Aside0.mk (hbox); have n2_ := Aside0.mk ((by rw [hg]; exact (below_size (by repeat (first | (with_reducible first | exact HB.out | apply below_alloc | apply pw_below_drewN | apply below_drew1) | exact HB.out))) : w.heap.size ≤ gb153)); have n3_ := Aside0.mk ((by rw [hg]; exact (below_size (by repeat (first | (with_reducible first | exact HB.out | apply below_alloc | apply pw_below_drewN | apply below_drew1) | exact HB.out))) : w.heap.size ≤ gb153)); clear HB; have HB := n0_; have BK153 := n1_; have GW153 := n2_; have GE153 := n3_; clear n0_ n1_ n2_ n3_; clear hb hbox hg; have hcz10_0 : w9.cell? ⟨gb153, 0, none⟩ = some (.bool false) := (blk_cell BK153.out 0).trans rfl; have hcz10_1 : w9.cell? ⟨gb153, 1, none⟩ = some (.bool false) := (blk_cell BK153.out 1).trans rfl; have hcz10_2 : w9.cell? ⟨gb153, 2, none⟩ = some (.bool false) := (blk_cell BK153.out 2).trans rfl; have hcz10_3 : w9.cell? ⟨gb153, 3, none⟩ = some (.bool false) := (blk_cell BK153.out 3).trans rfl; have hcz10_4 : w9.cell? ⟨gb153, 4, none⟩ = some (.bool false) := (blk_cell BK153.out 4).trans rfl; have hcz10_5 : w9.cell? ⟨gb153, 5, none⟩ = some (.int .u8 0) := (blk_cell BK153.out 5).trans rfl; have hfz10_0 := blk_frozen BK153.out 0; have hfz10_1 := blk_frozen BK153.out 1; have hfz10_2 := blk_frozen BK153.out 2; have hfz10_3 := blk_frozen BK153.out 3; have hfz10_4 := blk_frozen BK153.out 4; have hfz10_5 := blk_frozen BK153.out 5))
        refine bodyPost_ret (results_ct rfl _ _ gb153 77 #[.bool false, .bool false, .bool false, .bool false, .bool false, .int .u8 0] (0, 0) _ rfl (by (with_reducible repeat (first | refine blk_drewN ?_ _ | refine blk_drew ?_ | refine blk_alloc ?_ _)); refine blk_put (cs := #[.bool false, .bool false, .bool false, .bool false, .bool false, .int .u8 0]) ?_ 5 _ rfl; (with_reducible repeat (first | refine blk_drewN ?_ _ | refine blk_drew ?_ | refine blk_alloc ?_ _)); refine blk_put (cs := #[.bool false, .bool false, .bool false, .bool false, .bool false, .int .u8 0]) ?_ 4 _ rfl; (with_reducible repeat (first | refine blk_drewN ?_ _ | refine blk_drew ?_ | refine blk_alloc ?_ _)); refine blk_put (cs := #[.bool false, .bool false, .bool false, .bool false, .bool false, .int .u8 0]) ?_ 3 _ rfl; (with_reducible repeat (first | refine blk_drewN ?_ _ | refine blk_drew ?_ | refine blk_alloc ?_ _)); refine blk_put (cs := #[.bool false, .bool false, .bool false, .bool false, .bool false, .int .u8 0]) ?_ 2 _ rfl; (with_reducible repeat (first | refine blk_drewN ?_ _ | refine blk_drew ?_ | refine blk_alloc ?_ _)); refine blk_put (cs := #[.bool false, .bool false, .bool false, .bool false, .bool false, .int .u8 0]) ?_ 1 _ rfl; (with_reducible repeat (first | refine blk_drewN ?_ _ | refine blk_drew ?_ | refine blk_alloc ?_ _)); refine blk_put (cs := #[.bool false, .bool false, .bool false, .bool false, .bool false, .int .u8 0]) ?_ 0 _ rfl; (with_reducible repeat (first | refine blk_drewN ?_ _ | refine blk_drew ?_ | refine blk_alloc ?_ _)); exact BK153.out) Tryd.underlying77 rfl (by kernel_rfl)) rfl ?_
        exact ⟨by first | rfl | (simp [errW_none, errW_some] <;> rfl) | (simp [*, errW_none, errW_some] <;> rfl), by repeat (first | (with_reducible first | exact HB.out | apply below_alloc | apply pw_below_drewN | apply below_drew1 | refine below_set ?_ GE153.out) | exact HB.out)⟩
      · rw [if_neg c8] at H
        have c8b0 : (a0 == 5) = false := beq_eq_false_iff_ne.mpr c8
        have c8b1 : (a0 != 5) = true := bne_iff_ne.mpr c8
        by_cases c11 : a0 = 6
        · rw [if_pos c11] at H
          have c11b0 : (a0 == 6) = true := beq_iff_eq.mpr c11
          have c11b1 : (a0 != 6) = false := bne_eq_false_iff_eq.mpr c11
          clear c11
          simp only [Option.some.injEq, Prod.mk.injEq] at H
          obtain ⟨rfl, rfl, rfl, rfl, rfl, rfl, rfl⟩ := H
          go_enter Tryd.func30, Tryd.ntmps30
          go_wp2_with (first | ((with_reducible refine gate_dst (N := 2) rfl ?_); refine box_event ?hg (N := 2) ?hd (cs := #[.bool false, .bool false, .bool false, .bool false, .bool false, .int .u8 0]) (t := 77) ?hr ?_; (case hd => rfl); (case hg => rfl); (case hr => first | (go_simp; done) | (go_simp; rfl)); intro gb153 hg w12 hbox hb; have n0_ := Aside0.mk (below_step (by repeat (first | (with_reducible first | exact HB.out | apply below_alloc | apply pw_below_drewN | apply below_drew1) | exact HB.out)) hb); have n1_ := Aside0.mk (hbox); have n2_ := Aside0.mk ((by rw [hg]; exact (below_size (by repeat (first | (with_reducible first | exact HB.out | apply below_alloc | apply pw_below_drewN | apply below_drew1) | exact HB.out))) : w.heap.size ≤ gb153)); have n3_ := Aside0.mk ((by rw [hg]; exact (below_size (by repeat (first | (with_reducible first | exact HB.out | apply below_alloc | apply pw_below_drewN | apply below_drew1) | exact HB.out))) : w.heap.size ≤ gb153)); clear HB; have HB := n0_; have BK153 := n1_; have GW153 := n2_; have GE153 := n3_; clear n0_ n1_ n2_ n3_; clear hb hbox hg; have hcz13_0 : w12.cell? ⟨gb153, 0, none⟩ = some (.bool false) := (blk_cell BK153.out 0).trans rfl; have hcz13_1 : w12.cell? ⟨gb153, 1, none⟩ = some (.bool false) := (blk_cell BK153.out 1).trans rfl; have hcz13_2 : w12.cell? ⟨gb153, 2, none⟩ = some (.bool false) := (blk_cell BK153.out 2).trans rfl; have hcz13_3 : w12.cell? ⟨gb153, 3, none⟩ = some (.bool false) := (blk_cell BK153.out 3).trans rfl; have hcz13_4 : w12.cell? ⟨gb153, 4, none⟩ = some (.bool false) := (blk_cell BK153.out 4).trans rfl; have hcz13_5 : w12.cell? ⟨gb153, 5, none⟩ = some (.int .u8 0) := (blk_cell BK153.out 5).trans rfl; have hfz13_0 := blk_frozen BK153.out 0; have hfz13_1 := blk_frozen BK153.out 1; have hfz13_2 := blk_frozen BK153.out 2; have hfz13_3 := blk_frozen BK153.out 3; have hfz13_4 := blk_frozen BK153.out 4; have hfz13_5 := blk_frozen BK153.out 5))
          refine bodyPost_ret (results_ct rfl _ _ gb153 77 #[.bool false, .bool false, .bool false, .bool false, .bool false, .int .u8 0] (0, 0) _ rfl (by (with_reducible repeat (first | refine blk_drewN ?_ _ | refine blk_drew ?_ | refine blk_alloc ?_ _)); refine blk_put (cs := #[.bool false, .bool false, .bool false, .bool false, .bool false, .int .u8 0]) ?_ 5 _ rfl; (with_reducible repeat (first | refine blk_drewN ?_ _ | refine blk_drew ?_ | refine blk_alloc ?_ _)); refine blk_put (cs := #[.bool false, .bool false, .bool false, .bool false, .bool false, .int .u8 0]) ?_ 4 _ rfl; (with_reducible repeat (first | refine blk_drewN ?_ _ | refine blk_drew ?_ | refine blk_alloc ?_ _)); refine blk_put (cs := #[.bool false, .bool false, .bool false, .bool false, .bool false, .int .u8 0]) ?_ 3 _ rfl; (with_reducible repeat (first | refine blk_drewN ?_ _ | refine blk_drew ?_ | refine blk_alloc ?_ _)); refine blk_put (cs := #[.bool false, .bool false, .bool false, .bool false, .bool false, .int .u8 0]) ?_ 2 _ rfl; (with_reducible repeat (first | refine blk_drewN ?_ _ | refine blk_drew ?_ | refine blk_alloc ?_ _)); refine blk_put (cs := #[.bool false, .bool false, .bool false, .bool false, .bool false, .int .u8 0]) ?_ 1 _ rfl; (with_reducible repeat (first | refine blk_drewN ?_ _ | refine blk_drew ?_ | refine blk_alloc ?_ _)); refine blk_put (cs := #[.bool false, .bool false, .bool false, .bool false, .bool false, .int .u8 0]) ?_ 0 _ rfl; (with_reducible repeat (first | refine blk_drewN ?_ _ | refine blk_drew ?_ | refine blk_alloc ?_ _)); exact BK153.out) Tryd.underlying77 rfl (by kernel_rfl)) rfl ?_
          exact ⟨by first | rfl | (simp [errW_none, errW_some] <;> rfl) | (simp [*, errW_none, errW_some] <;> rfl), by repeat (first | (with_reducible first | exact HB.out | apply below_alloc | apply pw_below_drewN | apply below_drew1 | refine below_set ?_ GE153.out) | exact HB.out)⟩
        · rw [if_neg c11] at H
          have c11b0 : (a0 == 6) = false := beq_eq_false_iff_ne.mpr c11
          have c11b1 : (a0 != 6) = true := bne_iff_ne.mpr c11
          simp only [Option.some.injEq, Prod.mk.injEq] at H
          obtain ⟨rfl, rfl, rfl, rfl, rfl, rfl, rfl⟩ := H
          go_enter Tryd.func30, Tryd.ntmps30
          go_wp2_with (first | ((with_reducible refine gate_dst (N := 2) rfl ?_); refine box_event ?hg (N := 2) ?hd (cs := #[.bool false, .bool false, .bool false, .bool false, .bool false, .int .u8 0]) (t := 77) ?hr ?_; (case hd => rfl); (case hg => rfl); (case hr => first | (go_simp; done) | (go_simp; rfl)); intro gb153 hg w14 hbox hb; have n0_ := Aside0.mk (below_step (by repeat (first | (with_reducible first | exact HB.out | apply below_alloc | apply pw_below_drewN | apply below_drew1) | exact HB.out)) hb); have n1_ := Aside0.mk (hbox); have n2_ := Aside0.mk ((by rw [hg]; exact (below_size (by repeat (first | (with_reducible first | exact HB.out | apply below_alloc | apply pw_below_drewN | apply below_drew1) | exact HB.out))) : w.heap.size ≤ gb153)); have n3_ := Aside0.mk ((by rw [hg]; exact (below_size (by repeat (first | (with_reducible first | exact HB.out | apply below_alloc | apply pw_below_drewN | apply below_drew1) | exact HB.out))) : w.heap.size ≤ gb153)); clear HB; have HB := n0_; have BK153 := n1_; have GW153 := n2_; have GE153 := n3_; clear n0_ n1_ n2_ n3_; clear hb hbox hg; have hcz15_0 : w14.cell? ⟨gb153, 0, none⟩ = some (.bool false) := (blk_cell BK153.out 0).trans rfl; have hcz15_1 : w14.cell? ⟨gb153, 1, none⟩ = some (.bool false) := (blk_cell BK153.out 1).trans rfl; have hcz15_2 : w14.cell? ⟨gb153, 2, none⟩ = some (.bool false) := (blk_cell BK153.out 2).trans rfl; have hcz15_3 : w14.cell? ⟨gb153, 3, none⟩ = some (.bool false) := (blk_cell BK153.out 3).trans rfl; have hcz15_4 : w14.cell? ⟨gb153, 4, none⟩ = some (.bool false) := (blk_cell BK153.out 4).trans rfl; have hcz15_5 : w14.cell? ⟨gb153, 5, none⟩ = some (.int .u8 0) := (blk_cell BK153.out 5).trans rfl; have hfz15_0 := blk_frozen BK153.out 0; have hfz15_1 := blk_frozen BK153.out 1; have hfz15_2 := blk_frozen BK153.out 2; have hfz15_3 := blk_frozen BK153.out 3; have hfz15_4 := blk_frozen BK153.out 4; have hfz15_5 := blk_frozen BK153.out 5))
          refine bodyPost_ret (results_ct rfl _ _ gb153 77 #[.bool false, .bool false, .bool false, .bool true, .bool true, .int .u8 0] (0, 0) _ rfl (by (with_reducible repeat (first | refine blk_drewN ?_ _ | refine blk_drew ?_ | refine blk_alloc ?_ _)); refine blk_put (cs := #[.bool false, .bool false, .bool false, .bool true, .bool true, .int .u8 0]) ?_ 5 _ rfl; (with_reducible repeat (first | refine blk_drewN ?_ _ | refine blk_drew ?_ | refine blk_alloc ?_ _)); refine blk_put (cs := #[.bool false, .bool false, .bool false, .bool true, .bool false, .int .u8 0]) ?_ 4 _ rfl; (with_reducible repeat (first | refine blk_drewN ?_ _ | refine blk_drew ?_ | refine blk_alloc ?_ _)); refine blk_put (cs := #[.bool false, .bool false, .bool false, .bool false, .bool false, .int .u8 0]) ?_ 3 _ rfl; (with_reducible repeat (first | refine blk_drewN ?_ _ | refine blk_drew ?_ | refine blk_alloc ?_ _)); refine blk_put (cs := #[.bool false, .bool false, .bool false, .bool false, .bool false, .int .u8 0]) ?_ 2 _ rfl; (with_reducible repeat (first | refine blk_drewN ?_ _ | refine blk_drew ?_ | refine blk_alloc ?_ _)); refine blk_put (cs := #[.bool false, .bool false, .bool false, .bool false, .bool false, .int .u8 0]) ?_ 1 _ rfl; (with_reducible repeat (first | refine blk_drewN ?_ _ | refine blk_drew ?_ | refine blk_alloc ?_ _)); refine blk_put (cs := #[.bool false, .bool false, .bool false, .bool false, .bool false, .int .u8 0]) ?_ 0 _ rfl; (with_reducible repeat (first | refine blk_drewN ?_ _ | refine blk_drew ?_ | refine blk_alloc ?_ _)); exact BK153.out) Tryd.underlying77 rfl (by kernel_rfl)) rfl ?_
          exact ⟨by first | rfl | (simp [errW_none, errW_some] <;> rfl) | (simp [*, errW_none, errW_some] <;> rfl), by repeat (first | (with_reducible first | exact HB.out | apply below_alloc | apply pw_below_drewN | apply below_drew1 | refine below_set ?_ GE153.out) | exact HB.out)⟩

-- NOT PRINTED: function 50 (whole_end)

-- NOT PRINTED: function 38 (whole_walk)

-- NOT PRINTED: function 21 (whole_Parse)

-- NOT PRINTED: function 7 (quillpentop_alive)

/-- A state of type 98 at block g of W; what its slices lead to came in by w0. -/
def IsS98 (w0 W : World) (g : Nat) (f0 : Int) (f1 : Bool) (f2 : Bool) (f3 : Bool) : Prop := W.heap[g]? = some (.cells #[.int .i64 f0, .bool f1, .bool f2, .bool f3] 98 (0, 0)) ∧ w0.heap.size ≤ g
theorem IsS98.grown {w0 W : World} {g : Nat} {f0 : Int} {f1 : Bool} {f2 : Bool} {f3 : Bool} {W1 : World} {row : Option Nat} (h : IsS98 w0 W g f0 f1 f2 f3) (hw : W.grownBy W1 row) (hne : some g ≠ row) : IsS98 w0 W1 g f0 f1 f2 f3 := by
  obtain ⟨hb, hg⟩ := h
  exact ⟨blk_grown hb hw hne, hg⟩
theorem IsS98.own_neN {w0 W : World} {g : Nat} {f0 : Int} {f1 : Bool} {f2 : Bool} {f3 : Bool} {α : Type} {d : Kd α} {e : Nat} {base : Nat} {ok : Nat → Prop} {v : Value} {xs : List α} (h : IsS98 w0 W g f0 f1 f2 f3) (ho : Kd.N d e W base ok v xs) (ht : e ≠ 98) : some g ≠ v.ownBlock := by
  obtain ⟨hb, hg⟩ := h
  exact Kd.N_ne ho hb ht
theorem IsS98.fresh {w0 W : World} {g : Nat} {f0 : Int} {f1 : Bool} {f2 : Bool} {f3 : Bool} (h : IsS98 w0 W g f0 f1 f2 f3) : ∀ k, W.heap.size ≤ k → k ≠ g := by
  obtain ⟨hb, hg⟩ := h
  exact Kd.freshB hb
theorem IsS98.kept {w0 W : World} {g : Nat} {f0 : Int} {f1 : Bool} {f2 : Bool} {f3 : Bool} {W1 : World} {S : Nat → Prop} (h : IsS98 w0 W g f0 f1 f2 f3) (hk : Kept W W1 S) (hne : ¬ S g) : IsS98 w0 W1 g f0 f1 f2 f3 := by
  obtain ⟨hb, hg⟩ := h
  exact ⟨blk_kept hb hk hne, hg⟩
theorem IsS98.below {w0 W : World} {g : Nat} {f0 : Int} {f1 : Bool} {f2 : Bool} {f3 : Bool} {W1 : World} (h : IsS98 w0 W g f0 f1 f2 f3) (hw : Below W.heap.size W W1) : IsS98 w0 W1 g f0 f1 f2 f3 := h.grown (grown_of_below hw none) (by simp)
theorem IsS98.alloc {w0 W : World} {g : Nat} {f0 : Int} {f1 : Bool} {f2 : Bool} {f3 : Bool} (h : IsS98 w0 W g f0 f1 f2 f3) (o : Obj) : IsS98 w0 (W.alloc o) g f0 f1 f2 f3 := h.below (below_alloc (Below.refl _ _) o)
theorem IsS98.drewN {w0 W : World} {g : Nat} {f0 : Int} {f1 : Bool} {f2 : Bool} {f3 : Bool} (h : IsS98 w0 W g f0 f1 f2 f3) (m : Nat) : IsS98 w0 (W.drewN m) g f0 f1 f2 f3 := h
theorem IsS98.drew {w0 W : World} {g : Nat} {f0 : Int} {f1 : Bool} {f2 : Bool} {f3 : Bool} (h : IsS98 w0 W g f0 f1 f2 f3) : IsS98 w0 W.drew g f0 f1 f2 f3 := h
theorem IsS98.at_ {w0 W : World} {g : Nat} {f0 : Int} {f1 : Bool} {f2 : Bool} {f3 : Bool} {w' : World} {m : Nat} (hq : W.drewN m = w') (h : IsS98 w0 W g f0 f1 f2 f3) : IsS98 w0 w' g f0 f1 f2 f3 := by subst hq; exact IsS98.drewN h m
theorem IsS98.apart {w0 W : World} {g : Nat} {f0 : Int} {f1 : Bool} {f2 : Bool} {f3 : Bool} {α : Type} {d : Kd α} {e : Nat} {base : Nat} {ok : Nat → Prop} {v : Value} {xs : List α} (h : IsS98 w0 W g f0 f1 f2 f3) (ho : d.R e W base ok v xs) (ht : ∀ q, q ∈ e :: d.E → q ≠ 98) : d.R e W base (fun k => ok k ∧ k ≠ g) v xs := by
  obtain ⟨hb, hg⟩ := h
  exact Kd.R_types ho hb ht
theorem IsS98.own_ne {w0 W : World} {g : Nat} {f0 : Int} {f1 : Bool} {f2 : Bool} {f3 : Bool} {α : Type} {d : Kd α} {e : Nat} {base : Nat} {ok : Nat → Prop} {v : Value} {xs : List α} (h : IsS98 w0 W g f0 f1 f2 f3) (ho : d.R e W base ok v xs) (ht : e ≠ 98) : some g ≠ v.ownBlock := by
  obtain ⟨hb, hg⟩ := h
  exact Kd.R_ne ho hb ht
theorem IsS98.apartQ {w0 W : World} {g : Nat} {f0 : Int} {f1 : Bool} {f2 : Bool} {f3 : Bool} {α : Type} {d : Kd α} {e : Nat} {base : Nat} {ok : Nat → Prop} {v : Value} {xs : List α} (h : IsS98 w0 W g f0 f1 f2 f3) (ho : d.Q e W base ok v xs) (ht : ∀ q, q ∈ e :: d.E → q ≠ 98) : d.Q e W base (fun k => ok k ∧ k ≠ g) v xs := by
  obtain ⟨hb, hg⟩ := h
  exact Kd.Q_types ho hb ht
theorem IsS98.own_neQ {w0 W : World} {g : Nat} {f0 : Int} {f1 : Bool} {f2 : Bool} {f3 : Bool} {α : Type} {d : Kd α} {e : Nat} {base : Nat} {ok : Nat → Prop} {v : Value} {xs : List α} (h : IsS98 w0 W g f0 f1 f2 f3) (ho : d.Q e W base ok v xs) (ht : e ≠ 98) : some g ≠ v.ownBlock := by
  obtain ⟨hb, hg⟩ := h
  exact Kd.Q_ne ho hb ht
theorem IsS98.apartS {w0 W : World} {g : Nat} {f0 : Int} {f1 : Bool} {f2 : Bool} {f3 : Bool} {α : Type} {d : Kd α} {e : Nat} {base : Nat} {ok : Nat → Prop} {v : Value} {xs : List α} (h : IsS98 w0 W g f0 f1 f2 f3) (ho : d.S e W base ok v xs) (ht : ∀ q, q ∈ e :: d.E → q ≠ 98) : d.S e W base (fun k => ok k ∧ k ≠ g) v xs := by
  obtain ⟨hb, hg⟩ := h
  exact Kd.S_types ho hb ht
theorem IsS98.own_neS {w0 W : World} {g : Nat} {f0 : Int} {f1 : Bool} {f2 : Bool} {f3 : Bool} {α : Type} {d : Kd α} {e : Nat} {base : Nat} {ok : Nat → Prop} {v : Value} {xs : List α} (h : IsS98 w0 W g f0 f1 f2 f3) (ho : d.S e W base ok v xs) (ht : e ≠ 98) : some g ≠ v.ownBlock := by
  obtain ⟨hb, hg⟩ := h
  exact Kd.S_ne ho hb ht
theorem IsS98.lt {w0 W : World} {g : Nat} {f0 : Int} {f1 : Bool} {f2 : Bool} {f3 : Bool} (h : IsS98 w0 W g f0 f1 f2 f3) : g < W.heap.size := by
  obtain ⟨hb, hg⟩ := h
  exact blk_lt hb
theorem IsS98.ge {w0 W : World} {g : Nat} {f0 : Int} {f1 : Bool} {f2 : Bool} {f3 : Bool} (h : IsS98 w0 W g f0 f1 f2 f3) : w0.heap.size ≤ g := by
  obtain ⟨hb, hg⟩ := h
  exact hg
theorem IsS98.ne_blk {w0 W : World} {g : Nat} {f0 : Int} {f1 : Bool} {f2 : Bool} {f3 : Bool} {a : Nat} {cs : Array Value} {t : TypeId} {fr : Nat × Nat} (h : IsS98 w0 W g f0 f1 f2 f3) (hb2 : W.heap[a]? = some (.cells cs t fr)) (ht : t ≠ 98) : g ≠ a := by
  obtain ⟨hb, hg⟩ := h
  rintro rfl
  rw [hb] at hb2
  injection hb2 with hb2
  injection hb2 with _ ht2
  exact ht ht2.symm
theorem IsS98.far {w0 W : World} {g : Nat} {f0 : Int} {f1 : Bool} {f2 : Bool} {f3 : Bool} {p : Addr} (h : IsS98 w0 W g f0 f1 f2 f3) (hne : g ≠ p.block) (u : Value) : IsS98 w0 (W.setCell p u) g f0 f1 f2 f3 := by
  obtain ⟨hb, hg⟩ := h
  exact ⟨blk_far hb hne u, hg⟩
theorem cellS98_0 {W : World} {g : Nat} {f0 : Int} {f1 : Bool} {f2 : Bool} {f3 : Bool} (h : W.heap[g]? = some (.cells #[.int .i64 f0, .bool f1, .bool f2, .bool f3] 98 (0, 0))) : W.cell? ⟨g, 0, none⟩ = some (.int .i64 f0) := (blk_cell h 0).trans rfl
theorem IsS98.set_0 {w0 W : World} {g : Nat} {f0 : Int} {f1 : Bool} {f2 : Bool} {f3 : Bool} (h : IsS98 w0 W g f0 f1 f2 f3) (x : Int) : IsS98 w0 (W.setCell ⟨g, 0, none⟩ (.int .i64 x)) g x f1 f2 f3 := by
  obtain ⟨hb, hg⟩ := h
  exact ⟨by simpa using blk_set hb 0 (.int .i64 x), hg⟩
theorem cellS98_1 {W : World} {g : Nat} {f0 : Int} {f1 : Bool} {f2 : Bool} {f3 : Bool} (h : W.heap[g]? = some (.cells #[.int .i64 f0, .bool f1, .bool f2, .bool f3] 98 (0, 0))) : W.cell? ⟨g, 1, none⟩ = some (.bool f1) := (blk_cell h 1).trans rfl
theorem IsS98.set_1 {w0 W : World} {g : Nat} {f0 : Int} {f1 : Bool} {f2 : Bool} {f3 : Bool} (h : IsS98 w0 W g f0 f1 f2 f3) (x : Bool) : IsS98 w0 (W.setCell ⟨g, 1, none⟩ (.bool x)) g f0 x f2 f3 := by
  obtain ⟨hb, hg⟩ := h
  exact ⟨by simpa using blk_set hb 1 (.bool x), hg⟩
theorem cellS98_2 {W : World} {g : Nat} {f0 : Int} {f1 : Bool} {f2 : Bool} {f3 : Bool} (h : W.heap[g]? = some (.cells #[.int .i64 f0, .bool f1, .bool f2, .bool f3] 98 (0, 0))) : W.cell? ⟨g, 2, none⟩ = some (.bool f2) := (blk_cell h 2).trans rfl
theorem IsS98.set_2 {w0 W : World} {g : Nat} {f0 : Int} {f1 : Bool} {f2 : Bool} {f3 : Bool} (h : IsS98 w0 W g f0 f1 f2 f3) (x : Bool) : IsS98 w0 (W.setCell ⟨g, 2, none⟩ (.bool x)) g f0 f1 x f3 := by
  obtain ⟨hb, hg⟩ := h
  exact ⟨by simpa using blk_set hb 2 (.bool x), hg⟩
theorem cellS98_3 {W : World} {g : Nat} {f0 : Int} {f1 : Bool} {f2 : Bool} {f3 : Bool} (h : W.heap[g]? = some (.cells #[.int .i64 f0, .bool f1, .bool f2, .bool f3] 98 (0, 0))) : W.cell? ⟨g, 3, none⟩ = some (.bool f3) := (blk_cell h 3).trans rfl
theorem IsS98.set_3 {w0 W : World} {g : Nat} {f0 : Int} {f1 : Bool} {f2 : Bool} {f3 : Bool} (h : IsS98 w0 W g f0 f1 f2 f3) (x : Bool) : IsS98 w0 (W.setCell ⟨g, 3, none⟩ (.bool x)) g f0 f1 f2 x := by
  obtain ⟨hb, hg⟩ := h
  exact ⟨by simpa using blk_set hb 3 (.bool x), hg⟩
theorem IsS98.new (w0 W : World) (f0 : Int) (f1 : Bool) (f2 : Bool) (f3 : Bool) (hB : Below w0.heap.size w0 W) : IsS98 w0 (W.alloc (.cells #[.int .i64 f0, .bool f1, .bool f2, .bool f3] 98)) W.heap.size f0 f1 f2 f3 := ⟨by simpa using heap_alloc_new W _, hB.size⟩

/-! ### bom_New: function 24 -/
def bom_New.f  : Option (Int × Bool × Bool × Bool) := some (0, false, false, false)
set_option maxHeartbeats 8000000 in
set_option maxRecDepth 100000 in
theorem bom_New.calls  (r1 : Int) (r2 : Bool) (r3 : Bool) (r4 : Bool) (w0 w : World) (hB : Below w0.heap.size w0 w) (h : bom_New.f  = some (r1, r2, r3, r4)) :
    Calls Tryd.prog 24 #[] w fun e w' => ∃ g_ : Nat, e = .returned (.pointer (some ⟨g_, 0, none⟩)) ∧ IsS98 w0 w' g_ r1 r2 r3 r4 ∧ Below w0.heap.size w0 w' ∧ Below w.heap.size w w' := by
  have hu98 := Tryd.underlying98
  have HBW := Aside0.mk (Below.refl w.heap.size w)
  have HW0 := Aside0.mk hB.size
  have HB := Aside0.mk hB
  clear hB
  have H : (some (0, false, false, false)) = some (r1, r2, r3, r4) := h
  clear h
  simp only [Option.some.injEq, Prod.mk.injEq] at H
  obtain ⟨rfl, rfl, rfl, rfl⟩ := H
  go_enter Tryd.func24, Tryd.ntmps24
  go_wp2_with (first | ((with_reducible refine gate_dst (N := 2) rfl ?_); refine box_event ?hg (N := 2) ?hd (cs := #[.int .i64 0, .bool false, .bool false, .bool false]) (t := 98) ?hr ?_; (case hd => rfl); (case hg => rfl); (case hr => first | (go_simp; done) | (go_simp; rfl)); intro gb157 hg w1 hbox hb; have n0_ := Aside0.mk (below_step HBW.out hb); have n1_ := Aside0.mk (below_step (by repeat (first | (with_reducible first | exact HB.out | apply below_alloc | apply pw_below_drewN | apply below_drew1) | exact HB.out)) hb); have n2_ := Aside0.mk (hbox); have n3_ := Aside0.mk ((by rw [hg]; exact (below_size (by repeat (first | (with_reducible first | exact HBW.out | apply below_alloc | apply pw_below_drewN | apply below_drew1) | exact HBW.out))) : w.heap.size ≤ gb157)); have n4_ := Aside0.mk ((Nat.le_trans HW0.out (by rw [hg]; exact (below_size (by repeat (first | (with_reducible first | exact HBW.out | apply below_alloc | apply pw_below_drewN | apply below_drew1) | exact HBW.out))) : w.heap.size ≤ gb157) : w0.heap.size ≤ gb157)); clear HBW; clear HB; have HBW := n0_; have HB := n1_; have BK157 := n2_; have GW157 := n3_; have GE157 := n4_; clear n0_ n1_ n2_ n3_ n4_; clear hb hbox hg))
  go_ret
  exact ⟨_, rfl, (show IsS98 w0 _ gb157 0 false false false from ⟨by (with_reducible repeat (first | refine blk_drewN ?_ _ | refine blk_drew ?_ | refine blk_alloc ?_ _)); exact BK157.out, GE157.out⟩), by repeat (first | (with_reducible first | exact HB.out | apply below_alloc | apply pw_below_drewN | apply below_drew1 | refine below_set ?_ GE157.out) | exact HB.out), by repeat (first | (with_reducible first | exact HBW.out | apply below_alloc | apply pw_below_drewN | apply below_drew1 | refine below_set ?_ GW157.out) | exact HBW.out)⟩

-- NOT PRINTED: function 8 (read_New)

-- NOT PRINTED: function 28 (read_Reader_wrong)

-- NOT PRINTED: function 31 (read_Reader_event)

-- NOT PRINTED: function 26 (read_Reader_take)

-- NOT PRINTED: function 27 (bom_Stripper_Close)

-- NOT PRINTED: function 43 (slices_Clone_byte_byte)

-- NOT PRINTED: function 29 (bom_Stripper_Feed)

-- NOT PRINTED: function 9 (read_Reader_Feed)

-- NOT PRINTED: function 10 (read_Reader_Count)

-- NOT PRINTED: function 11 (read_Reader_Offset)

-- NOT PRINTED: function 12 (read_Reader_Close)

-- NOT PRINTED: function 13 (read_Reader_Fault)

-- NOT PRINTED: function 3 (quillpentop_TopSticky)

end Go.Proofs.YtmignbhpofmgeaaDoor.PTopSticky
