import Derived.Test.YtpgbnjneoejebaaSl
import Derived.Deep.RegionHeld3
set_option linter.unusedVariables false
set_option linter.unusedSimpArgs false
namespace Go.Proofs.Ytpgbnjneoejebaa
open Go.RowKit

theorem pair_facts2 {w : World} {b : Nat} {u v : Value} {t : TypeId} (h : w.heap[b]? = some (.cells #[u, v] t (0, 0))) :
    w.cell? ⟨b, 0, none⟩ = some u ∧ w.cell? ⟨b, 1, none⟩ = some v ∧ w.frozen? ⟨b, 0, none⟩ = false ∧ w.frozen? ⟨b, 1, none⟩ = false := ⟨blk_cells h 0, blk_cells h 1, blk_frozen h 0, blk_frozen h 1⟩
theorem pair_set2 {w : World} {b : Nat} {u v : Value} {t : TypeId} (h : w.heap[b]? = some (.cells #[u, v] t (0, 0))) (x y : Value) : ((w.setCell ⟨b, 0, none⟩ x).setCell ⟨b, 1, none⟩ y).heap[b]? = some (.cells #[x, y] t (0, 0)) := by
  have := blk_set (j := 1) (v := y) (blk_set (j := 0) (v := x) h)
  simpa using this
theorem Only.put2 {S : Nat → Prop} {a w : World} (h : Only S a w) {g : Nat} (hg : g < a.heap.size → S g) (x y : Value) : Only S a ((w.setCell ⟨g, 0, none⟩ x).setCell ⟨g, 1, none⟩ y) := (h.setCell hg _).setCell hg _
theorem sgn_mul (x y : Int) : ((decide (x < 0) != decide (y < 0)) && decide (x * y ≠ 0)) = decide (x * y < 0) := by
  rcases Int.lt_trichotomy x 0 with h | h | h
  · rcases Int.lt_trichotomy y 0 with g | g | g
    · have := Int.mul_pos_of_neg_of_neg h g
      rw [decide_eq_true h, decide_eq_true g, decide_eq_false (p := x * y < 0) (by omega)]; rfl
    · subst g; simp
    · have := Int.mul_neg_of_neg_of_pos h g
      rw [decide_eq_true h, decide_eq_false (p := y < 0) (by omega), decide_eq_true (p := x * y ≠ 0) (by omega), decide_eq_true this]; rfl
  · subst h; simp
  · rcases Int.lt_trichotomy y 0 with g | g | g
    · have := Int.mul_neg_of_pos_of_neg h g
      rw [decide_eq_false (p := x < 0) (by omega), decide_eq_true g, decide_eq_true (p := x * y ≠ 0) (by omega), decide_eq_true this]; rfl
    · subst g; simp
    · have := Int.mul_pos h g
      rw [decide_eq_false (p := x < 0) (by omega), decide_eq_false (p := y < 0) (by omega), decide_eq_false (p := x * y < 0) (by omega)]; rfl
theorem blk3 (w : World) (o1 o2 o3 : Obj) : (((w.alloc o1).alloc o2).alloc o3).heap[w.heap.size]? = some o1 ∧ (((w.alloc o1).alloc o2).alloc o3).heap[w.heap.size + 1]? = some o2 ∧ (((w.alloc o1).alloc o2).alloc o3).heap[w.heap.size + 2]? = some o3 := by
  refine ⟨blk_old _ (blk_old _ (blk_new _ _)), blk_old _ ?_, ?_⟩
  · have := blk_new (w.alloc o1) o2; rwa [World.size_alloc] at this
  · have := blk_new ((w.alloc o1).alloc o2) o3; rwa [World.size_alloc, World.size_alloc] at this

def fits (z : Int) : Prop := -9223372036854775808 ≤ z ∧ z < 9223372036854775808
instance (z : Int) : Decidable (fits z) := inferInstanceAs (Decidable (_ ∧ _))
def backI (z : Int) : Int := if fits z then z else 0
end Go.Proofs.Ytpgbnjneoejebaa
