import Derived.Test.YtpgbnjneoejebaaRat
set_option linter.unusedVariables false
set_option linter.unusedSimpArgs false
namespace Go.Proofs.Ytpgbnjneoejebaa
open Go.RowKit

theorem blk2' (w : World) (o o' : Obj) : ((w.alloc o).alloc o').heap[w.heap.size]? = some o ∧ ((w.alloc o).alloc o').heap[w.heap.size + 1]? = some o' := by
  refine ⟨blk_old _ (blk_new _ _), ?_⟩
  have := blk_new (w.alloc o) o'; rwa [World.size_alloc] at this
def timesZ (an ad n : Int) : Int := sg (decide (an < 0) != decide (n < 0)) (an.natAbs * (n.natAbs / Nat.gcd n.natAbs ad.natAbs))
def timesD (ad n : Int) : Int := (ad.natAbs / Nat.gcd n.natAbs ad.natAbs : Nat)

theorem sg_xor0 (m : Bool) (p : Nat) : sg (m && decide (p ≠ 0)) p = sg m p := by
  by_cases h : p = 0
  · subst h; cases m <;> rfl
  · rw [decide_eq_true h, Bool.and_true]
end Go.Proofs.Ytpgbnjneoejebaa
