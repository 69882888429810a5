import Derived.Test.YtjegohibpojneaaDenseP
set_option linter.unusedVariables false
set_option linter.unusedSimpArgs false
namespace Go.Proofs.Ytjegohibpojneaa
open Go.RowKit

/-! dense, plain: what the two measures tell of one another -/
theorem sc0_comm (a b : List Int) : ∀ n, scS 0 a b n = scS 0 b a n
  | 0 => rfl
  | n + 1 => by simp only [scS, brP, if_pos]; rw [sc0_comm a b n, Int.mul_comm]
theorem sq_swap (x y : Int) : -(x - y) * (x - y) = -(y - x) * (y - x) := by
  have : x - y = -(y - x) := by omega
  rw [this, Int.neg_neg, Int.mul_comm, Int.neg_mul]
theorem sc1_comm (a b : List Int) : ∀ n, scS 1 a b n = scS 1 b a n
  | 0 => rfl
  | n + 1 => by
    simp only [scS, brP]
    rw [if_neg (by omega), if_neg (by omega), sc1_comm a b n, sq_swap]
theorem sq_pos (d : Int) : 0 ≤ d * d ∧ (d * d = 0 → d = 0) := by
  refine ⟨?_, fun h => by rcases Int.mul_eq_zero.1 h with h | h <;> exact h⟩
  rcases Int.le_total 0 d with h | h
  · exact Int.mul_nonneg h h
  · have := Int.mul_nonneg (show (0:Int) ≤ -d by omega) (show (0:Int) ≤ -d by omega)
    rwa [Int.neg_mul_neg] at this
def sameS (a b : List Int) : Nat → Bool
  | 0 => true
  | n + 1 => sameS a b n && decide (a.getD n 0 = b.getD n 0)
theorem sc1_zero (a b : List Int) : ∀ n, scS 1 a b n ≤ 0 ∧ (scS 1 a b n = 0 ↔ sameS a b n = true)
  | 0 => by simp [scS, sameS]
  | n + 1 => by
    obtain ⟨h1, h2⟩ := sc1_zero a b n
    obtain ⟨h3, h4⟩ := sq_pos (a.getD n 0 - b.getD n 0)
    simp only [scS, brP, sameS, Bool.and_eq_true, decide_eq_true_eq]
    rw [if_neg (by omega), Int.neg_mul, ← h2]
    generalize a.getD n 0 = x at *
    generalize b.getD n 0 = y at *
    refine ⟨by omega, fun h => ⟨by omega, ?_⟩, fun ⟨h5, h6⟩ => ?_⟩
    · have := h4 (by omega)
      omega
    · rw [h6]; simp; omega
theorem sc_two (a b : List Int) : ∀ n, 2 * scS 0 a b n = scS 0 a a n + scS 0 b b n + scS 1 a b n
  | 0 => by simp [scS]
  | n + 1 => by
    have h := sc_two a b n
    simp only [scS, brP, if_pos]
    rw [if_neg (by omega)]
    generalize a.getD n 0 = x at *
    generalize b.getD n 0 = y at *
    simp only [Int.neg_mul, Int.sub_mul, Int.mul_sub]
    rw [Int.mul_comm y x]
    omega
end Go.Proofs.Ytjegohibpojneaa
