import Derived.Test.YtjegohibpojneaaPackFix
set_option linter.unusedVariables false
set_option linter.unusedSimpArgs false
namespace Go.Proofs.Ytjegohibpojneaa
open Go.RowKit

/-! ### plain: what is written is read, what is read is written -/
theorem numAt_front (l : List UInt8) (p w : Nat) : numAt l p (w + 1) = (bitAt l p).toNat + 2 * numAt l (p + 1) w := by
  induction w with
  | zero => simp [numAt]
  | succ w ih =>
    rw [numAt, ih]
    conv => rhs; rw [numAt]
    rw [show p + 1 + w = p + (w + 1) by omega, Nat.pow_succ]
    generalize (bitAt l (p + (w + 1))).toNat = c
    generalize numAt l (p + 1) w = y
    have : c * (2 ^ w * 2) = 2 * (c * 2 ^ w) := by rw [← Nat.mul_assoc, Nat.mul_comm]
    rw [this, Nat.mul_add]
    omega
theorem bits_high (x c : Nat) (hx : x < 256) (h : x / 2 ^ c ≠ 0) : ∃ i, c ≤ i ∧ i < 8 ∧ x.testBit i = true := by
  by_cases hc : c < 8
  · have hd : ∀ (x : Fin 256) (c : Fin 8), x.val / 2 ^ c.val ≠ 0 → ∃ i : Fin 8, c.val ≤ i.val ∧ x.val.testBit i.val = true := by decide +kernel
    obtain ⟨i, h1, h2⟩ := hd ⟨x, hx⟩ ⟨c, hc⟩ h
    exact ⟨i.val, h1, i.isLt, h2⟩
  · exfalso
    apply h
    have : 2 ^ 8 ≤ 2 ^ c := Nat.pow_le_pow_right (by omega) (by omega)
    exact Nat.div_eq_of_lt (by omega)
theorem bits_low (x c i : Nat) (h : c ≤ i) (hb : x.testBit i = true) : x / 2 ^ c ≠ 0 := by
  intro h0
  have : (x / 2 ^ c).testBit (i - c) = true := by
    rw [Nat.testBit_div_two_pow, show i - c + c = i by omega]; exact hb
  rw [h0] at this
  simp at this
/-- What stands behind the last number, bit by bit. -/
theorem padBad_iff (t : List UInt8) (q : Nat) (ht : t.length = (q + 7) / 8) : padBad t q = true ↔ ∃ p, q ≤ p ∧ p < 8 * t.length ∧ bitAt t p = true := by
  unfold padBad
  constructor
  · intro h
    rw [Bool.and_eq_true] at h
    have h1 := of_decide_eq_true h.1
    have h2 := of_decide_eq_true h.2
    obtain ⟨i, hi1, hi2, hi3⟩ := bits_high _ _ (UInt8.toNat_lt _) h2
    refine ⟨8 * (q / 8) + i, by omega, by omega, ?_⟩
    unfold bitAt
    rw [show (8 * (q / 8) + i) / 8 = q / 8 by omega, show (8 * (q / 8) + i) % 8 = i by omega]
    exact hi3
  · rintro ⟨p, h1, h2, h3⟩
    unfold bitAt at h3
    have hq : 0 < q % 8 := by omega
    have hp : p / 8 = q / 8 := by omega
    rw [hp] at h3
    rw [decide_eq_true hq, decide_eq_true (bits_low _ (q % 8) _ (by omega) h3)]
    rfl
end Go.Proofs.Ytjegohibpojneaa
