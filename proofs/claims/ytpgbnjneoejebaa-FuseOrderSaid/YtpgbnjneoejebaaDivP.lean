import Derived.Test.YtpgbnjneoejebaaDiv
set_option linter.unusedVariables false
set_option linter.unusedSimpArgs false
namespace Go.Proofs.Ytpgbnjneoejebaa

/-! ### plain: a digit of base 2^32 out of three digits by two -/
/-- The first guess is not too small. -/
theorem kn_init (b u u1 v1 v0 : Nat) (hb : 0 < b) (h1 : u1 < b) (hv1 : 0 < v1) : (u * b + u1) / (v1 * b + v0) ≤ u / v1 := by
  rw [Nat.le_div_iff_mul_le hv1]
  have hpos : 0 < v1 * b + v0 := by have := Nat.mul_pos hv1 hb; omega
  have h2 := Nat.div_mul_le_self (u * b + u1) (v1 * b + v0)
  generalize (u * b + u1) / (v1 * b + v0) = Q at *
  have h3 : Q * v1 * b ≤ u * b + u1 := by
    have : Q * (v1 * b) ≤ Q * (v1 * b + v0) := Nat.mul_le_mul (Nat.le_refl _) (by omega)
    rw [Nat.mul_assoc]; omega
  have h4 : Q * v1 * b < (u + 1) * b := by rw [Nat.add_mul]; omega
  have := Nat.lt_of_mul_lt_mul_right h4
  omega
/-- A guess that fits is right. -/
theorem kn_exit (b u u1 v1 v0 q r : Nat) (hv : 0 < v1 * b + v0) (hid : q * v1 + r = u) (hQ : (u * b + u1) / (v1 * b + v0) ≤ q) (hle : q * v0 ≤ b * r + u1) : (u * b + u1) / (v1 * b + v0) = q := by
  apply Nat.le_antisymm hQ
  rw [Nat.le_div_iff_mul_le hv, Nat.mul_add, ← Nat.mul_assoc, ← hid, Nat.add_mul, Nat.mul_comm r b]
  omega
/-- The digit is one. -/
theorem kn_digit (b u u1 v1 v0 : Nat) (h1 : u1 < b) (hu : u < v1 * b + v0) : (u * b + u1) / (v1 * b + v0) < b := by
  rw [Nat.div_lt_iff_lt_mul (by omega)]
  have : (u + 1) * b ≤ (v1 * b + v0) * b := Nat.mul_le_mul hu (Nat.le_refl _)
  rw [Nat.add_mul] at this
  rw [Nat.mul_comm b]; omega
/-- A guess that doesn't fit is too great. -/
theorem kn_step (b u u1 v1 v0 q r : Nat) (h1 : u1 < b) (hu : u < v1 * b + v0) (hid : q * v1 + r = u) (hQ : (u * b + u1) / (v1 * b + v0) ≤ q) (hgt : b ≤ q ∨ b * r + u1 < q * v0) :
    0 < q ∧ (u * b + u1) / (v1 * b + v0) ≤ q - 1 ∧ (q - 1) * v1 + (r + v1) = u := by
  have hd := kn_digit b u u1 v1 v0 h1 hu
  have hlt : (u * b + u1) / (v1 * b + v0) < q := by
    rcases hgt with h | h
    · omega
    · rw [Nat.div_lt_iff_lt_mul (by omega), Nat.mul_add, ← Nat.mul_assoc, ← hid, Nat.add_mul, Nat.mul_comm r b]
      omega
  have hq : 0 < q := Nat.lt_of_le_of_lt (Nat.zero_le _) hlt
  refine ⟨hq, Nat.le_sub_one_of_lt hlt, ?_⟩
  obtain ⟨k, rfl⟩ : ∃ k, q = k + 1 := ⟨q - 1, by omega⟩
  rw [Nat.add_sub_cancel, ← hid, Nat.add_mul]; omega
/-- A remainder of more than a digit: the guess is right. -/
theorem kn_break (b u u1 v1 v0 q r : Nat) (h0 : v0 < b) (hu : u < v1 * b + v0) (hid : q * v1 + r = u) (hQ : (u * b + u1) / (v1 * b + v0) ≤ q) (hr : b ≤ r) : (u * b + u1) / (v1 * b + v0) = q := by
  apply kn_exit b u u1 v1 v0 q r (by omega) hid hQ
  have hq : q < b := by
    have h2 : q * v1 < b * v1 := by rw [Nat.mul_comm b]; omega
    exact Nat.lt_of_mul_lt_mul_right h2
  have h3 : q * v0 ≤ b * b := Nat.mul_le_mul (by omega) (by omega)
  have h4 : b * b ≤ b * r := Nat.mul_le_mul (Nat.le_refl _) hr
  omega
/-- Two digits make the quotient. -/
theorem kn_two (b N S y U un1 un0 v q1 q0 : Nat) (hv : v = y * S) (hS : 0 < S) (hy : 0 < y) (hN : N * S = (U * b + un1) * b + un0) (h1 : q1 = (U * b + un1) / v) (h0 : q0 = ((U * b + un1) % v * b + un0) / v) :
    N / y = q1 * b + q0 ∧ N % y = ((U * b + un1) % v * b + un0) % v / S := by
  have hvp : 0 < v := by rw [hv]; exact Nat.mul_pos hy hS
  have e1 := Nat.div_add_mod (U * b + un1) v
  have e0 := Nat.div_add_mod ((U * b + un1) % v * b + un0) v
  rw [← h1] at e1
  rw [← h0] at e0
  generalize (U * b + un1) % v = r1 at *
  have hr := Nat.mod_lt (r1 * b + un0) hvp
  generalize (r1 * b + un0) % v = r0 at *
  have hNS : N * S = (q1 * b + q0) * y * S + r0 := by
    rw [hN, ← e1, Nat.mul_assoc (q1 * b + q0) y S, ← hv, Nat.add_mul]
    have : v * q1 * b = q1 * b * v := by rw [Nat.mul_comm v q1, Nat.mul_assoc, Nat.mul_comm v b, ← Nat.mul_assoc]
    rw [this, Nat.add_mul, Nat.add_assoc, ← e0, Nat.mul_comm v q0]; omega
  generalize q1 * b + q0 = Q at *
  obtain ⟨t, ht⟩ : ∃ t, N = Q * y + t := by
    have : Q * y * S ≤ N * S := by omega
    have := Nat.le_of_mul_le_mul_right this hS
    exact ⟨N - Q * y, by omega⟩
  have hr0 : r0 = t * S := by rw [ht, Nat.add_mul] at hNS; omega
  have hty : t < y := by rw [hr0, hv] at hr; exact Nat.lt_of_mul_lt_mul_right hr
  rw [hr0, Nat.mul_div_cancel _ hS, ht]
  constructor
  · rw [Nat.mul_comm, Nat.mul_add_div hy, Nat.div_eq_of_lt hty]; omega
  · rw [Nat.mul_comm, Nat.mul_add_mod, Nat.mod_eq_of_lt hty]
/-- What is shifted left, in words. -/
theorem kn_shift (hi lo y s : Nat) (hs : s ≤ 63) (hhi : hi < y) (hlo : lo < 2 ^ 64) (hy : y * 2 ^ s < 2 ^ 64) :
    hi * 2 ^ s + lo / 2 ^ (64 - s) < y * 2 ^ s ∧ (hi * 2 ^ 64 + lo) * 2 ^ s = (hi * 2 ^ s + lo / 2 ^ (64 - s)) * 2 ^ 64 + lo * 2 ^ s % 2 ^ 64 := by
  have hp : 2 ^ (64 - s) * 2 ^ s = 2 ^ 64 := by rw [← Nat.pow_add]; congr 1; omega
  have hlt : lo / 2 ^ (64 - s) < 2 ^ s := by rw [Nat.div_lt_iff_lt_mul (Nat.pow_pos (by omega)), Nat.mul_comm, hp]; exact hlo
  have e1 := Nat.div_add_mod lo (2 ^ (64 - s))
  have hm := Nat.mod_lt lo (Nat.pow_pos (n := 64 - s) (show 0 < 2 by omega))
  have hmod : lo * 2 ^ s % 2 ^ 64 = lo % 2 ^ (64 - s) * 2 ^ s := by
    rw [← hp, Nat.mul_mod_mul_right]
  constructor
  · have : (hi + 1) * 2 ^ s ≤ y * 2 ^ s := Nat.mul_le_mul hhi (Nat.le_refl _)
    rw [Nat.add_mul] at this; omega
  · rw [hmod]
    generalize 2 ^ (64 - s) = P at *
    generalize 2 ^ s = S at *
    generalize lo / P = h at *
    generalize lo % P = m at *
    rw [← e1, ← hp, Nat.add_mul, Nat.add_mul, Nat.add_mul]
    have a1 : hi * (P * S) * S = hi * S * (P * S) := by rw [Nat.mul_assoc, Nat.mul_comm (P * S) S, ← Nat.mul_assoc]
    have a2 : P * h * S = h * (P * S) := by rw [Nat.mul_comm P h, Nat.mul_assoc]
    rw [a1, a2]; omega
end Go.Proofs.Ytpgbnjneoejebaa
