import Derived.Test.YtafhgpknffkjmaaLib
set_option linter.unusedVariables false
set_option linter.unusedSimpArgs false
namespace Go.Proofs.Ytafhgpknffkjmaa
open Go.RowKit

/-! ### plain: numbers as rows of bits, the lowest first -/
def nb (n : Nat) : List Bool := if h : n = 0 then [] else decide (n % 2 = 1) :: nb (n / 2)
termination_by n
decreasing_by omega
def bv : List Bool → Nat
  | [] => 0
  | b :: l => b.toNat + 2 * bv l
theorem nb_zero : nb 0 = [] := by rw [nb]; rfl
theorem nb_pos {n : Nat} (h : 0 < n) : nb n = decide (n % 2 = 1) :: nb (n / 2) := by rw [nb, dif_neg (by omega)]
theorem bv_nb (n : Nat) : bv (nb n) = n := by
  induction n using Nat.strongRecOn with
  | ind n ih =>
    by_cases h : n = 0
    · subst h; rw [nb_zero]; rfl
    · rw [nb_pos (by omega)]
      show (decide (n % 2 = 1)).toNat + 2 * bv (nb (n / 2)) = n
      rw [ih _ (by omega)]
      by_cases h2 : n % 2 = 1
      · simp [h2]; omega
      · simp [h2]; omega
theorem bv_append (l m : List Bool) : bv (l ++ m) = bv l + 2 ^ l.length * bv m := by
  induction l with
  | nil => simp [bv]
  | cons b l ih =>
    show b.toNat + 2 * bv (l ++ m) = b.toNat + 2 * bv l + 2 ^ (l.length + 1) * bv m
    rw [ih, Nat.mul_add, Nat.pow_succ, Nat.mul_comm (2 ^ l.length) 2, Nat.mul_assoc]; omega
theorem bv_lt (l : List Bool) : bv l < 2 ^ l.length := by
  induction l with
  | nil => simp [bv]
  | cons b l ih =>
    show b.toNat + 2 * bv l < 2 ^ (l.length + 1)
    have := Bool.toNat_le b
    rw [Nat.pow_succ]; omega
theorem bv_snoc (l : List Bool) (b : Bool) : bv (l ++ [b]) = bv l + b.toNat * 2 ^ l.length := by
  rw [bv_append]; simp [bv, Nat.mul_comm]
theorem bv_take (l : List Bool) (i : Nat) : bv (l.take (i + 1)) = bv (l.take i) + (l.getD i false).toNat * 2 ^ i := by
  by_cases h : i < l.length
  · rw [← List.take_append_getElem h, bv_snoc, List.length_take, Nat.min_eq_left (by omega), List.getD_eq_getElem?_getD, List.getElem?_eq_getElem h]; rfl
  · rw [List.take_of_length_le (by omega), List.take_of_length_le (by omega), List.getD_eq_getElem?_getD, List.getElem?_eq_none (by omega)]; simp
theorem bv_drop (l : List Bool) (i : Nat) (h : i < l.length) : bv (l.drop i) = (l[i]).toNat + 2 * bv (l.drop (i + 1)) := by
  rw [List.drop_eq_getElem_cons h]; rfl
theorem bv_split (l : List Bool) (i : Nat) (h : i ≤ l.length) : bv l = bv (l.take i) + 2 ^ i * bv (l.drop i) := by
  conv => lhs; rw [← List.take_append_drop i l]
  rw [bv_append, List.length_take, Nat.min_eq_left h]
/-- A row whose last bit is set is the number's own. -/
theorem nb_bv (l : List Bool) (h : l = [] ∨ l.getLast? = some true) : nb (bv l) = l := by
  induction l with
  | nil => exact nb_zero
  | cons b l ih =>
    have hl : l = [] ∨ l.getLast? = some true := by
      cases l with
      | nil => exact .inl rfl
      | cons c l => right; rcases h with h | h; cases h; simpa [List.getLast?_cons_cons] using h
    have hpos : 0 < bv (b :: l) := by
      show 0 < b.toNat + 2 * bv l
      cases l with
      | nil => rcases h with h | h; cases h; simp at h; subst h; simp [bv]
      | cons c l =>
        have e := ih hl
        by_cases h0 : bv (c :: l) = 0
        · rw [h0, nb_zero] at e; cases e
        · omega
    rw [nb_pos hpos]
    have hb := Bool.toNat_le b
    have e1 : bv (b :: l) % 2 = b.toNat := by show (b.toNat + 2 * bv l) % 2 = _; omega
    have e2 : bv (b :: l) / 2 = bv l := by show (b.toNat + 2 * bv l) / 2 = _; omega
    rw [e1, e2, ih hl]
    cases b <;> rfl
theorem nb_last (n : Nat) : nb n = [] ∨ (nb n).getLast? = some true := by
  induction n using Nat.strongRecOn with
  | ind n ih =>
    by_cases h : n = 0
    · subst h; left; exact nb_zero
    · right
      rw [nb_pos (by omega)]
      rcases ih (n / 2) (by omega) with h1 | h1
      · have : n / 2 = 0 := by
          by_cases h0 : n / 2 = 0
          · exact h0
          · rw [nb_pos (by omega)] at h1; cases h1
        rw [this, nb_zero]
        simp; omega
      · cases hn : nb (n / 2) with
        | nil => rw [hn] at h1; cases h1
        | cons c l => rw [hn] at h1; simpa [List.getLast?_cons_cons] using h1
theorem nb_length_le (n k : Nat) (h : n < 2 ^ k) : (nb n).length ≤ k := by
  induction k generalizing n with
  | zero => have : n = 0 := by simpa using h
            subst this; rw [nb_zero]; simp
  | succ k ih =>
    by_cases h0 : n = 0
    · subst h0; rw [nb_zero]; simp
    · rw [nb_pos (by omega)]
      have := ih (n / 2) (by rw [Nat.pow_succ] at h; omega)
      simp; omega
theorem nb_lt (n : Nat) : n < 2 ^ (nb n).length := by have := bv_lt (nb n); rwa [bv_nb] at this
theorem nb_ge (n : Nat) (h : 0 < n) : 2 ^ ((nb n).length - 1) ≤ n := by
  induction n using Nat.strongRecOn with
  | ind n ih =>
    rw [nb_pos h]
    simp only [List.length_cons, Nat.add_sub_cancel]
    by_cases h0 : n / 2 = 0
    · rw [h0, nb_zero]; show 2 ^ 0 ≤ n; rw [Nat.pow_zero]; omega
    · have := ih (n / 2) (by omega) (by omega)
      have hl : 0 < (nb (n / 2)).length := by rw [nb_pos (by omega)]; simp
      obtain ⟨k, hk⟩ : ∃ k, (nb (n / 2)).length = k + 1 := ⟨(nb (n / 2)).length - 1, by omega⟩
      rw [hk] at this ⊢
      rw [Nat.pow_succ]
      simp only [Nat.add_sub_cancel] at this
      omega
theorem nb_len_mono {m n : Nat} (h : m ≤ n) : (nb m).length ≤ (nb n).length := nb_length_le m _ (Nat.lt_of_le_of_lt h (nb_lt n))
theorem nb_nil {n : Nat} : nb n = [] ↔ n = 0 := ⟨fun h => by have := bv_nb n; rw [h] at this; exact this.symm, fun h => by subst h; exact nb_zero⟩
theorem nb_len_zero {n : Nat} : (nb n).length = 0 ↔ n = 0 := by rw [List.length_eq_zero_iff, nb_nil]
theorem nb_len_pos {n : Nat} : 0 < (nb n).length ↔ 0 < n := by have := @nb_len_zero n; omega
/-- What 'trim' comes to. -/
theorem trim_done (l : List Bool) (n : Nat) (hn : n ≤ l.length) (hv : bv (l.take n) = bv l) (h : n = 0 ∨ ∃ h : n - 1 < l.length, l[n - 1] = true) : l.take n = nb (bv l) := by
  rw [← hv]
  symm
  apply nb_bv
  rcases h with rfl | ⟨h1, h2⟩
  · left; simp
  · by_cases h0 : n = 0
    · left; subst h0; simp
    · right
      rw [List.getLast?_eq_getElem?, List.length_take, Nat.min_eq_left hn, List.getElem?_take_of_lt (by omega), List.getElem?_eq_getElem h1, h2]
theorem trim_step (l : List Bool) (n : Nat) (hn : n + 1 ≤ l.length) (hv : bv (l.take (n + 1)) = bv l) (h : l[n] = false) : bv (l.take n) = bv l := by
  rw [← hv, bv_take, List.getD_eq_getElem?_getD, List.getElem?_eq_getElem (by omega), h]; simp
theorem nb_cons (b : Bool) (n : Nat) : bv (b :: nb n) = b.toNat + 2 * n := by show b.toNat + 2 * bv (nb n) = _; rw [bv_nb]
theorem plus_step (a b out : List Bool) (i c : Nat) (hl : out.length = i) (h : bv out + c * 2 ^ i = bv (a.take i) + bv (b.take i)) :
    bv (out ++ [decide (((a.getD i false).toNat + (b.getD i false).toNat + c) % 2 = 1)]) + (((a.getD i false).toNat + (b.getD i false).toNat + c) / 2) * 2 ^ (i + 1) = bv (a.take (i + 1)) + bv (b.take (i + 1)) := by
  rw [bv_snoc, bv_take, bv_take, hl]
  generalize (a.getD i false).toNat = x
  generalize (b.getD i false).toNat = y
  have e : (decide ((x + y + c) % 2 = 1)).toNat = (x + y + c) % 2 := by
    by_cases h2 : (x + y + c) % 2 = 1
    · simp [h2]
    · simp [h2]; omega
  rw [e, Nat.pow_succ]
  have e2 : (x + y + c) % 2 * 2 ^ i + (x + y + c) / 2 * (2 ^ i * 2) = (x + y + c) * 2 ^ i := by
    rw [Nat.mul_comm (2 ^ i) 2, ← Nat.mul_assoc, ← Nat.add_mul]; congr 1; omega
  rw [Nat.add_mul, Nat.add_mul] at e2
  omega
theorem plus_done (a b out : List Bool) (c : Nat) (hl : out.length = a.length + b.length + 1) (h : bv out + c * 2 ^ (a.length + b.length + 1) = bv (a.take (a.length + b.length + 1)) + bv (b.take (a.length + b.length + 1))) : bv out = bv a + bv b := by
  rw [List.take_of_length_le (by omega), List.take_of_length_le (by omega)] at h
  have h1 := bv_lt a
  have h2 := bv_lt b
  have h3 : 2 ^ a.length ≤ 2 ^ (a.length + b.length) := Nat.pow_le_pow_right (by omega) (by omega)
  have h4 : 2 ^ b.length ≤ 2 ^ (a.length + b.length) := Nat.pow_le_pow_right (by omega) (by omega)
  rw [Nat.pow_succ] at h
  generalize 2 ^ (a.length + b.length) = p at *
  cases c with
  | zero => omega
  | succ c =>
    have : (c + 1) * (p * 2) = c * (p * 2) + p * 2 := by rw [Nat.add_mul]; omega
    omega
theorem borrow_step (a b out : List Bool) (i c c' : Nat) (x : Bool) (hl : out.length = i) (h : bv out + bv (b.take i) = bv (a.take i) + c * 2 ^ i)
    (hx : x.toNat + (b.getD i false).toNat + c = (a.getD i false).toNat + 2 * c') : bv (out ++ [x]) + bv (b.take (i + 1)) = bv (a.take (i + 1)) + c' * 2 ^ (i + 1) := by
  rw [bv_snoc, bv_take, bv_take, hl, Nat.pow_succ, Nat.mul_comm (2 ^ i) 2, ← Nat.mul_assoc]
  generalize (a.getD i false).toNat = y at *
  generalize (b.getD i false).toNat = z at *
  have := congrArg (· * 2 ^ i) hx
  simp only [Nat.add_mul] at this
  rw [Nat.mul_comm c' 2]
  omega
theorem borrow_done (a b out : List Bool) (c : Nat) (hab : bv b ≤ bv a) (hlb : b.length ≤ a.length) (hl : out.length = a.length) (h : bv out + bv (b.take a.length) = bv (a.take a.length) + c * 2 ^ a.length) : bv out = bv a - bv b := by
  rw [List.take_of_length_le hlb, List.take_of_length_le (Nat.le_refl _)] at h
  have h1 := bv_lt out
  rw [hl] at h1
  generalize 2 ^ a.length = p at *
  cases c with
  | zero => omega
  | succ c =>
    have : (c + 1) * p = c * p + p := by rw [Nat.add_mul]; omega
    omega
theorem less_len {m n : Nat} (h : (nb m).length < (nb n).length) : m < n := by
  apply Nat.lt_of_not_le
  intro hc
  have := nb_len_mono hc
  omega
theorem less_bit (a b : List Bool) (i : Nat) (ha : i < a.length) (hb : i < b.length) (hd : a.drop (i + 1) = b.drop (i + 1)) (hne : a[i] ≠ b[i]) : decide (bv a < bv b) = b[i] := by
  rw [bv_split a i (by omega), bv_split b i (by omega), bv_drop a i ha, bv_drop b i hb, hd]
  have h1 := bv_lt (a.take i)
  have h2 := bv_lt (b.take i)
  rw [List.length_take, Nat.min_eq_left (by omega)] at h1 h2
  generalize 2 ^ i = p at *
  generalize bv (b.drop (i + 1)) = z
  cases hai : a[i] <;> cases hbi : b[i]
  · exact absurd (hai.trans hbi.symm) hne
  · simp [Nat.mul_add]; omega
  · simp [Nat.mul_add]; omega
  · exact absurd (hai.trans hbi.symm) hne
theorem less_same (a b : List Bool) (h : a = b) : decide (bv a < bv b) = false := by subst h; simp
end Go.Proofs.Ytafhgpknffkjmaa
