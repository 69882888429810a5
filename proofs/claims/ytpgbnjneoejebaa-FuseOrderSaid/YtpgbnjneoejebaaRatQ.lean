import Derived.Test.YtpgbnjneoejebaaLow
import Derived.Test.YtpgbnjneoejebaaBestG
set_option linter.unusedVariables false
set_option linter.unusedSimpArgs false
namespace Go.Proofs.Ytpgbnjneoejebaa
open Go.RowKit

/-! rationals of Lean's own for the program's -/
def ratQ (q : Rat) : Value := rat q.num q.den
def QIn (q : Rat) : Prop := i64in q.num ∧ i64in q.den
theorem q_ok (q : Rat) : RatOk q.num q.den := ⟨by have := q.den_pos; omega, by rw [Int.natAbs_natCast]; exact q.reduced⟩
theorem low_q (N : Int) (D : Nat) (hD : 0 < D) : lowN N D = (mkRat N D).num ∧ lowD N D = (mkRat N D).den := by
  have h1 := low_ok N D hD
  refine ratio_eq _ _ _ _ h1 (q_ok _) ?_
  have hp := lowD_pos N D hD
  have h2 := low_cross N D
  have h3 : mkRat (mkRat N D).num (mkRat N D).den = mkRat N D := Rat.mkRat_self _
  have h4 := (Rat.mkRat_eq_iff (by have := (mkRat N D).den_pos; omega) (by omega)).1 h3
  generalize (mkRat N D).num = n at *
  generalize (mkRat N D).den = d at *
  generalize lowN N D = a at *
  generalize lowD N D = b at *
  have h5 : (a * d) * (D : Int) = (n * b) * D := by
    rw [show a * (d : Int) * (D : Int) = (a * D) * d by simp only [Int.mul_assoc, Int.mul_comm, Int.mul_left_comm], h2, show n * (b : Int) * (D : Int) = (n * D) * b by simp only [Int.mul_assoc, Int.mul_comm, Int.mul_left_comm], h4]
    simp only [Int.mul_assoc, Int.mul_comm, Int.mul_left_comm]
  exact Int.eq_of_mul_eq_mul_right (by omega) h5
theorem lowR_q (N : Int) (D : Nat) (hD : 0 < D) (h : QIn (mkRat N D)) : LowR N D (mkRat N D).num (mkRat N D).den 0 := by
  obtain ⟨h1, h2⟩ := low_q N D hD
  refine .inl ⟨rfl, h1.symm, by rw [h2], h.1, h.2, q_ok _, ?_, ?_⟩
  · rw [h1]; have := h.1; unfold i64in at this; unfold fits; omega
  · rw [h2]; have := h.2; unfold i64in at this; omega
theorem sumQ_any (p q : Rat) (w : World) (hp : QIn p) (hq : QIn q) (h : QIn (p + q)) : Calls Try.prog 64 #[ratQ p, ratQ q] w fun f w' => f = .returned (.tuple #[ratQ (p + q), .int .i64 0]) ∧ Same w w' := by
  have e : p + q = mkRat (p.num * q.den + q.num * p.den) (p.den * q.den) := Rat.add_def' p q
  rw [e] at h ⊢
  exact rsum_any p.num q.num p.den q.den w hp.1 hp.2 hq.1 hq.2 (q_ok p) (q_ok q) (lowR_q _ _ (Nat.mul_pos p.den_pos q.den_pos) h)
theorem ratioQ_any (num : Int) (d : Nat) (w : World) (hn : i64in num) (hd : i64in d) (h0 : 0 < d) (h : QIn (mkRat num d)) : Calls Try.prog 34 #[.int .i64 num, .int .i64 d] w fun f w' => f = .returned (.tuple #[ratQ (mkRat num d), .int .i64 0]) ∧ Same w w' :=
  ratio_low num d w hn hd h0 (lowR_q _ _ h0 h)
def cmpQ (p q : Rat) : Int := if p < q then -1 else if p = q then 0 else 1
theorem compareQ_any (p q : Rat) (w : World) (hp : QIn p) (hq : QIn q) : Calls Try.prog 38 #[ratQ p, ratQ q] w fun e w' => e = .returned (.int .i64 (cmpQ p q)) ∧ Same w w' := by
  have h := rcompare_any p.num q.num p.den q.den w hp.1 hp.2 hq.1 hq.2 (q_ok p) (q_ok q)
  have e : (p.num * q.den - q.num * p.den).sign = cmpQ p q := by
    unfold cmpQ
    by_cases h1 : p < q
    · rw [if_pos h1]
      rw [Rat.lt_iff] at h1
      exact Int.sign_eq_neg_one_of_neg (by omega)
    · rw [if_neg h1]
      by_cases h2 : p = q
      · rw [if_pos h2, h2, Int.sub_self]; rfl
      · rw [if_neg h2]
        have h3 : q < p := by
          rcases Rat.le_total (a := p) (b := q) with h | h
          · exact absurd (Rat.le_antisymm h (Rat.not_lt.1 h1)) h2
          · exact Rat.not_le.1 (fun h' => h2 (Rat.le_antisymm h' h))
        rw [Rat.lt_iff] at h3
        exact Int.sign_eq_one_of_pos (by omega)
  rw [e] at h
  exact h

/-! a document and its value: what is fused, and its order -/
abbrev QV := {q : Rat // QIn q}
abbrev VP := Int × QV
def qz : QV := ⟨0, by decide, by decide⟩
def betV (a b : VP) : Bool := decide (b.2.1 < a.2.1) || (decide (a.2.1 = b.2.1) && decide (a.1 < b.1))
theorem q_tri (p q : Rat) : p < q ∨ p = q ∨ q < p := by
  by_cases h1 : p < q
  · exact .inl h1
  · by_cases h2 : q < p
    · exact .inr (.inr h2)
    · exact .inr (.inl (Rat.le_antisymm (Rat.not_lt.1 h2) (Rat.not_lt.1 h1)))
theorem q_lt_trans {p q r : Rat} (h1 : p < q) (h2 : q < r) : p < r := Std.lt_trans h1 h2
theorem betV_iff (a b : VP) : betV a b = true ↔ b.2.1 < a.2.1 ∨ (a.2.1 = b.2.1 ∧ a.1 < b.1) := by unfold betV; simp
theorem betV_no (a b : VP) : betV a b = false ↔ a.2.1 < b.2.1 ∨ (a.2.1 = b.2.1 ∧ b.1 ≤ a.1) := by
  cases h : betV a b with
  | true =>
    simp only [Bool.true_eq_false, false_iff]
    rintro (h1 | ⟨h1, h2⟩) <;> rcases (betV_iff a b).1 h with h3 | ⟨h3, h4⟩
    · exact Rat.lt_irrefl (q_lt_trans h1 h3)
    · rw [h3] at h1; exact Rat.lt_irrefl h1
    · rw [h1] at h3; exact Rat.lt_irrefl h3
    · omega
  | false =>
    simp only [true_iff]
    have h2 : ¬ (b.2.1 < a.2.1 ∨ (a.2.1 = b.2.1 ∧ a.1 < b.1)) := fun h3 => by rw [(betV_iff a b).2 h3] at h; cases h
    rcases q_tri a.2.1 b.2.1 with h3 | h3 | h3
    · exact .inl h3
    · exact .inr ⟨h3, Int.not_lt.1 (fun h4 => h2 (.inr ⟨h3, h4⟩))⟩
    · exact absurd (.inl h3) h2
instance betInst : Bet VP where
  default := (0, qz)
  bet := betV
  self a := by rw [betV_no]; exact .inr ⟨rfl, Int.le_refl _⟩
  asym a b h := by
    rw [betV_no]
    rcases (betV_iff a b).1 h with h | ⟨h1, h2⟩
    · exact .inl h
    · exact .inr ⟨h1.symm, by omega⟩
  tr a b c h1 h2 := by
    rw [betV_no] at *
    rcases h1 with h1 | ⟨h1, h3⟩ <;> rcases h2 with h2 | ⟨h2, h4⟩
    · exact .inl (q_lt_trans h2 h1)
    · exact .inl (by rw [h2]; exact h1)
    · exact .inl (by rw [← h1]; exact h2)
    · exact .inr ⟨h2.trans h1, by omega⟩
  anti a b h1 h2 := by
    rw [betV_no] at *
    rcases h1 with h1 | ⟨h1, h3⟩ <;> rcases h2 with h2 | ⟨h2, h4⟩
    · exact absurd (q_lt_trans h2 h1) Rat.lt_irrefl
    · rw [h2] at h1; exact absurd h1 Rat.lt_irrefl
    · rw [h1] at h2; exact absurd h2 Rat.lt_irrefl
    · exact Prod.ext (Int.le_antisymm h3 h4) (Subtype.ext h1.symm)
def vb (x : VP) : Int := x.2.1.num
def vc (x : VP) : Int := x.2.1.den
/-- A document with its value, as the program has it. -/
def vpV (x : VP) : Value := .agg #[.int .i64 x.1, .int .i64 (vb x), .int .i64 (vc x)]
end Go.Proofs.Ytpgbnjneoejebaa
