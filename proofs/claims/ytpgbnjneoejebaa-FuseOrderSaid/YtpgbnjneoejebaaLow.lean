import Derived.Test.YtpgbnjneoejebaaSum
import Derived.Test.YtpgbnjneoejebaaSumF
import Derived.Test.YtpgbnjneoejebaaRatF
set_option linter.unusedVariables false
set_option linter.unusedSimpArgs false
namespace Go.Proofs.Ytpgbnjneoejebaa
open Go.RowKit

/-! plain: the lowest form, the sum by Knuth's way, the order -/
/-- The lowest form of a fraction. -/
def lowN (N : Int) (D : Nat) : Int := sg (decide (N < 0)) (N.natAbs / Nat.gcd N.natAbs D)
def lowD (N : Int) (D : Nat) : Nat := D / Nat.gcd N.natAbs D

theorem sg_natAbs_of (m : Bool) (n : Nat) : (sg m n).natAbs = n := by cases m <;> simp [sg]
theorem sg_self (z : Int) : sg (decide (z < 0)) z.natAbs = z := by
  unfold sg
  by_cases h : z < 0
  · rw [decide_eq_true h, if_pos rfl]; omega
  · rw [decide_eq_false h]; simp; omega
theorem sg_mul (m : Bool) (a b : Nat) : sg m (a * b) = sg m a * b := by
  cases m
  · simp [sg]
  · simp [sg, Int.neg_mul]
theorem lowN_spec (N : Int) (D : Nat) : lowN N D * (Nat.gcd N.natAbs D : Nat) = N := by
  unfold lowN
  rw [← sg_mul, Nat.div_mul_cancel (Nat.gcd_dvd_left _ _), sg_self]
theorem lowD_spec (N : Int) (D : Nat) : lowD N D * Nat.gcd N.natAbs D = D := Nat.div_mul_cancel (Nat.gcd_dvd_right _ _)
theorem lowD_pos (N : Int) (D : Nat) (h : 0 < D) : 0 < lowD N D := Nat.div_pos (Nat.le_of_dvd h (Nat.gcd_dvd_right _ _)) (Nat.gcd_pos_of_pos_right _ h)
theorem low_ok (N : Int) (D : Nat) (h : 0 < D) : RatOk (lowN N D) (lowD N D) := by
  refine ⟨by have := lowD_pos N D h; omega, ?_⟩
  unfold lowN lowD
  rw [sg_natAbs_of, Int.natAbs_natCast]
  exact Nat.gcd_div_gcd_div_gcd_of_pos_right h
theorem low_cross (N : Int) (D : Nat) : lowN N D * D = N * lowD N D := by
  have h1 := lowN_spec N D
  have h2 := lowD_spec N D
  generalize Nat.gcd N.natAbs D = g at *
  generalize lowN N D = n at *
  generalize lowD N D = d at *
  rw [← h2, ← h1, Int.natCast_mul, Int.mul_assoc, Int.mul_comm (g : Int)]
theorem low_of (N : Int) (D g n d : Nat) (m : Bool) (hg : Nat.gcd N.natAbs D = g) (hD : 0 < D) (hN : sg m (n * g) = N) (hd : D = d * g) : lowN N D = sg m n ∧ lowD N D = d := by
  have hgp : 0 < g := by rw [← hg]; exact Nat.gcd_pos_of_pos_right _ hD
  have e1 : N.natAbs = n * g := by rw [← hN, sg_natAbs_of]
  unfold lowN lowD
  rw [hg, e1, Nat.mul_div_cancel _ hgp, hd, Nat.mul_div_cancel _ hgp]
  refine ⟨?_, rfl⟩
  by_cases h0 : n = 0
  · subst h0; cases m <;> simp [sg]
  · have : 0 < n * g := Nat.mul_pos (by omega) hgp
    cases m
    · have : ¬ N < 0 := by rw [← hN]; have := Int.natCast_nonneg (n * g); simp only [sg]; rw [if_neg (by simp)]; omega
      rw [decide_eq_false this]
    · have : N < 0 := by rw [← hN]; simp only [sg, if_true]; omega
      rw [decide_eq_true this]
/-- What two products with signs add up to. -/
theorem bM_val (x y : Int) : sg (bS x.natAbs (decide (x < 0)) y.natAbs (decide (y < 0))) (bM x.natAbs (decide (x < 0)) y.natAbs (decide (y < 0))) = x + y := by
  rcases Int.natAbs_eq x with e | e <;> rcases Int.natAbs_eq y with f | f <;> (generalize x.natAbs = p at *; generalize y.natAbs = q at *; subst e; subst f)
  all_goals unfold bM bS
  · have h1 : decide ((p : Int) < 0) = false := decide_eq_false (by omega)
    have h2 : decide ((q : Int) < 0) = false := decide_eq_false (by omega)
    rw [h1, h2]; simp [sg]
  · have h1 : decide ((p : Int) < 0) = false := decide_eq_false (by omega)
    rcases Nat.eq_zero_or_pos q with h | h
    · subst h; simp [h1, sg]
    · have h2 : decide (-(q : Int) < 0) = true := decide_eq_true (by omega)
      rw [h1, h2]
      by_cases hl : p < q <;> simp [hl, sg] <;> omega
  · have h2 : decide ((q : Int) < 0) = false := decide_eq_false (by omega)
    rcases Nat.eq_zero_or_pos p with h | h
    · subst h; simp [h2, sg]
    · have h1 : decide (-(p : Int) < 0) = true := decide_eq_true (by omega)
      rw [h1, h2]
      by_cases hl : p < q <;> simp [hl, sg] <;> omega
  · rcases Nat.eq_zero_or_pos p with h | h
    · subst h
      rcases Nat.eq_zero_or_pos q with h' | h'
      · subst h'; simp [sg]
      · have h2 : decide (-(q : Int) < 0) = true := decide_eq_true (by omega)
        rw [h2]; simp [h', sg]
    · have h1 : decide (-(p : Int) < 0) = true := decide_eq_true (by omega)
      rcases Nat.eq_zero_or_pos q with h' | h'
      · subst h'
        rw [h1]; simp [sg]
      · have h2 : decide (-(q : Int) < 0) = true := decide_eq_true (by omega)
        rw [h1, h2, if_pos rfl, if_pos rfl]; simp only [sg, if_true]; omega
theorem neg_mulN (a : Int) (n : Nat) (h : 0 < n) : (a * n < 0) ↔ a < 0 := by
  constructor
  · intro h1
    by_cases h2 : a < 0
    · exact h2
    · have := Int.mul_nonneg (Int.not_lt.1 h2) (Int.natCast_nonneg n); omega
  · intro h1; exact Int.mul_neg_of_neg_of_pos h1 (by omega)
/-- Knuth's: the sum of two rationals by the denominators' common divisor. -/
theorem sum_low (an bn : Int) (a b : Nat) (h1 : RatOk an a) (h2 : RatOk bn b) :
    lowN (an * b + bn * a) (a * b) = sumZ an a bn b ∧ lowD (an * b + bn * a) (a * b) = sumE an a bn b := by
  obtain ⟨ha0, ha1⟩ := h1
  obtain ⟨hb0, hb1⟩ := h2
  rw [Int.natAbs_natCast] at ha1 hb1
  have ha : 0 < a := by omega
  have hb : 0 < b := by omega
  have hgp : 0 < Nat.gcd a b := Nat.gcd_pos_of_pos_left _ ha
  have ea : a / Nat.gcd a b * Nat.gcd a b = a := Nat.div_mul_cancel (Nat.gcd_dvd_left _ _)
  have eb : b / Nat.gcd a b * Nat.gcd a b = b := Nat.div_mul_cancel (Nat.gcd_dvd_right _ _)
  have hco : Nat.gcd (a / Nat.gcd a b) (b / Nat.gcd a b) = 1 := Nat.gcd_div_gcd_div_gcd_of_pos_left ha
  unfold sumZ sumE sumG sumM sumB
  simp only [Int.natAbs_natCast]
  generalize Nat.gcd a b = g at *
  generalize a / g = a' at *
  generalize b / g = b' at *
  have ha' : 0 < a' := by rcases Nat.eq_zero_or_pos a' with h | h; (subst h; omega); exact h
  have hb' : 0 < b' := by rcases Nat.eq_zero_or_pos b' with h | h; (subst h; omega); exact h
  have k1 : an.natAbs * b' = (an * b').natAbs := by rw [Int.natAbs_mul, Int.natAbs_natCast]
  have k2 : bn.natAbs * a' = (bn * a').natAbs := by rw [Int.natAbs_mul, Int.natAbs_natCast]
  have k3 : decide (an < 0) = decide (an * b' < 0) := by rw [decide_eq_decide, neg_mulN _ _ hb']
  have k4 : decide (bn < 0) = decide (bn * a' < 0) := by rw [decide_eq_decide, neg_mulN _ _ ha']
  rw [k1, k2, k3, k4]
  have hv := bM_val (an * b') (bn * a')
  generalize hM : bM (an * b').natAbs (decide (an * b' < 0)) (bn * a').natAbs (decide (bn * a' < 0)) = M at *
  generalize bS (an * b').natAbs (decide (an * b' < 0)) (bn * a').natAbs (decide (bn * a' < 0)) = s at *
  have hMa : M = (an * b' + bn * a').natAbs := by rw [← hv, sg_natAbs_of]
  have hgm : Nat.gcd g (M % g) = Nat.gcd M g := by rw [Nat.gcd_comm, ← Nat.gcd_rec]; exact Nat.gcd_comm _ _
  rw [hgm]
  -- M is prime to a' and to b'
  have pa : Nat.gcd M a' = 1 := by
    have h1 : Nat.gcd M a' ∣ (an * b').natAbs := by
      have d1 : ((Nat.gcd M a' : Nat) : Int) ∣ an * b' + bn * a' := by
        rw [← Int.natAbs_dvd_natAbs, Int.natAbs_natCast, ← hMa]; exact Nat.gcd_dvd_left _ _
      have d2 : ((Nat.gcd M a' : Nat) : Int) ∣ bn * a' := Int.dvd_mul_of_dvd_right (Int.natCast_dvd_natCast.2 (Nat.gcd_dvd_right _ _))
      have := Int.dvd_sub d1 d2
      rw [Int.add_sub_cancel] at this
      rw [← Int.natAbs_dvd_natAbs, Int.natAbs_natCast] at this; exact this
    rw [← k1] at h1
    have c1 : Nat.Coprime (Nat.gcd M a') an.natAbs := Nat.Coprime.coprime_dvd_left (Nat.dvd_trans (Nat.gcd_dvd_right M a') ⟨g, ea.symm⟩) (Nat.coprime_comm.1 ha1)
    have c2 : Nat.Coprime (Nat.gcd M a') b' := Nat.Coprime.coprime_dvd_left (Nat.gcd_dvd_right M a') hco
    have := Nat.Coprime.mul_right c1 c2
    exact Nat.Coprime.eq_one_of_dvd this h1
  have pb : Nat.gcd M b' = 1 := by
    have h1 : Nat.gcd M b' ∣ (bn * a').natAbs := by
      have d1 : ((Nat.gcd M b' : Nat) : Int) ∣ an * b' + bn * a' := by
        rw [← Int.natAbs_dvd_natAbs, Int.natAbs_natCast, ← hMa]; exact Nat.gcd_dvd_left _ _
      have d2 : ((Nat.gcd M b' : Nat) : Int) ∣ an * b' := Int.dvd_mul_of_dvd_right (Int.natCast_dvd_natCast.2 (Nat.gcd_dvd_right _ _))
      have := Int.dvd_sub d1 d2
      rw [Int.add_comm, Int.add_sub_cancel] at this
      rw [← Int.natAbs_dvd_natAbs, Int.natAbs_natCast] at this; exact this
    rw [← k2] at h1
    have c1 : Nat.Coprime (Nat.gcd M b') bn.natAbs := Nat.Coprime.coprime_dvd_left (Nat.dvd_trans (Nat.gcd_dvd_right M b') ⟨g, eb.symm⟩) (Nat.coprime_comm.1 hb1)
    have c2 : Nat.Coprime (Nat.gcd M b') a' := Nat.Coprime.coprime_dvd_left (Nat.gcd_dvd_right M b') (Nat.coprime_comm.1 hco)
    have := Nat.Coprime.mul_right c1 c2
    exact Nat.Coprime.eq_one_of_dvd this h1
  have hN : an * b + bn * a = (an * b' + bn * a') * (g : Nat) := by
    rw [← ea, ← eb, Int.natCast_mul, Int.natCast_mul, Int.add_mul, Int.mul_assoc, Int.mul_assoc]
  have hND : Nat.gcd (an * b + bn * a).natAbs (a * b) = Nat.gcd M g * g := by
    rw [hN, Int.natAbs_mul, Int.natAbs_natCast, ← hMa]
    have : a * b = a' * b' * g * g := by rw [← ea, ← eb, Nat.mul_assoc a' b' g, Nat.mul_comm b' g]; simp only [Nat.mul_assoc, Nat.mul_comm, Nat.mul_left_comm]
    rw [this, Nat.gcd_mul_right]
    congr 1
    have cm : Nat.Coprime M (a' * b') := Nat.Coprime.mul_right pa pb
    exact Nat.Coprime.gcd_mul_left_cancel_right _ (Nat.coprime_comm.1 cm) |> fun h => by first | exact h | (rw [Nat.mul_comm]; exact h)
  have hGg : Nat.gcd M g ∣ g := Nat.gcd_dvd_right _ _
  have hGM : Nat.gcd M g ∣ M := Nat.gcd_dvd_left _ _
  have hGp : 0 < Nat.gcd M g := Nat.gcd_pos_of_pos_right _ hgp
  generalize Nat.gcd M g = G at *
  obtain ⟨q, rfl⟩ := hGg
  obtain ⟨m, hm⟩ := hGM
  have e1 : M / G = m := by rw [hm, Nat.mul_div_cancel_left _ hGp]
  have e2 : b / G = b' * q := by rw [← eb, show b' * (G * q) = G * (b' * q) by simp only [Nat.mul_comm, Nat.mul_left_comm], Nat.mul_div_cancel_left _ hGp]
  rw [e1, e2]
  refine low_of _ _ (G * (G * q)) m (a' * (b' * q)) s hND (Nat.mul_pos ha hb) ?_ ?_
  · rw [hN, ← hv, ← sg_mul, hm]; congr 1; simp only [Nat.mul_comm, Nat.mul_left_comm]
  · rw [← ea, ← eb]; simp only [Nat.mul_assoc, Nat.mul_comm, Nat.mul_left_comm]
theorem times_low (an n : Int) (a : Nat) (h1 : RatOk an a) : lowN (an * n) a = timesZ an a n ∧ (lowD (an * n) a : Int) = timesD a n := by
  obtain ⟨ha0, ha1⟩ := h1
  rw [Int.natAbs_natCast] at ha1
  have hg : Nat.gcd (an * n).natAbs a = Nat.gcd n.natAbs a := by
    rw [Int.natAbs_mul]
    exact Nat.Coprime.gcd_mul_left_cancel _ ha1
  unfold timesZ timesD
  rw [Int.natAbs_natCast]
  have hgp : 0 < Nat.gcd n.natAbs a := Nat.gcd_pos_of_pos_right _ (by omega)
  have hd1 : Nat.gcd n.natAbs a ∣ n.natAbs := Nat.gcd_dvd_left _ _
  have hd2 : Nat.gcd n.natAbs a ∣ a := Nat.gcd_dvd_right _ _
  generalize Nat.gcd n.natAbs a = g at *
  have := low_of (an * n) a g (an.natAbs * (n.natAbs / g)) (a / g) (decide (an < 0) != decide (n < 0)) hg (by omega) ?_ (Nat.div_mul_cancel hd2).symm
  · exact ⟨this.1, by rw [this.2]⟩
  · rw [Nat.mul_assoc, Nat.div_mul_cancel hd1]
    rcases Int.natAbs_eq an with e | e <;> rcases Int.natAbs_eq n with f | f <;> (generalize an.natAbs = x at *; generalize n.natAbs = y at *; subst e; subst f)
    · rw [decide_eq_false (by omega), decide_eq_false (by omega)]; simp [sg]
    · rcases Nat.eq_zero_or_pos y with h | h
      · subst h; simp [sg]
      · rw [decide_eq_false (by omega), decide_eq_true (by omega)]; simp [sg, Int.mul_neg]
    · rcases Nat.eq_zero_or_pos x with h | h
      · subst h; simp [sg]
      · rw [decide_eq_true (by omega), decide_eq_false (by omega)]; simp [sg, Int.neg_mul]
    · rcases Nat.eq_zero_or_pos x with h | h
      · subst h; simp [sg]
      · rcases Nat.eq_zero_or_pos y with h' | h'
        · subst h'; simp [sg]
        · rw [decide_eq_true (by omega), decide_eq_true (by omega)]; simp [sg, Int.neg_mul, Int.mul_neg]
theorem rat_low (num : Int) (d : Nat) : lowN num d = ratN num d ∧ (lowD num d : Int) = ratD num d := by
  unfold lowN lowD ratN ratD
  rw [Int.natAbs_natCast]
  exact ⟨rfl, rfl⟩
/-- A rational of a fraction that has no common divisor is itself. -/
theorem low_self (n : Int) (d : Nat) (h : RatOk n d) : lowN n d = n ∧ lowD n d = d := by
  have h2 := h.2
  rw [Int.natAbs_natCast] at h2
  unfold lowN lowD
  rw [h2, Nat.div_one, Nat.div_one, sg_self]
  exact ⟨rfl, rfl⟩
theorem low_self_iff (n : Int) (d : Nat) (hd : 0 < d) : (lowN n d = n ∧ lowD n d = d) ↔ RatOk n d := by
  refine ⟨fun h => ?_, low_self n d⟩
  have := low_ok n d hd
  rw [h.1, h.2] at this
  exact this
/-! ### the order -/
theorem ratio_eq (an bn : Int) (a b : Nat) (h1 : RatOk an a) (h2 : RatOk bn b) (h : an * b = bn * a) : an = bn ∧ a = b := by
  obtain ⟨ha0, ha1⟩ := h1
  obtain ⟨hb0, hb1⟩ := h2
  rw [Int.natAbs_natCast] at ha1 hb1
  have hab : an.natAbs * b = bn.natAbs * a := by
    have := congrArg Int.natAbs h
    rwa [Int.natAbs_mul, Int.natAbs_mul, Int.natAbs_natCast, Int.natAbs_natCast] at this
  have d1 : a ∣ b := Nat.Coprime.dvd_of_dvd_mul_left (Nat.coprime_comm.1 ha1) ⟨bn.natAbs, by rw [hab, Nat.mul_comm]⟩
  have d2 : b ∣ a := Nat.Coprime.dvd_of_dvd_mul_left (Nat.coprime_comm.1 hb1) ⟨an.natAbs, by rw [← hab, Nat.mul_comm]⟩
  have e := Nat.dvd_antisymm d1 d2
  subst e
  exact ⟨Int.eq_of_mul_eq_mul_right (by omega) h, rfl⟩
theorem sign_scale (x : Int) (k : Int) (hk : 0 < k) : (x * k).sign = x.sign := by rw [Int.sign_mul, Int.sign_eq_one_of_pos hk, Int.mul_one]
theorem cmp_trans (an bn cn : Int) (a b c : Nat) (ha : 0 < a) (hb : 0 < b) (hc : 0 < c) (h1 : an * b < bn * a) (h2 : bn * c < cn * b) : an * c < cn * a := by
  have k1 : an * b * c < bn * a * c := Int.mul_lt_mul_of_pos_right h1 (by omega)
  have k2 : bn * c * a < cn * b * a := Int.mul_lt_mul_of_pos_right h2 (by omega)
  have e1 : an * b * c = an * c * b := by simp only [Int.mul_assoc, Int.mul_comm, Int.mul_left_comm]
  have e2 : bn * a * c = bn * c * a := by simp only [Int.mul_assoc, Int.mul_comm, Int.mul_left_comm]
  have e3 : cn * b * a = cn * a * b := by simp only [Int.mul_assoc, Int.mul_comm, Int.mul_left_comm]
  rw [e1, e2] at k1
  rw [e3] at k2
  exact Int.lt_of_mul_lt_mul_right (Int.lt_trans k1 k2) (by omega)
theorem low_order (an bn cn : Int) (a b c : Nat) (ha : 0 < a) (hb : 0 < b) (hc : 0 < c) :
    (lowN (an * c + cn * a) (a * c) * lowD (bn * c + cn * b) (b * c) - lowN (bn * c + cn * b) (b * c) * lowD (an * c + cn * a) (a * c)).sign = (an * b - bn * a).sign := by
  have k1 := low_cross (an * c + cn * a) (a * c)
  have k2 := low_cross (bn * c + cn * b) (b * c)
  have p1 := lowD_pos (an * c + cn * a) (a * c) (Nat.mul_pos ha hc)
  have p2 := lowD_pos (bn * c + cn * b) (b * c) (Nat.mul_pos hb hc)
  generalize lowN (an * c + cn * a) (a * c) = xn at *
  generalize lowD (an * c + cn * a) (a * c) = xd at *
  generalize lowN (bn * c + cn * b) (b * c) = yn at *
  generalize lowD (bn * c + cn * b) (b * c) = yd at *
  rw [← sign_scale (xn * yd - yn * xd) ((a : Int) * c * (b * c)) (by apply Int.mul_pos <;> apply Int.mul_pos <;> omega), ← sign_scale (an * b - bn * a) ((xd : Int) * yd * (c * c)) (by apply Int.mul_pos <;> apply Int.mul_pos <;> omega)]
  congr 1
  rw [Int.natCast_mul] at k1 k2
  have e1 : (xn * yd - yn * xd) * ((a : Int) * c * (b * c)) = xn * (a * c) * (yd * (b * c)) - yn * (b * c) * (xd * (a * c)) := by
    rw [Int.sub_mul]; simp only [Int.mul_assoc, Int.mul_comm, Int.mul_left_comm]
  rw [e1, k1, k2]
  simp only [Int.add_mul, Int.sub_mul]
  have e2 : cn * a * xd * (yd * (b * c)) = cn * b * yd * (xd * (a * c)) := by simp only [Int.mul_assoc, Int.mul_comm, Int.mul_left_comm]
  have e3 : an * c * xd * (yd * (b * c)) = an * b * (xd * yd * (c * c)) := by simp only [Int.mul_assoc, Int.mul_comm, Int.mul_left_comm]
  have e4 : bn * c * yd * (xd * (a * c)) = bn * a * (xd * yd * (c * c)) := by simp only [Int.mul_assoc, Int.mul_comm, Int.mul_left_comm]
  rw [e2, e3, e4]
  omega

/-- A fraction's answer: its lowest form, or none. -/
def LowR (N : Int) (D : Nat) (xn xd e : Int) : Prop := (e = 0 ∧ xn = lowN N D ∧ xd = lowD N D ∧ i64in xn ∧ i64in xd ∧ RatOk xn xd ∧ fits (lowN N D) ∧ lowD N D < 9223372036854775808) ∨ (e = 1 ∧ xn = 0 ∧ xd = 0 ∧ ¬ (fits (lowN N D) ∧ lowD N D < 9223372036854775808))
theorem lowR_ex (N : Int) (D : Nat) (hD : 0 < D) : ∃ xn xd e, LowR N D xn xd e := by
  by_cases h : fits (lowN N D) ∧ lowD N D < 9223372036854775808
  · exact ⟨_, _, _, .inl ⟨rfl, rfl, rfl, (by have := h.1; unfold fits at this; unfold i64in; omega), (by unfold i64in; omega), low_ok N D hD, h.1, h.2⟩⟩
  · exact ⟨_, _, _, .inr ⟨rfl, rfl, rfl, h⟩⟩
theorem sumV_low (an bn : Int) (a b : Nat) (h1 : RatOk an a) (h2 : RatOk bn b) {xn xd e : Int} (h : LowR (an * b + bn * a) (a * b) xn xd e) : sumV an a bn b = .tuple #[rat xn xd, .int .i64 e] := by
  have ha : 0 < a := by have := h1.1; omega
  have hb : 0 < b := by have := h2.1; omega
  obtain ⟨l1, l2⟩ := sum_low an bn a b h1 h2
  have l0 : sumM an a bn b = 0 → lowN (an * b + bn * a) (a * b) = 0 ∧ lowD (an * b + bn * a) (a * b) = 1 := by
    intro hm
    have z1 : lowN (an * b + bn * a) (a * b) = 0 := by rw [l1]; unfold sumZ; rw [hm, Nat.zero_div]; cases sumB an a bn b <;> rfl
    refine ⟨z1, ?_⟩
    have := low_cross (an * b + bn * a) (a * b)
    have z2 := low_ok (an * b + bn * a) (a * b) (Nat.mul_pos ha hb)
    rw [z1] at z2
    have z3 := z2.2
    rw [Int.natAbs_natCast] at z3
    simpa using z3
  unfold sumV
  rw [← l1, ← l2]
  by_cases hm : sumM an a bn b = 0
  · rw [if_pos hm]
    obtain ⟨z1, z2⟩ := l0 hm
    rcases h with ⟨rfl, rfl, rfl, _⟩ | ⟨_, _, _, h⟩
    · rw [z1, z2]; rfl
    · exact absurd (by rw [z1, z2]; exact ⟨by decide, by omega⟩) h
  · rw [if_neg hm]
    rcases h with ⟨rfl, rfl, rfl, _, _, _, h⟩ | ⟨rfl, rfl, rfl, h⟩
    · rw [if_pos h]
    · rw [if_neg h]
theorem rsum_any (an bn : Int) (a b : Nat) (w : World) (ha : i64in an) (hd : i64in a) (hb : i64in bn) (hbd : i64in b) (h1 : RatOk an a) (h2 : RatOk bn b) {xn xd e : Int} (h : LowR (an * b + bn * a) (a * b) xn xd e) :
    Calls Try.prog 64 #[rat an a, rat bn b] w fun f w' => f = .returned (.tuple #[rat xn xd, .int .i64 e]) ∧ Same w w' := by
  rw [← sumV_low an bn a b h1 h2 h]
  exact sum_go an a bn b w ha hd hb hbd h1 h2
theorem ratio_low (num : Int) (d : Nat) (w : World) (hn : i64in num) (hd : i64in d) (h0 : 0 < d) {xn xd e : Int} (h : LowR num d xn xd e) :
    Calls Try.prog 34 #[.int .i64 num, .int .i64 d] w fun f w' => f = .returned (.tuple #[rat xn xd, .int .i64 e]) ∧ Same w w' := by
  refine (ratio_any num d w hn hd (by omega)).mono fun f w' ⟨h', hS⟩ => ⟨?_, hS⟩
  rw [h']
  obtain ⟨l1, l2⟩ := rat_low num d
  rw [← l1, ← l2]
  rcases h with ⟨rfl, rfl, rfl, _⟩ | ⟨_, _, _, h⟩
  · rfl
  · have hgp : 0 < Nat.gcd num.natAbs d := Nat.gcd_pos_of_pos_right _ h0
    have h1 : fits (lowN num d) := sg_natAbs num _ hgp hn
    have h2 : lowD num d ≤ d := Nat.div_le_self _ _
    have := hd.2
    exact absurd ⟨h1, by omega⟩ h
theorem rcompare_any (an bn : Int) (a b : Nat) (w : World) (ha : i64in an) (hd : i64in a) (hb : i64in bn) (hbd : i64in b) (h1 : RatOk an a) (h2 : RatOk bn b) :
    Calls Try.prog 38 #[rat an a, rat bn b] w fun e w' => e = .returned (.int .i64 (an * b - bn * a).sign) ∧ Same w w' := by
  have pa : 0 < a := by have := h1.1; omega
  have pb : 0 < b := by have := h2.1; omega
  by_cases he : an = bn ∧ (a : Int) = b
  · obtain ⟨rfl, hab⟩ := he
    obtain rfl : a = b := by omega
    rw [show an * (a : Int) - an * a = 0 by omega]
    exact compare_eq an a w ha hd h1
  · have hne : an * b ≠ bn * a := fun h => he (by have := ratio_eq an bn a b h1 h2 h; exact ⟨this.1, by rw [this.2]⟩)
    have n1 := fun h => Int.mul_neg_of_neg_of_pos (a := an) (b := b) h (by omega)
    have n2 := fun h => Int.mul_neg_of_neg_of_pos (a := bn) (b := a) h (by omega)
    have p1 := fun h => Int.mul_nonneg (a := an) (b := b) h (by omega)
    have p2 := fun h => Int.mul_nonneg (a := bn) (b := a) h (by omega)
    by_cases g1 : an < 0 <;> by_cases g2 : bn < 0
    · have hm := compare_main an a bn b w ha hd hb hbd h1 h2 he (by omega)
      have e1 : (an.natAbs * b : Nat) = -(an * b) := by rw [Int.natCast_mul, Int.ofNat_natAbs_of_nonpos (by omega), Int.neg_mul]
      have e2 : (bn.natAbs * a : Nat) = -(bn * a) := by rw [Int.natCast_mul, Int.ofNat_natAbs_of_nonpos (by omega), Int.neg_mul]
      rw [Int.natAbs_natCast, Int.natAbs_natCast, decide_eq_true g1] at hm
      generalize an.natAbs * b = X at *
      generalize bn.natAbs * a = Y at *
      generalize an * b = x at *
      generalize bn * a = y at *
      by_cases hl : X < Y
      · rw [decide_eq_true hl, if_neg (by simp)] at hm
        rw [Int.sign_eq_one_of_pos (by omega)]
        exact hm
      · rw [decide_eq_false hl, if_pos (by simp)] at hm
        rw [Int.sign_eq_neg_one_of_neg (by omega)]
        exact hm
    · rw [Int.sign_eq_neg_one_of_neg (by have := n1 g1; have := p2 (by omega); omega)]
      exact compare_neg an a bn b w ha hd hb hbd h1 h2 g1 (by omega)
    · rw [Int.sign_eq_one_of_pos (by have := p1 (by omega); have := n2 g2; omega)]
      exact compare_pos an a bn b w ha hd hb hbd h1 h2 (by omega) g2
    · have hm := compare_main an a bn b w ha hd hb hbd h1 h2 he (by omega)
      have e1 : (an.natAbs * b : Nat) = an * b := by rw [Int.natCast_mul, Int.natAbs_of_nonneg (by omega)]
      have e2 : (bn.natAbs * a : Nat) = bn * a := by rw [Int.natCast_mul, Int.natAbs_of_nonneg (by omega)]
      rw [Int.natAbs_natCast, Int.natAbs_natCast, decide_eq_false g1] at hm
      generalize an.natAbs * b = X at *
      generalize bn.natAbs * a = Y at *
      generalize an * b = x at *
      generalize bn * a = y at *
      by_cases hl : X < Y
      · rw [decide_eq_true hl, if_pos (by simp)] at hm
        rw [Int.sign_eq_neg_one_of_neg (by omega)]
        exact hm
      · rw [decide_eq_false hl, if_neg (by simp)] at hm
        rw [Int.sign_eq_one_of_pos (by omega)]
        exact hm
end Go.Proofs.Ytpgbnjneoejebaa
