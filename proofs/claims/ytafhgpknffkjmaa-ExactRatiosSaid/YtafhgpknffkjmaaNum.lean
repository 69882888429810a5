import Derived.Test.YtafhgpknffkjmaaBig
import Derived.Lib.Mul64
import Derived.Laws.Bits64b
import Derived.Shelf.Bits.Mul64
set_option linter.unusedVariables false
set_option linter.unusedSimpArgs false
namespace Go.Proofs.Ytafhgpknffkjmaa
open Go.RowKit Go.Lib

set_option maxHeartbeats 1000000 in
theorem mul64_any (x y : Nat) (hx : x < 18446744073709551616) (hy : y < 18446744073709551616) (w : World) :
    Calls Try.prog 84 #[.int .u64 x, .int .u64 y] w fun e w' => e = .returned (.tuple #[.int .u64 ((x * y / 18446744073709551616 : Nat) : Int), .int .u64 ((x * y % 18446744073709551616 : Nat) : Int)]) ∧ w' = w := by
  obtain ⟨bd, bt, bw, hhi⟩ := Lib.mul64_hi x y hx hy
  have ba := Lib.half_mul_le (a := x / 4294967296) (b := y / 4294967296) (by omega) (by omega)
  have bb := Lib.half_mul_le (a := x / 4294967296) (b := y % 4294967296) (by omega) (by omega)
  have bc := Lib.half_mul_le (a := x % 4294967296) (b := y / 4294967296) (by omega) (by omega)
  have ba' : x / 4294967296 * (y / 4294967296) < 18446744073709551616 := by omega
  have bb' : x / 4294967296 * (y % 4294967296) < 18446744073709551616 := by omega
  have bc' : x % 4294967296 * (y / 4294967296) < 18446744073709551616 := by omega
  have bh1 : x / 4294967296 * (y / 4294967296) + (x / 4294967296 * (y % 4294967296) + x % 4294967296 * (y % 4294967296) / 4294967296) / 4294967296 < 18446744073709551616 := by omega
  have bh : x / 4294967296 * (y / 4294967296) + (x / 4294967296 * (y % 4294967296) + x % 4294967296 * (y % 4294967296) / 4294967296) / 4294967296 + ((x / 4294967296 * (y % 4294967296) + x % 4294967296 * (y % 4294967296) / 4294967296) % 4294967296 + x % 4294967296 * (y / 4294967296)) / 4294967296 < 18446744073709551616 := by omega
  go_enter Try.func84, Try.ntmps84
  go_wp2
  simp only [Mul64.maskN x hx, Mul64.maskN y hy, Mul64.divN, Mul64.mulN, Mul64.addN, Mul64.wrapN _ bd, Mul64.wrapN _ bb', Mul64.wrapN _ bt, Mul64.maskN _ bt, Mul64.wrapN _ bc', Mul64.wrapN _ bw, Mul64.wrapN _ ba', Mul64.wrapN _ bh1, Mul64.wrapN _ bh, Mul64.wrapM (x * y)]
  rw [hhi]
  go_ret2
  exact ⟨rfl, rfl⟩

theorem wide_any (x y : Nat) (hx : x < 18446744073709551616) (hy : y < 18446744073709551616) (w : World) :
    Calls Try.prog 52 #[.int .u64 x, .int .u64 y] w fun e w' => e = .returned (.tuple #[.int .u64 ((x * y / 18446744073709551616 : Nat) : Int), .int .u64 ((x * y % 18446744073709551616 : Nat) : Int)]) ∧ w' = w := by
  have c := mul64_any x y hx hy w
  generalize x * y / 18446744073709551616 = h at *
  generalize x * y % 18446744073709551616 = l at *
  go_enter Try.func52, Try.ntmps52
  go_wp2_with (go_at_call 84; refine c.mono ?_; rintro e w' ⟨rfl, rfl⟩)
  go_ret2
  exact ⟨rfl, rfl⟩

theorem size_any (v : Int) (w : World) (hv : -9223372036854775808 ≤ v ∧ v ≤ 9223372036854775807) :
    Calls Try.prog 81 #[.int .i64 v] w fun e w' => e = .returned (.int .u64 (v.natAbs : Nat)) ∧ w' = w := by
  obtain ⟨n, hn⟩ : ∃ n : Nat, n = v.natAbs := ⟨_, rfl⟩
  rw [← hn]
  by_cases h0 : v < 0
  · have hz : v = -(n : Int) := by omega
    subst hz
    have u1 : IntKind.u64.wrap (-(n : Int)) = 18446744073709551616 - (n : Int) := by rw [IntKind.wrap_u64]; omega
    have u2 : IntKind.u64.wrap (-(18446744073709551616 - (n : Int))) = (n : Int) := by rw [IntKind.wrap_u64]; omega
    clear hn
    go_enter Try.func81, Try.ntmps81
    go_wp2
    go_ret
    exact ⟨rfl, rfl⟩
  · have hz : v = (n : Int) := by omega
    subst hz
    have u1 : IntKind.u64.wrap (n : Int) = (n : Int) := by rw [IntKind.wrap_u64]; omega
    clear hn
    go_enter Try.func81, Try.ntmps81
    go_wp2
    go_ret
    exact ⟨rfl, rfl⟩

/-- What 'signed' gives: the number, where it goes. -/
def sg (m : Bool) (n : Nat) : Int := if m then -(n : Int) else n
set_option maxRecDepth 100000 in
theorem signed_any (n : Nat) (m : Bool) (w : World) (hn : n < 18446744073709551616) :
    Calls Try.prog 82 #[.int .u64 n, .bool m] w fun e w' => e = .returned (.tuple #[.int .i64 (backI (sg m n)), .bool (decide (fits (sg m n)))]) ∧ w' = w := by
  cases m
  · show Calls Try.prog 82 _ w fun e w' => e = .returned (.tuple #[.int .i64 (backI (n : Int)), .bool (decide (fits (n : Int)))]) ∧ w' = w
    by_cases hf : n < 9223372036854775808
    · have h1 : fits (n : Int) := by unfold fits; omega
      have hb : backI (n : Int) = (n : Int) := by unfold backI; rw [if_pos h1]
      rw [hb, decide_eq_true h1]
      have hfI : (n : Int) < 9223372036854775808 := by omega
      clear hb h1 hf hn
      go_enter Try.func82, Try.ntmps82
      go_wp2
      go_ret2
      exact ⟨rfl, rfl⟩
    · have h1 : ¬ fits (n : Int) := by unfold fits; omega
      have hb : backI (n : Int) = 0 := by unfold backI; rw [if_neg h1]
      rw [hb, decide_eq_false h1]
      have hfI : decide ((n : Int) < 9223372036854775808) = false := decide_eq_false (by omega)
      clear hb h1 hf hn
      go_enter Try.func82, Try.ntmps82
      go_wp2
      go_ret2
      exact ⟨rfl, rfl⟩
  · show Calls Try.prog 82 _ w fun e w' => e = .returned (.tuple #[.int .i64 (backI (-(n : Int))), .bool (decide (fits (-(n : Int))))]) ∧ w' = w
    by_cases hf : n ≤ 9223372036854775808
    · have h1 : fits (-(n : Int)) := by unfold fits; omega
      have hb : backI (-(n : Int)) = -(n : Int) := by unfold backI; rw [if_pos h1]
      rw [hb, decide_eq_true h1]
      clear hb h1
      by_cases h63 : n = 9223372036854775808
      · have e1 : wrap64 (n : Int) = -(n : Int) := by unfold wrap64; omega
        have e3 : IntKind.i64.wrap (n : Int) = -(n : Int) := by rw [IntKind.wrap_i64]; omega
        have e2 : -(-(n : Int)) = (n : Int) := by omega
        clear h63
        go_enter Try.func82, Try.ntmps82
        go_wp2
        go_ret2
        exact ⟨rfl, rfl⟩
      · have hlt : n < 9223372036854775808 := by omega
        clear h63
        go_enter Try.func82, Try.ntmps82
        go_wp2
        go_ret2
        exact ⟨rfl, rfl⟩
    · have h1 : ¬ fits (-(n : Int)) := by unfold fits; omega
      have hb : backI (-(n : Int)) = 0 := by unfold backI; rw [if_neg h1]
      rw [hb, decide_eq_false h1]
      clear hb h1
      go_enter Try.func82, Try.ntmps82
      go_wp2
      go_ret2
      exact ⟨rfl, rfl⟩

set_option maxRecDepth 100000 in
theorem add_any (a b : Int) (w : World) (ha : -9223372036854775808 ≤ a ∧ a ≤ 9223372036854775807) (hb : -9223372036854775808 ≤ b ∧ b ≤ 9223372036854775807) :
    Calls Try.prog 46 #[.int .i64 a, .int .i64 b] w fun e w' => e = .returned (.tuple #[.int .i64 (backI (a + b)), .bool (decide (fits (a + b)))]) ∧ w' = w := by
  by_cases h1 : fits (a + b)
  · have hbk : backI (a + b) = a + b := by unfold backI; rw [if_pos h1]
    rw [hbk, decide_eq_true h1]
    obtain ⟨h2, h3⟩ := h1
    clear hbk
    rcases Int.lt_trichotomy b 0 with hb0 | hb0 | hb0
    · have g1 : ¬ a < a + b := by omega
      go_enter Try.func46, Try.ntmps46
      go_wp2
      go_ret2
      exact ⟨rfl, rfl⟩
    · subst hb0
      rw [Int.add_zero] at *
      go_enter Try.func46, Try.ntmps46
      go_wp2
      go_ret2
      exact ⟨rfl, rfl⟩
    · have g1 : a < a + b := by omega
      go_enter Try.func46, Try.ntmps46
      go_wp2
      go_ret2
      exact ⟨rfl, rfl⟩
  · have hbk : backI (a + b) = 0 := by unfold backI; rw [if_neg h1]
    rw [hbk, decide_eq_false h1]
    unfold fits at h1
    obtain ⟨c, hc⟩ : ∃ c, c = wrap64 (a + b) := ⟨_, rfl⟩
    have hcases : (0 < b ∧ c < a) ∨ (b < 0 ∧ a < c) := by unfold wrap64 at hc; omega
    have e1 : wrap64 (a + b) = c := hc.symm
    have e2 : IntKind.i64.wrap (a + b) = c := by rw [hc, IntKind.wrap_i64]; unfold wrap64; omega
    clear hbk hc h1
    rcases hcases with ⟨hb0, hca⟩ | ⟨hb0, hca⟩
    · have d1 : decide (a < c) = false := decide_eq_false (by omega)
      have d2 : decide (0 < b) = true := decide_eq_true hb0
      have d3 : (b != 0) = true := by simp; omega
      go_enter Try.func46, Try.ntmps46
      go_wp2
      go_ret2
      exact ⟨rfl, rfl⟩
    · have d1 : decide (a < c) = true := decide_eq_true hca
      have d2 : decide (0 < b) = false := decide_eq_false (by omega)
      have d3 : (b != 0) = true := by simp; omega
      go_enter Try.func46, Try.ntmps46
      go_wp2
      go_ret2
      exact ⟨rfl, rfl⟩

theorem natAbs_lt (a : Int) (ha : -9223372036854775808 ≤ a ∧ a ≤ 9223372036854775807) : a.natAbs < 18446744073709551616 := by omega
theorem not_fits_big (z : Int) (h : 18446744073709551616 ≤ z.natAbs) : ¬ fits z := by unfold fits; omega
set_option maxRecDepth 100000 in
set_option maxHeartbeats 1000000 in
theorem mul_any (a b : Int) (w : World) (ha : -9223372036854775808 ≤ a ∧ a ≤ 9223372036854775807) (hb : -9223372036854775808 ≤ b ∧ b ≤ 9223372036854775807) :
    Calls Try.prog 50 #[.int .i64 a, .int .i64 b] w fun e w' => e = .returned (.tuple #[.int .i64 (backI (a * b)), .bool (decide (fits (a * b)))]) ∧ w' = w := by
  have c1 := fun w0 => size_any a w0 ha
  have c2 := fun w0 => size_any b w0 hb
  have c3 := fun w0 => wide_any a.natAbs b.natAbs (natAbs_lt a ha) (natAbs_lt b hb) w0
  have hmz : a.natAbs * b.natAbs = (a * b).natAbs := (Int.natAbs_mul a b).symm
  rw [hmz] at c3
  have hsg := sgn_mul a b
  have hnz : a * b ≠ 0 ↔ (a * b).natAbs ≠ 0 := by omega
  generalize hn : (a * b).natAbs = n at *
  generalize hz : a * b = z at *
  have C1 := Lib.hid c1; have C2 := Lib.hid c2; have HZ := Lib.hid hz
  clear c1 c2 hmz hz
  by_cases hbig : 18446744073709551616 ≤ n
  · have hnf := not_fits_big z (by omega)
    have hbk : backI z = 0 := by unfold backI; rw [if_neg hnf]
    rw [hbk, decide_eq_false hnf]
    have hne : ((n / 18446744073709551616 : Nat) : Int) ≠ 0 := by omega
    have hneb : (((n / 18446744073709551616 : Nat) : Int) != 0) = true := by simpa using hne
    generalize n / 18446744073709551616 = h at *
    generalize n % 18446744073709551616 = l at *
    have HX := Lib.hid hsg; have C3 := Lib.hid c3
    clear hsg hnf hbk hn hnz hne c3
    go_enter Try.func50, Try.ntmps50
    go_wp2_with fail
    refine (C1.out _).mono ?_
    rintro e w1 ⟨rfl, rfl⟩
    go_wp2_with fail
    refine (C2.out _).mono ?_
    rintro e w2 ⟨rfl, rfl⟩
    go_wp2_with fail
    refine (C3.out _).mono ?_
    rintro e w3 ⟨rfl, rfl⟩
    go_wp2_with fail
    go_ret2
    exact ⟨rfl, rfl⟩
  · have e1 : n / 18446744073709551616 = 0 := by omega
    have e2 : n % 18446744073709551616 = n := by omega
    rw [e1, e2] at c3
    have C3 := Lib.hid c3
    clear c3
    have hlt : n < 18446744073709551616 := by omega
    have hsz : sg (decide (z < 0)) n = z := by
      unfold sg
      by_cases h0 : z < 0
      · rw [decide_eq_true h0, if_pos rfl]; omega
      · rw [decide_eq_false h0]; simp; omega
    have c4 := fun w0 => signed_any n (decide (z < 0)) w0 hlt
    rw [hsz] at c4
    rw [← hsg] at c4
    have C4 := Lib.hid c4
    have hcase : (z = 0 ∧ n = 0) ∨ (z ≠ 0 ∧ 0 < n) := by omega
    clear c4 hsz e1 e2 hsg hn hnz hbig
    generalize hp : decide (a < 0) = p at *
    generalize hq : decide (b < 0) = q at *
    rcases hcase with ⟨hz0, hn0⟩ | ⟨hz0, hn0⟩
    · subst hn0
      have C5 := C4.out
      rw [show decide (z ≠ 0) = false by simp [hz0], Bool.and_false] at C5
      have C6 := Lib.hid C5
      clear C5 C4 hz0 hlt
      cases p
      all_goals cases q
      all_goals
        generalize backI z = bz at *
        generalize decide (fits z) = fz at *
        go_enter Try.func50, Try.ntmps50
        go_wp2_with fail
        refine (C1.out _).mono ?_
        rintro e w1 ⟨rfl, rfl⟩
        go_wp2_with fail
        refine (C2.out _).mono ?_
        rintro e w2 ⟨rfl, rfl⟩
        go_wp2_with fail
        refine (C3.out _).mono ?_
        rintro e w3 ⟨rfl, rfl⟩
        go_wp2_with fail
        refine (C6.out _).mono ?_
        rintro e w4 ⟨rfl, rfl⟩
        go_wp2_with fail
        go_ret2
        exact ⟨rfl, rfl⟩
    · have C5 := C4.out
      rw [show decide (z ≠ 0) = true by simp [hz0], Bool.and_true] at C5
      have hn1 : ((n : Int) != 0) = true := by simp; omega
      clear C4 hz0
      cases p
      all_goals cases q
      all_goals
        simp only [bne_self_eq_false, Bool.bne_true, Bool.bne_false, Bool.not_true, Bool.not_false, Bool.true_bne, Bool.false_bne] at C5
        have C6 := Lib.hid C5
        clear C5
        generalize backI z = bz at *
        generalize decide (fits z) = fz at *
        go_enter Try.func50, Try.ntmps50
        go_wp2_with fail
        refine (C1.out _).mono ?_
        rintro e w1 ⟨rfl, rfl⟩
        go_wp2_with fail
        refine (C2.out _).mono ?_
        rintro e w2 ⟨rfl, rfl⟩
        go_wp2_with fail
        refine (C3.out _).mono ?_
        rintro e w3 ⟨rfl, rfl⟩
        go_wp2_with fail
        refine (C6.out _).mono ?_
        rintro e w4 ⟨rfl, rfl⟩
        go_wp2_with fail
        go_ret2
        exact ⟨rfl, rfl⟩
end Go.Proofs.Ytafhgpknffkjmaa
