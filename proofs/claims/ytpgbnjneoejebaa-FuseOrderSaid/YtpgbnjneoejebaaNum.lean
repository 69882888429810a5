import Derived.Test.YtpgbnjneoejebaaRatL
import Derived.Lib.Mul64
import Derived.Laws.Bits64b
import Derived.Shelf.Bits.Mul64
set_option linter.unusedVariables false
set_option linter.unusedSimpArgs false
namespace Go.Proofs.Ytpgbnjneoejebaa
open Go.RowKit Go.Lib

set_option maxHeartbeats 1000000 in
theorem mul64_any (x y : Nat) (hx : x < 18446744073709551616) (hy : y < 18446744073709551616) (w : World) :
    Calls Try.prog 97 #[.int .u64 x, .int .u64 y] w fun e w' => e = .returned (.tuple #[.int .u64 ((x * y / 18446744073709551616 : Nat) : Int), .int .u64 ((x * y % 18446744073709551616 : Nat) : Int)]) ∧ w' = w := by
  obtain ⟨bd, bt, bw, hhi⟩ := Lib.mul64_hi x y hx hy
  have ba := Lib.half_mul_le (a := x / 4294967296) (b := y / 4294967296) (by omega) (by omega)
  have bb := Lib.half_mul_le (a := x / 4294967296) (b := y % 4294967296) (by omega) (by omega)
  have bc := Lib.half_mul_le (a := x % 4294967296) (b := y / 4294967296) (by omega) (by omega)
  have ba' : x / 4294967296 * (y / 4294967296) < 18446744073709551616 := by omega
  have bb' : x / 4294967296 * (y % 4294967296) < 18446744073709551616 := by omega
  have bc' : x % 4294967296 * (y / 4294967296) < 18446744073709551616 := by omega
  have bh1 : x / 4294967296 * (y / 4294967296) + (x / 4294967296 * (y % 4294967296) + x % 4294967296 * (y % 4294967296) / 4294967296) / 4294967296 < 18446744073709551616 := by omega
  have bh : x / 4294967296 * (y / 4294967296) + (x / 4294967296 * (y % 4294967296) + x % 4294967296 * (y % 4294967296) / 4294967296) / 4294967296 + ((x / 4294967296 * (y % 4294967296) + x % 4294967296 * (y % 4294967296) / 4294967296) % 4294967296 + x % 4294967296 * (y / 4294967296)) / 4294967296 < 18446744073709551616 := by omega
  go_enter Try.func97, Try.ntmps97
  go_wp2
  simp only [Mul64.maskN x hx, Mul64.maskN y hy, Mul64.divN, Mul64.mulN, Mul64.addN, Mul64.wrapN _ bd, Mul64.wrapN _ bb', Mul64.wrapN _ bt, Mul64.maskN _ bt, Mul64.wrapN _ bc', Mul64.wrapN _ bw, Mul64.wrapN _ ba', Mul64.wrapN _ bh1, Mul64.wrapN _ bh, Mul64.wrapM (x * y)]
  rw [hhi]
  go_ret2
  exact ⟨rfl, rfl⟩

theorem wide_any (x y : Nat) (hx : x < 18446744073709551616) (hy : y < 18446744073709551616) (w : World) :
    Calls Try.prog 69 #[.int .u64 x, .int .u64 y] w fun e w' => e = .returned (.tuple #[.int .u64 ((x * y / 18446744073709551616 : Nat) : Int), .int .u64 ((x * y % 18446744073709551616 : Nat) : Int)]) ∧ w' = w := by
  have c := mul64_any x y hx hy w
  generalize x * y / 18446744073709551616 = h at *
  generalize x * y % 18446744073709551616 = l at *
  go_enter Try.func69, Try.ntmps69
  go_wp2_with (go_at_call 97; refine c.mono ?_; rintro e w' ⟨rfl, rfl⟩)
  go_ret2
  exact ⟨rfl, rfl⟩

theorem size_any (v : Int) (w : World) (hv : -9223372036854775808 ≤ v ∧ v ≤ 9223372036854775807) :
    Calls Try.prog 37 #[.int .i64 v] w fun e w' => e = .returned (.int .u64 (v.natAbs : Nat)) ∧ w' = w := by
  obtain ⟨n, hn⟩ : ∃ n : Nat, n = v.natAbs := ⟨_, rfl⟩
  rw [← hn]
  by_cases h0 : v < 0
  · have hz : v = -(n : Int) := by omega
    subst hz
    have u1 : IntKind.u64.wrap (-(n : Int)) = 18446744073709551616 - (n : Int) := by rw [IntKind.wrap_u64]; omega
    have u2 : IntKind.u64.wrap (-(18446744073709551616 - (n : Int))) = (n : Int) := by rw [IntKind.wrap_u64]; omega
    clear hn
    go_enter Try.func37, Try.ntmps37
    go_wp2
    go_ret
    exact ⟨rfl, rfl⟩
  · have hz : v = (n : Int) := by omega
    subst hz
    have u1 : IntKind.u64.wrap (n : Int) = (n : Int) := by rw [IntKind.wrap_u64]; omega
    clear hn
    go_enter Try.func37, Try.ntmps37
    go_wp2
    go_ret
    exact ⟨rfl, rfl⟩

/-- What 'signed' gives: the number, where it goes. -/
def sg (m : Bool) (n : Nat) : Int := if m then -(n : Int) else n
set_option maxRecDepth 100000 in
theorem signed_any (n : Nat) (m : Bool) (w : World) (hn : n < 18446744073709551616) :
    Calls Try.prog 68 #[.int .u64 n, .bool m] w fun e w' => e = .returned (.tuple #[.int .i64 (backI (sg m n)), .bool (decide (fits (sg m n)))]) ∧ w' = w := by
  cases m
  · show Calls Try.prog 68 _ w fun e w' => e = .returned (.tuple #[.int .i64 (backI (n : Int)), .bool (decide (fits (n : Int)))]) ∧ w' = w
    by_cases hf : n < 9223372036854775808
    · have h1 : fits (n : Int) := by unfold fits; omega
      have hb : backI (n : Int) = (n : Int) := by unfold backI; rw [if_pos h1]
      rw [hb, decide_eq_true h1]
      have hfI : (n : Int) < 9223372036854775808 := by omega
      clear hb h1 hf hn
      go_enter Try.func68, Try.ntmps68
      go_wp2
      go_ret2
      exact ⟨rfl, rfl⟩
    · have h1 : ¬ fits (n : Int) := by unfold fits; omega
      have hb : backI (n : Int) = 0 := by unfold backI; rw [if_neg h1]
      rw [hb, decide_eq_false h1]
      have hfI : decide ((n : Int) < 9223372036854775808) = false := decide_eq_false (by omega)
      clear hb h1 hf hn
      go_enter Try.func68, Try.ntmps68
      go_wp2
      go_ret2
      exact ⟨rfl, rfl⟩
  · show Calls Try.prog 68 _ w fun e w' => e = .returned (.tuple #[.int .i64 (backI (-(n : Int))), .bool (decide (fits (-(n : Int))))]) ∧ w' = w
    by_cases hf : n ≤ 9223372036854775808
    · have h1 : fits (-(n : Int)) := by unfold fits; omega
      have hb : backI (-(n : Int)) = -(n : Int) := by unfold backI; rw [if_pos h1]
      rw [hb, decide_eq_true h1]
      clear hb h1
      by_cases h63 : n = 9223372036854775808
      · have e1 : wrap64 (n : Int) = -(n : Int) := by unfold wrap64; omega
        have e3 : IntKind.i64.wrap (n : Int) = -(n : Int) := by rw [IntKind.wrap_i64]; omega
        have e2 : -(-(n : Int)) = (n : Int) := by omega
        clear h63
        go_enter Try.func68, Try.ntmps68
        go_wp2
        go_ret2
        exact ⟨rfl, rfl⟩
      · have hlt : n < 9223372036854775808 := by omega
        clear h63
        go_enter Try.func68, Try.ntmps68
        go_wp2
        go_ret2
        exact ⟨rfl, rfl⟩
    · have h1 : ¬ fits (-(n : Int)) := by unfold fits; omega
      have hb : backI (-(n : Int)) = 0 := by unfold backI; rw [if_neg h1]
      rw [hb, decide_eq_false h1]
      clear hb h1
      go_enter Try.func68, Try.ntmps68
      go_wp2
      go_ret2
      exact ⟨rfl, rfl⟩

theorem natAbs_lt (a : Int) (ha : -9223372036854775808 ≤ a ∧ a ≤ 9223372036854775807) : a.natAbs < 18446744073709551616 := by omega
theorem not_fits_big (z : Int) (h : 18446744073709551616 ≤ z.natAbs) : ¬ fits z := by unfold fits; omega
end Go.Proofs.Ytpgbnjneoejebaa
