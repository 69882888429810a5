import Derived.Test.YtafhgpknffkjmaaExAwake
import Derived.Test.YtafhgpknffkjmaaBigAdd
set_option linter.unusedVariables false
set_option linter.unusedSimpArgs false
namespace Go.Proofs.Ytafhgpknffkjmaa
open Go.RowKit Go.Lib

theorem modN (a : Nat) : (a : Int) % 4294967296 = ((a % 4294967296 : Nat) : Int) := by omega
theorem modT (a : Nat) : (a : Int).tmod 4294967296 = ((a % 4294967296 : Nat) : Int) := by rw [Int.tmod_eq_emod_of_nonneg (by omega)]; omega
theorem abs_len (a : Int) (h : i64in a) : (nb a.natAbs).length ≤ 64 := nb_length_le _ 64 (by have := abs64 a h; omega)
theorem sum_len (a b : Int) (ha : i64in a) (hb : i64in b) : (nb (a + b).natAbs).length ≤ 1000000 := Nat.le_trans (nb_length_le _ 65 (by have := abs64 a ha; have := abs64 b hb; omega)) (by omega)
theorem prod_len (a b : Int) (ha : i64in a) (hb : i64in b) : (nb (a * b).natAbs).length ≤ 1000000 := by
  rw [Int.natAbs_mul]
  have h1 := nb_mul_len a.natAbs b.natAbs
  have h2 := abs_len a ha
  have h3 := abs_len b hb
  omega
set_option maxRecDepth 100000 in
set_option maxHeartbeats 2000000 in
theorem exactNumbers_walk (a b x' y' : Int) (w : World) (ha0 : (Lit.int .i64 a).wf = true) (hb0 : (Lit.int .i64 b).wf = true) (hx0 : (Lit.int .u64 x').wf = true) (hy0 : (Lit.int .u64 y').wf = true) :
    Calls Try.prog 8 #[.int .i64 a, .int .i64 b, .int .u64 x', .int .u64 y'] w fun e w' => e = .returned (.bool true) ∧ Same w w' := by
  have ha := bounds_i64 ha0
  have hb := bounds_i64 hb0
  have hx1 : 0 ≤ x' ∧ x' < 18446744073709551616 := by simp [Lit.wf, IntKind.min, IntKind.max, IntKind.signed, IntKind.bits] at hx0; omega
  have hy1 : 0 ≤ y' ∧ y' < 18446744073709551616 := by simp [Lit.wf, IntKind.min, IntKind.max, IntKind.signed, IntKind.bits] at hy0; omega
  obtain ⟨x, rfl⟩ := Int.eq_ofNat_of_zero_le hx1.1
  obtain ⟨y, rfl⟩ := Int.eq_ofNat_of_zero_le hy1.1
  have hx : x < 18446744073709551616 := by omega
  have hy : y < 18446744073709551616 := by omega
  clear ha0 hb0 hx0 hy0 hx1 hy1
  have l1 := abs_len a ha
  have l2 := abs_len b hb
  have l3 := sum_len a b ha hb
  have l4 := prod_len a b ha hb
  go_enter Try.func8, Try.ntmps8
  go_wp2_with fail
  refine (awake3_any _).mono ?_
  rintro e w1 ⟨rfl, hS1⟩
  go_wp2_with fail
  refine (add_any a b _ ha hb).mono ?_
  rintro e w2 ⟨rfl, rfl⟩
  go_wp2_with fail
  refine (of_any a _ ha).mono ?_
  rintro e w3 ⟨r3, rfl, hS3, hB3⟩
  go_wp2_with fail
  refine (of_any b _ hb).mono ?_
  rintro e w4 ⟨r4, rfl, hS4, hB4⟩
  go_wp2_with fail
  refine (badd_any r3 r4 a b _ (hB3.same hS4) hB4 (by omega) (by omega)).mono ?_
  rintro e w5 ⟨r5, rfl, hS5, hB5⟩
  go_wp2_with fail
  refine (back_any r5 (a + b) _ hB5 l3).mono ?_
  rintro e w6 ⟨rfl, hS6⟩
  generalize backI (a + b) = v1 at *
  generalize decide (fits (a + b)) = f1 at *
  go_wp2_with fail
  refine (mul_any a b _ ha hb).mono ?_
  rintro e w7 ⟨rfl, rfl⟩
  go_wp2_with fail
  refine (of_any a _ ha).mono ?_
  rintro e w8 ⟨r8, rfl, hS8, hB8⟩
  go_wp2_with fail
  refine (of_any b _ hb).mono ?_
  rintro e w9 ⟨r9, rfl, hS9, hB9⟩
  go_wp2_with fail
  refine (bmul_any r8 r9 a b _ (hB8.same hS9) hB9 (by omega) (by omega)).mono ?_
  rintro e w10 ⟨r10, rfl, hS10, hB10⟩
  go_wp2_with fail
  refine (back_any r10 (a * b) _ hB10 l4).mono ?_
  rintro e w11 ⟨rfl, hS11⟩
  generalize backI (a * b) = v2 at *
  generalize decide (fits (a * b)) = f2 at *
  have HS := Lib.hid ((((((((hS1.then hS3).then hS4).then hS5).then hS6).then hS8).then hS9).then hS10).then hS11)
  clear hS1 hS3 hS4 hS5 hS6 hS8 hS9 hS10 hS11 hB3 hB4 hB5 hB8 hB9 hB10 l1 l2 l3 l4
  go_wp2_with fail
  refine (wide_any x y hx hy _).mono ?_
  rintro e w12 ⟨rfl, rfl⟩
  go_upto_region 11 with fail
  go_cut [17, 18, 19, 20, 21, 22, 23, 24, 25] from 26 (fun s17 s18 s19 s20 s21 s22 s23 s24 s25 wx => wx = w12 ∧ ∃ h l : Nat, s17 = .int .u64 h ∧ s25 = .int .u64 h ∧ s18 = .int .u64 l ∧ s19 = .int .u64 l)
  case first =>
    go_wp2_with fail
    go_meet
    case rel =>
      obtain ⟨bd, bt, bw, hhi⟩ := Lib.mul64_hi x y hx hy
      have q1 := Lib.half_mul_le (a := x / 4294967296) (b := y / 4294967296) (by omega) (by omega)
      have q2 := Lib.half_mul_le (a := x / 4294967296) (b := y % 4294967296) (by omega) (by omega)
      have q3 := Lib.half_mul_le (a := x % 4294967296) (b := y / 4294967296) (by omega) (by omega)
      have q1' : x / 4294967296 * (y / 4294967296) < 18446744073709551616 := by omega
      have q2' : x / 4294967296 * (y % 4294967296) < 18446744073709551616 := by omega
      have q3' : x % 4294967296 * (y / 4294967296) < 18446744073709551616 := by omega
      rw [Nat.add_comm ((x / 4294967296 * (y % 4294967296) + x % 4294967296 * (y % 4294967296) / 4294967296) % 4294967296)] at bw hhi
      have bh1 : x / 4294967296 * (y / 4294967296) + (x / 4294967296 * (y % 4294967296) + x % 4294967296 * (y % 4294967296) / 4294967296) / 4294967296 < 18446744073709551616 := by omega
      have bh : x / 4294967296 * (y / 4294967296) + (x / 4294967296 * (y % 4294967296) + x % 4294967296 * (y % 4294967296) / 4294967296) / 4294967296 + (x % 4294967296 * (y / 4294967296) + (x / 4294967296 * (y % 4294967296) + x % 4294967296 * (y % 4294967296) / 4294967296) % 4294967296) / 4294967296 < 18446744073709551616 := by omega
      refine ⟨rfl, x * y / 18446744073709551616, x * y % 18446744073709551616, ?_, ?_, ?_, ?_⟩
      · simp
      · congr 1
        simp only [modN, modT, Mul64.divN, Mul64.mulN, Mul64.addN, Mul64.wrapN _ bd, Mul64.wrapN _ q2', Mul64.wrapN _ bt, Mul64.wrapN _ q3', Mul64.wrapN _ bw, Mul64.wrapN _ q1', Mul64.wrapN _ bh1, Mul64.wrapN _ bh]
        rw [hhi]
      · simp
      · first | (simp only [Mul64.mulN, Mul64.wrapM]; done) | (congr 1; done) | (congr 1; simp only [Mul64.mulN, Mul64.wrapM])
  case rest =>
  obtain ⟨hw, h, l, rfl, rfl, rfl, rfl⟩ := hcut
  rw [hw]
  go_wp2_with fail
  go_ret
  exact ⟨rfl, HS.out⟩
end Go.Proofs.Ytafhgpknffkjmaa
