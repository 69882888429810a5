import Derived.Test.YtafhgpknffkjmaaSum
import Derived.Test.YtafhgpknffkjmaaSumF
import Derived.Test.YtafhgpknffkjmaaRatF
set_option linter.unusedVariables false
set_option linter.unusedSimpArgs false
namespace Go.Proofs.Ytafhgpknffkjmaa
open Go.RowKit

theorem sumV_1 : sumV 1 2 1 3 = .tuple #[rat 5 6, .int .i64 0] := by
  have h1 : sumM 1 2 1 3 = 5 := by decide
  have h2 : sumZ 1 2 1 3 = 5 := by decide
  have h3 : sumE 1 2 1 3 = 6 := by decide
  unfold sumV
  rw [h1, h2, h3, if_neg (by decide), if_pos (by decide)]
  rfl
set_option maxRecDepth 100000 in
set_option maxHeartbeats 2000000 in
theorem awake3_any (w : World) : Calls Try.prog 45 #[] w fun e w' => e = .returned (.bool true) ∧ Same w w' := by
  have c1 := fun w0 => add_any 4611686018427387904 4611686018427387904 w0 (by decide) (by decide)
  rw [show backI (4611686018427387904 + 4611686018427387904) = 0 by decide, show decide (fits (4611686018427387904 + 4611686018427387904)) = false by decide] at c1
  have c2 := fun w0 => mul_any (-3) 4 w0 (by decide) (by decide)
  rw [show backI (-3 * 4) = -12 by decide, show decide (fits (-3 * 4)) = true by decide] at c2
  have c3 : ∀ w0, Calls Try.prog 52 #[.int .u64 9223372036854775808, .int .u64 6] w0 fun e w' => e = .returned (.tuple #[.int .u64 3, .int .u64 0]) ∧ w' = w0 := fun w0 => wide_any 9223372036854775808 6 (by decide) (by decide) w0
  have c4 := fun w0 => ratio_any 2 4 w0 (by decide) (by decide) (by decide)
  rw [show ratN 2 4 = 1 by decide, show ratD 2 4 = 2 by decide] at c4
  have c5 := fun w0 => ratio_any 1 3 w0 (by decide) (by decide) (by decide)
  rw [show ratN 1 3 = 1 by decide, show ratD 1 3 = 3 by decide] at c5
  have c6 := fun w0 => sum_go 1 2 1 3 w0 (by decide) (by decide) (by decide) (by decide) (by decide) (by decide)
  rw [sumV_1] at c6
  have c7 := fun w0 => times_go 1 3 6 w0 (by decide) (by decide) (by decide) (by decide)
  rw [show timesZ 1 3 6 = 2 by decide, show timesD 3 6 = 1 by decide, if_pos (by decide)] at c7
  have c8 := fun w0 => ratio_bad 1 0 w0 (by decide) (by decide) (by decide)
  have c9 := fun w0 => compare_main 1 3 1 2 w0 (by decide) (by decide) (by decide) (by decide) (by decide) (by decide) (by decide) (by decide)
  rw [if_pos (by decide)] at c9
  have c10 := fun w0 => right_any 1 2 w0 (by decide) (by decide)
  rw [show decide (RatOk 1 2) = true by decide] at c10
  have c11 := fun w0 => right_any 2 4 w0 (by decide) (by decide)
  rw [show decide (RatOk 2 4) = false by decide] at c11
  have C1 := Lib.hid c1; have C2 := Lib.hid c2; have C3 := Lib.hid c3; have C4 := Lib.hid c4; have C5 := Lib.hid c5; have C6 := Lib.hid c6; have C7 := Lib.hid c7; have C8 := Lib.hid c8; have C9 := Lib.hid c9; have C10 := Lib.hid c10; have C11 := Lib.hid c11
  clear c1 c2 c3 c4 c5 c6 c7 c8 c9 c10 c11
  go_enter Try.func45, Try.ntmps45
  go_wp2_with fail
  refine (C1.out _).mono ?_
  rintro e w1 ⟨rfl, rfl⟩
  go_wp2_with fail
  refine (C2.out _).mono ?_
  rintro e w2 ⟨rfl, rfl⟩
  go_wp2_with fail
  refine (C3.out _).mono ?_
  rintro e w3 ⟨rfl, rfl⟩
  go_wp2_with fail
  refine (C4.out _).mono ?_
  rintro e w4 ⟨rfl, hS4⟩
  have HS4 := Lib.hid hS4
  go_wp2_with fail
  refine (C5.out _).mono ?_
  rintro e w5 ⟨rfl, hS5⟩
  have h7 := hS5.heap (blk_new w4 (.cells #[.int .i64 1, .int .i64 2] 83)) (fun h => h)
  have HS5 := Lib.hid ((HS4.out.alloc _).then hS5)
  obtain ⟨a0, a1, _, _⟩ := pair_facts2 (blk_old (.cells #[.int .i64 1, .int .i64 3] 83) h7)
  obtain ⟨b0, b1, _, _⟩ := pair_facts2 (blk_new w5 (.cells #[.int .i64 1, .int .i64 3] 83))
  go_wp2_with fail
  refine (C6.out _).mono ?_
  rintro e w6 ⟨rfl, hS6⟩
  have g7 := hS6.heap (blk_old (.cells #[.int .i64 1, .int .i64 3] 83) h7) (fun h => h)
  have g9 := hS6.heap (blk_new w5 (.cells #[.int .i64 1, .int .i64 3] 83)) (fun h => h)
  have HS6 := Lib.hid ((HS5.out.alloc _).then hS6)
  clear a0 a1 b0 b1
  obtain ⟨b0, b1, _, _⟩ := pair_facts2 (blk_old (.cells #[.int .i64 5, .int .i64 6] 83) g9)
  go_wp2_with fail
  refine (C7.out _).mono ?_
  rintro e w7 ⟨rfl, hS7⟩
  have i7 := hS7.heap (blk_old (.cells #[.int .i64 5, .int .i64 6] 83) g7) (fun h => h)
  have i9 := hS7.heap (blk_old (.cells #[.int .i64 5, .int .i64 6] 83) g9) (fun h => h)
  have i11 := hS7.heap (blk_new w6 (.cells #[.int .i64 5, .int .i64 6] 83)) (fun h => h)
  have HS7 := Lib.hid ((HS6.out.alloc _).then hS7)
  clear b0 b1
  go_wp2_with fail
  refine (C8.out _).mono ?_
  rintro e w8 ⟨rfl, hS8⟩
  have j7 := hS8.heap (blk_old (.cells #[.int .i64 2, .int .i64 1] 83) i7) (fun h => h)
  have j9 := hS8.heap (blk_old (.cells #[.int .i64 2, .int .i64 1] 83) i9) (fun h => h)
  have j11 := hS8.heap (blk_old (.cells #[.int .i64 2, .int .i64 1] 83) i11) (fun h => h)
  have j13 := hS8.heap (blk_new w7 (.cells #[.int .i64 2, .int .i64 1] 83)) (fun h => h)
  have HS8 := Lib.hid ((HS7.out.alloc _).then hS8)
  obtain ⟨a0, a1, _, _⟩ := pair_facts2 (blk_old (.cells #[.int .i64 0, .int .i64 0] 83) j7)
  obtain ⟨b0, b1, _, _⟩ := pair_facts2 (blk_old (.cells #[.int .i64 0, .int .i64 0] 83) j9)
  obtain ⟨d0, d1, _, _⟩ := pair_facts2 (blk_old (.cells #[.int .i64 0, .int .i64 0] 83) j11)
  obtain ⟨e0, e1, _, _⟩ := pair_facts2 (blk_old (.cells #[.int .i64 0, .int .i64 0] 83) j13)
  go_wp2_with fail
  refine (C9.out _).mono ?_
  rintro e w9 ⟨rfl, hS9⟩
  have f0 := hS9.cell_eq a0 (fun h => h)
  have f1 := hS9.cell_eq a1 (fun h => h)
  go_wp2_with fail
  refine (C10.out _).mono ?_
  rintro e w10 ⟨rfl, hS10⟩
  go_wp2_with fail
  refine (C11.out _).mono ?_
  rintro e w11 ⟨rfl, hS11⟩
  go_wp2_with fail
  go_ret
  exact ⟨rfl, (((HS8.out.alloc _).then hS9).then hS10).then hS11⟩
end Go.Proofs.Ytafhgpknffkjmaa
