import Derived.Test.YtafhgpknffkjmaaRatiosC
import Derived.Test.YtafhgpknffkjmaaRatiosF
import Derived.Test.YtafhgpknffkjmaaRatRow
set_option linter.unusedVariables false
set_option linter.unusedSimpArgs false
namespace Go.Proofs.Ytafhgpknffkjmaa
open Go.RowKit

/-! the program's answer and the document's: one and the same -/
theorem ratio_two (num den : Int) (hn : i64in num) (hd : i64in den) : ∃ xn xd e : Int, (∀ w, Calls Try.prog 53 #[.int .i64 num, .int .i64 den] w fun f w' => f = .returned (.tuple #[rat xn xd, .int .i64 e]) ∧ Same w w') ∧ ∀ w, Calls Try.prog 54 #[.int .i64 num, .int .i64 den] w fun f w' => f = .returned (.tuple #[rat xn xd, .int .i64 e]) ∧ Same w w' := by
  by_cases h0 : den ≤ 0
  · exact ⟨0, 0, 1, fun w => ratio_bad num den w hn hd h0, fun w => rratio_bad num den w h0⟩
  · obtain ⟨d, rfl⟩ := Int.eq_ofNat_of_zero_le (show 0 ≤ den by omega)
    obtain ⟨xn, xd, e, h⟩ := lowR_ex num d (by omega)
    exact ⟨xn, xd, e, fun w => ratio_low num d w hn hd (by omega) h, fun w => rratio_any num d w hn hd (by omega) h⟩
theorem sum_two (an ad bn bd : Int) (ha : i64in an) (hd : i64in ad) (hb : i64in bn) (hbd : i64in bd) : ∃ xn xd e : Int, (∀ w, Calls Try.prog 55 #[rat an ad, rat bn bd] w fun f w' => f = .returned (.tuple #[rat xn xd, .int .i64 e]) ∧ Same w w') ∧ ∀ w, Calls Try.prog 56 #[rat an ad, rat bn bd] w fun f w' => f = .returned (.tuple #[rat xn xd, .int .i64 e]) ∧ Same w w' := by
  by_cases h : RatOk an ad ∧ RatOk bn bd
  · obtain ⟨h1, h2⟩ := h
    obtain ⟨a, rfl⟩ := Int.eq_ofNat_of_zero_le (show 0 ≤ ad by have := h1.1; omega)
    obtain ⟨b, rfl⟩ := Int.eq_ofNat_of_zero_le (show 0 ≤ bd by have := h2.1; omega)
    obtain ⟨xn, xd, e, h⟩ := lowR_ex (an * b + bn * a) (a * b) (Nat.mul_pos (by have := h1.1; omega) (by have := h2.1; omega))
    exact ⟨xn, xd, e, fun w => rsum_any an bn a b w ha hd hb hbd h1 h2 h, fun w => rsum_go an bn a b w ha hd hb hbd h1 h2 h⟩
  · refine ⟨0, 0, 2, fun w => ?_, fun w => rsum_form an bn ad bd w ha hd hb hbd h⟩
    by_cases h1 : RatOk an ad
    · exact sum_form2 an ad bn bd w ha hd hb hbd h1 (fun h2 => h ⟨h1, h2⟩)
    · exact sum_form1 an ad bn bd w ha hd h1
theorem times_two (an ad n : Int) (ha : i64in an) (hd : i64in ad) (hn : i64in n) : ∃ xn xd e : Int, (∀ w, Calls Try.prog 57 #[rat an ad, .int .i64 n] w fun f w' => f = .returned (.tuple #[rat xn xd, .int .i64 e]) ∧ Same w w') ∧ ∀ w, Calls Try.prog 58 #[rat an ad, .int .i64 n] w fun f w' => f = .returned (.tuple #[rat xn xd, .int .i64 e]) ∧ Same w w' := by
  by_cases h1 : RatOk an ad
  · obtain ⟨a, rfl⟩ := Int.eq_ofNat_of_zero_le (show 0 ≤ ad by have := h1.1; omega)
    obtain ⟨xn, xd, e, h⟩ := lowR_ex (an * n) a (by have := h1.1; omega)
    exact ⟨xn, xd, e, fun w => rtimes_any an n a w ha hd hn h1 h, fun w => rtimes_go an n a w ha hd hn h1 h⟩
  · exact ⟨0, 0, 2, fun w => times_form an ad n w ha hd hn h1, fun w => rtimes_form an ad n w ha hd h1⟩
theorem comp_two (an ad bn bd : Int) (ha : i64in an) (hd : i64in ad) (hb : i64in bn) (hbd : i64in bd) : ∃ c : Int, (∀ w, Calls Try.prog 61 #[rat an ad, rat bn bd] w fun f w' => f = .returned (.int .i64 c) ∧ Same w w') ∧ ∀ w, Calls Try.prog 62 #[rat an ad, rat bn bd] w fun f w' => f = .returned (.int .i64 c) ∧ Same w w' := by
  by_cases h : RatOk an ad ∧ RatOk bn bd
  · obtain ⟨h1, h2⟩ := h
    obtain ⟨a, rfl⟩ := Int.eq_ofNat_of_zero_le (show 0 ≤ ad by have := h1.1; omega)
    obtain ⟨b, rfl⟩ := Int.eq_ofNat_of_zero_le (show 0 ≤ bd by have := h2.1; omega)
    exact ⟨_, fun w => compare_s an bn a b w ha hd hb hbd h1 h2, fun w => rcomp_go an bn a b w ha hd hb hbd h1 h2⟩
  · refine ⟨0, fun w => ?_, fun w => rcomp_bad an bn ad bd w ha hd hb hbd h⟩
    by_cases h1 : RatOk an ad
    · exact compare_bad2 an ad bn bd w ha hd hb hbd h1 (fun h2 => h ⟨h1, h2⟩)
    · exact compare_bad1 an ad bn bd w ha hd h1
theorem right_two (an ad : Int) (ha : i64in an) (hd : i64in ad) : ∃ r : Bool, (∀ w, Calls Try.prog 59 #[rat an ad] w fun f w' => f = .returned (.bool r) ∧ Same w w') ∧ ∀ w, Calls Try.prog 60 #[rat an ad] w fun f w' => f = .returned (.bool r) ∧ Same w w' :=
  ⟨_, fun w => right_any an ad w ha hd, fun w => rright_any an ad w ha hd⟩

set_option maxRecDepth 100000 in
set_option maxHeartbeats 4000000 in
theorem exactRatios_walk (an ad bn bd num den : Int) (w : World) (ha : i64in an) (hd : i64in ad) (hb : i64in bn) (hbd : i64in bd) (hn : i64in num) (hdn : i64in den) :
    Calls Try.prog 9 #[rat an ad, rat bn bd, .int .i64 num, .int .i64 den] w fun e w' => e = .returned (.bool true) ∧ Same w w' := by
  obtain ⟨xn, xd, e1, c1, c2⟩ := ratio_two num den hn hdn
  obtain ⟨yn, yd, e2, c3, c4⟩ := sum_two an ad bn bd ha hd hb hbd
  obtain ⟨zn, zd, e3, c5, c6⟩ := times_two an ad num ha hd hn
  obtain ⟨r, c7, c8⟩ := right_two an ad ha hd
  obtain ⟨k, c9, c10⟩ := comp_two an ad bn bd ha hd hb hbd
  have C1 := Lib.hid c1; have C2 := Lib.hid c2; have C3 := Lib.hid c3; have C4 := Lib.hid c4; have C5 := Lib.hid c5; have C6 := Lib.hid c6; have C7 := Lib.hid c7; have C8 := Lib.hid c8; have C9 := Lib.hid c9; have C10 := Lib.hid c10
  clear c1 c2 c3 c4 c5 c6 c7 c8 c9 c10 ha hd hb hbd hn hdn
  have hb2 := blk2' w (.cells #[.int .i64 an, .int .i64 ad] 83) (.cells #[.int .i64 bn, .int .i64 bd] 83)
  have hS0 : Same w ((w.alloc (.cells #[.int .i64 an, .int .i64 ad] 83)).alloc (.cells #[.int .i64 bn, .int .i64 bd] 83)) := ((Only.refl _ w).alloc _).alloc _
  go_enter Try.func9, Try.ntmps9
  go_upto_region 1 with fail
  generalize (w.alloc (.cells #[.int .i64 an, .int .i64 ad] 83)).alloc (.cells #[.int .i64 bn, .int .i64 bd] 83) = W0 at *
  have HB0 := Lib.hid hb2; have HS0 := Lib.hid hS0
  clear hb2 hS0
  go_wp2_with fail
  refine (awake3_any _).mono ?_
  rintro e w1 ⟨rfl, hS1⟩
  have HB1 := Lib.hid (And.intro (hS1.heap HB0.out.1 (fun h => h)) (hS1.heap HB0.out.2 (fun h => h)))
  have HS1 := Lib.hid (HS0.out.then hS1)
  clear hS1 HB0 HS0
  go_wp2_with fail
  refine (C1.out _).mono ?_
  rintro e w2 ⟨rfl, hS2⟩
  have HB2 : Hid ((w2.alloc (.cells #[.int .i64 xn, .int .i64 xd] 83)).heap[w.heap.size]? = some (.cells #[.int .i64 an, .int .i64 ad] 83 (0, 0)) ∧ (w2.alloc (.cells #[.int .i64 xn, .int .i64 xd] 83)).heap[w.heap.size + 1]? = some (.cells #[.int .i64 bn, .int .i64 bd] 83 (0, 0)) ∧ (w2.alloc (.cells #[.int .i64 xn, .int .i64 xd] 83)).heap[w2.heap.size]? = some (.cells #[.int .i64 xn, .int .i64 xd] 83 (0, 0))) := Lib.hid ⟨blk_old (.cells #[.int .i64 xn, .int .i64 xd] 83) (hS2.heap (HB1.out.1) (fun h => h)), blk_old (.cells #[.int .i64 xn, .int .i64 xd] 83) (hS2.heap (HB1.out.2) (fun h => h)), blk_new w2 (.cells #[.int .i64 xn, .int .i64 xd] 83)⟩
  have HS2 := Lib.hid ((HS1.out.then hS2).alloc (.cells #[.int .i64 xn, .int .i64 xd] 83))
  clear hS2 HB1 HS1
  go_wp2_with fail
  refine (C2.out _).mono ?_
  rintro e w3 ⟨rfl, hS3⟩
  have HB3 : Hid ((w3.alloc (.cells #[.int .i64 xn, .int .i64 xd] 83)).heap[w.heap.size]? = some (.cells #[.int .i64 an, .int .i64 ad] 83 (0, 0)) ∧ (w3.alloc (.cells #[.int .i64 xn, .int .i64 xd] 83)).heap[w.heap.size + 1]? = some (.cells #[.int .i64 bn, .int .i64 bd] 83 (0, 0)) ∧ (w3.alloc (.cells #[.int .i64 xn, .int .i64 xd] 83)).heap[w2.heap.size]? = some (.cells #[.int .i64 xn, .int .i64 xd] 83 (0, 0)) ∧ (w3.alloc (.cells #[.int .i64 xn, .int .i64 xd] 83)).heap[w3.heap.size]? = some (.cells #[.int .i64 xn, .int .i64 xd] 83 (0, 0))) := Lib.hid ⟨blk_old (.cells #[.int .i64 xn, .int .i64 xd] 83) (hS3.heap (HB2.out.1) (fun h => h)), blk_old (.cells #[.int .i64 xn, .int .i64 xd] 83) (hS3.heap (HB2.out.2.1) (fun h => h)), blk_old (.cells #[.int .i64 xn, .int .i64 xd] 83) (hS3.heap (HB2.out.2.2) (fun h => h)), blk_new w3 (.cells #[.int .i64 xn, .int .i64 xd] 83)⟩
  have HS3 := Lib.hid ((HS2.out.then hS3).alloc (.cells #[.int .i64 xn, .int .i64 xd] 83))
  clear hS3 HB2 HS2
  obtain ⟨k00, k01, _, _⟩ := pair_facts2 HB3.out.1
  obtain ⟨k10, k11, _, _⟩ := pair_facts2 HB3.out.2.1
  go_wp2_with fail
  refine (C3.out _).mono ?_
  rintro e w4 ⟨rfl, hS4⟩
  clear k00 k01 k10 k11
  have HB4 : Hid ((w4.alloc (.cells #[.int .i64 yn, .int .i64 yd] 83)).heap[w.heap.size]? = some (.cells #[.int .i64 an, .int .i64 ad] 83 (0, 0)) ∧ (w4.alloc (.cells #[.int .i64 yn, .int .i64 yd] 83)).heap[w.heap.size + 1]? = some (.cells #[.int .i64 bn, .int .i64 bd] 83 (0, 0)) ∧ (w4.alloc (.cells #[.int .i64 yn, .int .i64 yd] 83)).heap[w2.heap.size]? = some (.cells #[.int .i64 xn, .int .i64 xd] 83 (0, 0)) ∧ (w4.alloc (.cells #[.int .i64 yn, .int .i64 yd] 83)).heap[w3.heap.size]? = some (.cells #[.int .i64 xn, .int .i64 xd] 83 (0, 0)) ∧ (w4.alloc (.cells #[.int .i64 yn, .int .i64 yd] 83)).heap[w4.heap.size]? = some (.cells #[.int .i64 yn, .int .i64 yd] 83 (0, 0))) := Lib.hid ⟨blk_old (.cells #[.int .i64 yn, .int .i64 yd] 83) (hS4.heap (HB3.out.1) (fun h => h)), blk_old (.cells #[.int .i64 yn, .int .i64 yd] 83) (hS4.heap (HB3.out.2.1) (fun h => h)), blk_old (.cells #[.int .i64 yn, .int .i64 yd] 83) (hS4.heap (HB3.out.2.2.1) (fun h => h)), blk_old (.cells #[.int .i64 yn, .int .i64 yd] 83) (hS4.heap (HB3.out.2.2.2) (fun h => h)), blk_new w4 (.cells #[.int .i64 yn, .int .i64 yd] 83)⟩
  have HS4 := Lib.hid ((HS3.out.then hS4).alloc (.cells #[.int .i64 yn, .int .i64 yd] 83))
  clear hS4 HB3 HS3
  obtain ⟨k00, k01, _, _⟩ := pair_facts2 HB4.out.1
  obtain ⟨k10, k11, _, _⟩ := pair_facts2 HB4.out.2.1
  go_wp2_with fail
  refine (C4.out _).mono ?_
  rintro e w5 ⟨rfl, hS5⟩
  clear k00 k01 k10 k11
  have HB5 : Hid ((w5.alloc (.cells #[.int .i64 yn, .int .i64 yd] 83)).heap[w.heap.size]? = some (.cells #[.int .i64 an, .int .i64 ad] 83 (0, 0)) ∧ (w5.alloc (.cells #[.int .i64 yn, .int .i64 yd] 83)).heap[w.heap.size + 1]? = some (.cells #[.int .i64 bn, .int .i64 bd] 83 (0, 0)) ∧ (w5.alloc (.cells #[.int .i64 yn, .int .i64 yd] 83)).heap[w2.heap.size]? = some (.cells #[.int .i64 xn, .int .i64 xd] 83 (0, 0)) ∧ (w5.alloc (.cells #[.int .i64 yn, .int .i64 yd] 83)).heap[w3.heap.size]? = some (.cells #[.int .i64 xn, .int .i64 xd] 83 (0, 0)) ∧ (w5.alloc (.cells #[.int .i64 yn, .int .i64 yd] 83)).heap[w4.heap.size]? = some (.cells #[.int .i64 yn, .int .i64 yd] 83 (0, 0)) ∧ (w5.alloc (.cells #[.int .i64 yn, .int .i64 yd] 83)).heap[w5.heap.size]? = some (.cells #[.int .i64 yn, .int .i64 yd] 83 (0, 0))) := Lib.hid ⟨blk_old (.cells #[.int .i64 yn, .int .i64 yd] 83) (hS5.heap (HB4.out.1) (fun h => h)), blk_old (.cells #[.int .i64 yn, .int .i64 yd] 83) (hS5.heap (HB4.out.2.1) (fun h => h)), blk_old (.cells #[.int .i64 yn, .int .i64 yd] 83) (hS5.heap (HB4.out.2.2.1) (fun h => h)), blk_old (.cells #[.int .i64 yn, .int .i64 yd] 83) (hS5.heap (HB4.out.2.2.2.1) (fun h => h)), blk_old (.cells #[.int .i64 yn, .int .i64 yd] 83) (hS5.heap (HB4.out.2.2.2.2) (fun h => h)), blk_new w5 (.cells #[.int .i64 yn, .int .i64 yd] 83)⟩
  have HS5 := Lib.hid ((HS4.out.then hS5).alloc (.cells #[.int .i64 yn, .int .i64 yd] 83))
  clear hS5 HB4 HS4
  obtain ⟨k00, k01, _, _⟩ := pair_facts2 HB5.out.1
  obtain ⟨k10, k11, _, _⟩ := pair_facts2 HB5.out.2.1
  go_wp2_with fail
  refine (C5.out _).mono ?_
  rintro e w6 ⟨rfl, hS6⟩
  clear k00 k01 k10 k11
  have HB6 : Hid ((w6.alloc (.cells #[.int .i64 zn, .int .i64 zd] 83)).heap[w.heap.size]? = some (.cells #[.int .i64 an, .int .i64 ad] 83 (0, 0)) ∧ (w6.alloc (.cells #[.int .i64 zn, .int .i64 zd] 83)).heap[w.heap.size + 1]? = some (.cells #[.int .i64 bn, .int .i64 bd] 83 (0, 0)) ∧ (w6.alloc (.cells #[.int .i64 zn, .int .i64 zd] 83)).heap[w2.heap.size]? = some (.cells #[.int .i64 xn, .int .i64 xd] 83 (0, 0)) ∧ (w6.alloc (.cells #[.int .i64 zn, .int .i64 zd] 83)).heap[w3.heap.size]? = some (.cells #[.int .i64 xn, .int .i64 xd] 83 (0, 0)) ∧ (w6.alloc (.cells #[.int .i64 zn, .int .i64 zd] 83)).heap[w4.heap.size]? = some (.cells #[.int .i64 yn, .int .i64 yd] 83 (0, 0)) ∧ (w6.alloc (.cells #[.int .i64 zn, .int .i64 zd] 83)).heap[w5.heap.size]? = some (.cells #[.int .i64 yn, .int .i64 yd] 83 (0, 0)) ∧ (w6.alloc (.cells #[.int .i64 zn, .int .i64 zd] 83)).heap[w6.heap.size]? = some (.cells #[.int .i64 zn, .int .i64 zd] 83 (0, 0))) := Lib.hid ⟨blk_old (.cells #[.int .i64 zn, .int .i64 zd] 83) (hS6.heap (HB5.out.1) (fun h => h)), blk_old (.cells #[.int .i64 zn, .int .i64 zd] 83) (hS6.heap (HB5.out.2.1) (fun h => h)), blk_old (.cells #[.int .i64 zn, .int .i64 zd] 83) (hS6.heap (HB5.out.2.2.1) (fun h => h)), blk_old (.cells #[.int .i64 zn, .int .i64 zd] 83) (hS6.heap (HB5.out.2.2.2.1) (fun h => h)), blk_old (.cells #[.int .i64 zn, .int .i64 zd] 83) (hS6.heap (HB5.out.2.2.2.2.1) (fun h => h)), blk_old (.cells #[.int .i64 zn, .int .i64 zd] 83) (hS6.heap (HB5.out.2.2.2.2.2) (fun h => h)), blk_new w6 (.cells #[.int .i64 zn, .int .i64 zd] 83)⟩
  have HS6 := Lib.hid ((HS5.out.then hS6).alloc (.cells #[.int .i64 zn, .int .i64 zd] 83))
  clear hS6 HB5 HS5
  obtain ⟨k00, k01, _, _⟩ := pair_facts2 HB6.out.1
  obtain ⟨k10, k11, _, _⟩ := pair_facts2 HB6.out.2.1
  go_wp2_with fail
  refine (C6.out _).mono ?_
  rintro e w7 ⟨rfl, hS7⟩
  clear k00 k01 k10 k11
  have HB7 : Hid ((w7.alloc (.cells #[.int .i64 zn, .int .i64 zd] 83)).heap[w.heap.size]? = some (.cells #[.int .i64 an, .int .i64 ad] 83 (0, 0)) ∧ (w7.alloc (.cells #[.int .i64 zn, .int .i64 zd] 83)).heap[w.heap.size + 1]? = some (.cells #[.int .i64 bn, .int .i64 bd] 83 (0, 0)) ∧ (w7.alloc (.cells #[.int .i64 zn, .int .i64 zd] 83)).heap[w2.heap.size]? = some (.cells #[.int .i64 xn, .int .i64 xd] 83 (0, 0)) ∧ (w7.alloc (.cells #[.int .i64 zn, .int .i64 zd] 83)).heap[w3.heap.size]? = some (.cells #[.int .i64 xn, .int .i64 xd] 83 (0, 0)) ∧ (w7.alloc (.cells #[.int .i64 zn, .int .i64 zd] 83)).heap[w4.heap.size]? = some (.cells #[.int .i64 yn, .int .i64 yd] 83 (0, 0)) ∧ (w7.alloc (.cells #[.int .i64 zn, .int .i64 zd] 83)).heap[w5.heap.size]? = some (.cells #[.int .i64 yn, .int .i64 yd] 83 (0, 0)) ∧ (w7.alloc (.cells #[.int .i64 zn, .int .i64 zd] 83)).heap[w6.heap.size]? = some (.cells #[.int .i64 zn, .int .i64 zd] 83 (0, 0)) ∧ (w7.alloc (.cells #[.int .i64 zn, .int .i64 zd] 83)).heap[w7.heap.size]? = some (.cells #[.int .i64 zn, .int .i64 zd] 83 (0, 0))) := Lib.hid ⟨blk_old (.cells #[.int .i64 zn, .int .i64 zd] 83) (hS7.heap (HB6.out.1) (fun h => h)), blk_old (.cells #[.int .i64 zn, .int .i64 zd] 83) (hS7.heap (HB6.out.2.1) (fun h => h)), blk_old (.cells #[.int .i64 zn, .int .i64 zd] 83) (hS7.heap (HB6.out.2.2.1) (fun h => h)), blk_old (.cells #[.int .i64 zn, .int .i64 zd] 83) (hS7.heap (HB6.out.2.2.2.1) (fun h => h)), blk_old (.cells #[.int .i64 zn, .int .i64 zd] 83) (hS7.heap (HB6.out.2.2.2.2.1) (fun h => h)), blk_old (.cells #[.int .i64 zn, .int .i64 zd] 83) (hS7.heap (HB6.out.2.2.2.2.2.1) (fun h => h)), blk_old (.cells #[.int .i64 zn, .int .i64 zd] 83) (hS7.heap (HB6.out.2.2.2.2.2.2) (fun h => h)), blk_new w7 (.cells #[.int .i64 zn, .int .i64 zd] 83)⟩
  have HS7 := Lib.hid ((HS6.out.then hS7).alloc (.cells #[.int .i64 zn, .int .i64 zd] 83))
  clear hS7 HB6 HS6
  go_upto_region 9 with fail
  obtain ⟨W, hW⟩ : ∃ W, W = w7.alloc (.cells #[.int .i64 zn, .int .i64 zd] 83) := ⟨_, rfl⟩
  rw [← hW] at HB7 HS7 ⊢
  clear hW
  go_cut [8] from 21 (fun s8 wx => s8 = .bool true ∧ Same W wx)
  case first =>
    have q0 : Same W W := Only.refl _ _
    have hK : ∀ w', Same W w' → (Same W w' ∧ w'.cell? ⟨w.heap.size, 0, none⟩ = some (.int .i64 an) ∧ w'.cell? ⟨w.heap.size, 1, none⟩ = some (.int .i64 ad) ∧ w'.cell? ⟨w.heap.size + 1, 0, none⟩ = some (.int .i64 bn) ∧ w'.cell? ⟨w.heap.size + 1, 1, none⟩ = some (.int .i64 bd) ∧ w'.cell? ⟨w2.heap.size, 0, none⟩ = some (.int .i64 xn) ∧ w'.cell? ⟨w2.heap.size, 1, none⟩ = some (.int .i64 xd) ∧ w'.cell? ⟨w3.heap.size, 0, none⟩ = some (.int .i64 xn) ∧ w'.cell? ⟨w3.heap.size, 1, none⟩ = some (.int .i64 xd) ∧ w'.cell? ⟨w4.heap.size, 0, none⟩ = some (.int .i64 yn) ∧ w'.cell? ⟨w4.heap.size, 1, none⟩ = some (.int .i64 yd) ∧ w'.cell? ⟨w5.heap.size, 0, none⟩ = some (.int .i64 yn) ∧ w'.cell? ⟨w5.heap.size, 1, none⟩ = some (.int .i64 yd) ∧ w'.cell? ⟨w6.heap.size, 0, none⟩ = some (.int .i64 zn) ∧ w'.cell? ⟨w6.heap.size, 1, none⟩ = some (.int .i64 zd) ∧ w'.cell? ⟨w7.heap.size, 0, none⟩ = some (.int .i64 zn) ∧ w'.cell? ⟨w7.heap.size, 1, none⟩ = some (.int .i64 zd)) := fun w' h => by
      obtain ⟨p00, p01, _, _⟩ := pair_facts2 (h.heap HB7.out.1 (fun h => h))
      obtain ⟨p10, p11, _, _⟩ := pair_facts2 (h.heap HB7.out.2.1 (fun h => h))
      obtain ⟨p20, p21, _, _⟩ := pair_facts2 (h.heap HB7.out.2.2.1 (fun h => h))
      obtain ⟨p30, p31, _, _⟩ := pair_facts2 (h.heap HB7.out.2.2.2.1 (fun h => h))
      obtain ⟨p40, p41, _, _⟩ := pair_facts2 (h.heap HB7.out.2.2.2.2.1 (fun h => h))
      obtain ⟨p50, p51, _, _⟩ := pair_facts2 (h.heap HB7.out.2.2.2.2.2.1 (fun h => h))
      obtain ⟨p60, p61, _, _⟩ := pair_facts2 (h.heap HB7.out.2.2.2.2.2.2.1 (fun h => h))
      obtain ⟨p70, p71, _, _⟩ := pair_facts2 (h.heap HB7.out.2.2.2.2.2.2.2 (fun h => h))
      exact ⟨h, p00, p01, p10, p11, p20, p21, p30, p31, p40, p41, p50, p51, p60, p61, p70, p71⟩
    have HK := Lib.hid hK
    clear hK
    go_region_held3 (fun w' => Same W w' ∧ w'.cell? ⟨w.heap.size, 0, none⟩ = some (.int .i64 an) ∧ w'.cell? ⟨w.heap.size, 1, none⟩ = some (.int .i64 ad) ∧ w'.cell? ⟨w.heap.size + 1, 0, none⟩ = some (.int .i64 bn) ∧ w'.cell? ⟨w.heap.size + 1, 1, none⟩ = some (.int .i64 bd) ∧ w'.cell? ⟨w2.heap.size, 0, none⟩ = some (.int .i64 xn) ∧ w'.cell? ⟨w2.heap.size, 1, none⟩ = some (.int .i64 xd) ∧ w'.cell? ⟨w3.heap.size, 0, none⟩ = some (.int .i64 xn) ∧ w'.cell? ⟨w3.heap.size, 1, none⟩ = some (.int .i64 xd) ∧ w'.cell? ⟨w4.heap.size, 0, none⟩ = some (.int .i64 yn) ∧ w'.cell? ⟨w4.heap.size, 1, none⟩ = some (.int .i64 yd) ∧ w'.cell? ⟨w5.heap.size, 0, none⟩ = some (.int .i64 yn) ∧ w'.cell? ⟨w5.heap.size, 1, none⟩ = some (.int .i64 yd) ∧ w'.cell? ⟨w6.heap.size, 0, none⟩ = some (.int .i64 zn) ∧ w'.cell? ⟨w6.heap.size, 1, none⟩ = some (.int .i64 zd) ∧ w'.cell? ⟨w7.heap.size, 0, none⟩ = some (.int .i64 zn) ∧ w'.cell? ⟨w7.heap.size, 1, none⟩ = some (.int .i64 zd))
      (first | exact HK.out _ q0 | exact HK.out _ q0.drew)
      (first
        | (go_at_call 59; (with_reducible refine (C7.out _).mono ?_); rintro f wn ⟨rfl, hSn⟩; have q0 := Only.then (by first | exact q0 | exact q0.drew) hSn)
        | (go_at_call 60; (with_reducible refine (C8.out _).mono ?_); rintro f wn ⟨rfl, hSn⟩; have q0 := Only.then (by first | exact q0 | exact q0.drew) hSn)
        | (go_at_call 61; (with_reducible refine (C9.out _).mono ?_); rintro f wn ⟨rfl, hSn⟩; have q0 := Only.then (by first | exact q0 | exact q0.drew) hSn)
        | (go_at_call 62; (with_reducible refine (C10.out _).mono ?_); rintro f wn ⟨rfl, hSn⟩; have q0 := Only.then (by first | exact q0 | exact q0.drew) hSn))
    go_wp2_with fail
    go_meet
    case rel => exact ⟨by first | rfl | simp, by first | exact q0 | exact q0.drew⟩
  case rest =>
  obtain ⟨rfl, hSx⟩ := hcut
  have HSF := Lib.hid (HS7.out.then hSx)
  clear hSx HS7 HB7
  go_wp2_with fail
  go_ret
  exact ⟨rfl, HSF.out⟩
theorem exactRatios_row (v0 : Value) (x : Int × Int) (v1 : Value) (y : Int × Int) (n d : Int) (w : World) (h0 : RatV v0 x) (h1 : RatV v1 y) (hn : (Lit.int .i64 n).wf = true) (hd : (Lit.int .i64 d).wf = true) :
    Calls Try.prog 9 #[v0, v1, .int .i64 n, .int .i64 d] w fun e w' => e = .returned (.bool true) ∧ Same w w' := by
  obtain ⟨rfl, a, b⟩ := h0
  obtain ⟨rfl, c, d'⟩ := h1
  exact exactRatios_walk _ _ _ _ _ _ w a b c d' (bounds_i64 hn) (bounds_i64 hd)
end Go.Proofs.Ytafhgpknffkjmaa
