import Derived.Test.YtpgbnjneoejebaaRatC
set_option linter.unusedVariables false
set_option linter.unusedSimpArgs false
namespace Go.Proofs.Ytpgbnjneoejebaa
open Go.RowKit

/-! exact.Compare's easy ways: one that is no rational; the same; signs that differ -/
set_option maxRecDepth 100000 in
theorem compare_bad1 (an ad bn bd : Int) (w : World) (ha : i64in an) (hd : i64in ad) (h1 : ¬ RatOk an ad) :
    Calls Try.prog 38 #[rat an ad, rat bn bd] w fun e w' => e = .returned (.int .i64 0) ∧ Same w w' := by
  have c1 := fun w0 => right_any an ad w0 ha hd
  rw [decide_eq_false h1] at c1
  have C1 := Lib.hid c1
  clear c1 h1
  have hbk := blk2' w (.cells #[.int .i64 an, .int .i64 ad] 33) (.cells #[.int .i64 bn, .int .i64 bd] 33)
  obtain ⟨k0, k1, k2, k3⟩ := pair_facts2 hbk.1
  clear hbk
  go_enter Try.func38, Try.ntmps38
  go_wp2_with (go_at_call 13; refine (C1.out _).mono ?_; rintro e w2 ⟨rfl, hS2⟩)
  go_ret
  exact ⟨rfl, (((Only.refl _ w).alloc _).alloc _).then hS2⟩
set_option maxRecDepth 100000 in
theorem compare_bad2 (an ad bn bd : Int) (w : World) (ha : i64in an) (hd : i64in ad) (hb : i64in bn) (hbd : i64in bd) (h1 : RatOk an ad) (h2 : ¬ RatOk bn bd) :
    Calls Try.prog 38 #[rat an ad, rat bn bd] w fun e w' => e = .returned (.int .i64 0) ∧ Same w w' := by
  have c1 := fun w0 => right_any an ad w0 ha hd
  have c2 := fun w0 => right_any bn bd w0 hb hbd
  rw [decide_eq_true h1] at c1
  rw [decide_eq_false h2] at c2
  have C1 := Lib.hid c1; have C2 := Lib.hid c2
  clear c1 c2 h1 h2
  have hbk := blk2' w (.cells #[.int .i64 an, .int .i64 ad] 33) (.cells #[.int .i64 bn, .int .i64 bd] 33)
  obtain ⟨k0, k1, k2, k3⟩ := pair_facts2 hbk.1
  obtain ⟨l0, l1, l2, l3⟩ := pair_facts2 hbk.2
  clear hbk
  go_enter Try.func38, Try.ntmps38
  go_wp2_with fail
  refine (C1.out _).mono ?_
  rintro e w2 ⟨rfl, hS2⟩
  have n0 := hS2.cell_eq l0 (fun h => h)
  have n1 := hS2.cell_eq l1 (fun h => h)
  go_wp2_with fail
  refine (C2.out _).mono ?_
  rintro e w3 ⟨rfl, hS3⟩
  go_wp2_with fail
  go_ret
  exact ⟨rfl, ((((Only.refl _ w).alloc _).alloc _).then hS2).then hS3⟩
set_option maxRecDepth 100000 in
theorem compare_eq (an ad : Int) (w : World) (ha : i64in an) (hd : i64in ad) (h1 : RatOk an ad) :
    Calls Try.prog 38 #[rat an ad, rat an ad] w fun e w' => e = .returned (.int .i64 0) ∧ Same w w' := by
  have c1 := fun w0 => right_any an ad w0 ha hd
  have c2 := fun w0 => right_any an ad w0 ha hd
  rw [decide_eq_true h1] at c1
  rw [decide_eq_true h1] at c2
  have C1 := Lib.hid c1; have C2 := Lib.hid c2
  clear c1 c2 h1
  have hbk := blk2' w (.cells #[.int .i64 an, .int .i64 ad] 33) (.cells #[.int .i64 an, .int .i64 ad] 33)
  obtain ⟨k0, k1, k2, k3⟩ := pair_facts2 hbk.1
  obtain ⟨l0, l1, l2, l3⟩ := pair_facts2 hbk.2
  clear hbk
  go_enter Try.func38, Try.ntmps38
  go_wp2_with fail
  refine (C1.out _).mono ?_
  rintro e w2 ⟨rfl, hS2⟩
  have n0 := hS2.cell_eq l0 (fun h => h)
  have n1 := hS2.cell_eq l1 (fun h => h)
  go_wp2_with fail
  refine (C2.out _).mono ?_
  rintro e w3 ⟨rfl, hS3⟩
  have m0 := hS3.cell_eq (hS2.cell_eq k0 (fun h => h)) (fun h => h)
  have m1 := hS3.cell_eq (hS2.cell_eq k1 (fun h => h)) (fun h => h)
  replace n0 := hS3.cell_eq n0 (fun h => h)
  replace n1 := hS3.cell_eq n1 (fun h => h)
  go_wp2_with fail
  go_ret
  exact ⟨rfl, ((((Only.refl _ w).alloc _).alloc _).then hS2).then hS3⟩
set_option maxRecDepth 100000 in
theorem compare_neg (an ad bn bd : Int) (w : World) (ha : i64in an) (hd : i64in ad) (hb : i64in bn) (hbd : i64in bd) (h1 : RatOk an ad) (h2 : RatOk bn bd) (g1 : an < 0) (g2 : 0 ≤ bn) :
    Calls Try.prog 38 #[rat an ad, rat bn bd] w fun e w' => e = .returned (.int .i64 (-1)) ∧ Same w w' := by
  have c1 := fun w0 => right_any an ad w0 ha hd
  have c2 := fun w0 => right_any bn bd w0 hb hbd
  rw [decide_eq_true h1] at c1
  rw [decide_eq_true h2] at c2
  have C1 := Lib.hid c1; have C2 := Lib.hid c2
  have e139 := eq139
  have hne : (an == bn) = false := by simp; omega
  have hne2 : ¬ an = bn := by omega
  have d1 : decide (an < 0) = true := decide_eq_true g1
  have d2 : decide (bn < 0) = false := decide_eq_false (by omega)
  clear c1 c2 h1 h2
  have hbk := blk2' w (.cells #[.int .i64 an, .int .i64 ad] 33) (.cells #[.int .i64 bn, .int .i64 bd] 33)
  obtain ⟨k0, k1, k2, k3⟩ := pair_facts2 hbk.1
  obtain ⟨l0, l1, l2, l3⟩ := pair_facts2 hbk.2
  clear hbk
  go_enter Try.func38, Try.ntmps38
  go_wp2_with fail
  refine (C1.out _).mono ?_
  rintro e w2 ⟨rfl, hS2⟩
  have n0 := hS2.cell_eq l0 (fun h => h)
  have n1 := hS2.cell_eq l1 (fun h => h)
  go_wp2_with fail
  refine (C2.out _).mono ?_
  rintro e w3 ⟨rfl, hS3⟩
  have m0 := hS3.cell_eq (hS2.cell_eq k0 (fun h => h)) (fun h => h)
  have m1 := hS3.cell_eq (hS2.cell_eq k1 (fun h => h)) (fun h => h)
  replace n0 := hS3.cell_eq n0 (fun h => h)
  replace n1 := hS3.cell_eq n1 (fun h => h)
  go_wp2_with fail
  go_ret
  exact ⟨rfl, ((((Only.refl _ w).alloc _).alloc _).then hS2).then hS3 |>.alloc _⟩
set_option maxRecDepth 100000 in
theorem compare_pos (an ad bn bd : Int) (w : World) (ha : i64in an) (hd : i64in ad) (hb : i64in bn) (hbd : i64in bd) (h1 : RatOk an ad) (h2 : RatOk bn bd) (g1 : 0 ≤ an) (g2 : bn < 0) :
    Calls Try.prog 38 #[rat an ad, rat bn bd] w fun e w' => e = .returned (.int .i64 1) ∧ Same w w' := by
  have c1 := fun w0 => right_any an ad w0 ha hd
  have c2 := fun w0 => right_any bn bd w0 hb hbd
  rw [decide_eq_true h1] at c1
  rw [decide_eq_true h2] at c2
  have C1 := Lib.hid c1; have C2 := Lib.hid c2
  have e139 := eq139
  have hne : (an == bn) = false := by simp; omega
  have hne2 : ¬ an = bn := by omega
  have d1 : decide (an < 0) = false := decide_eq_false (by omega)
  have d2 : decide (bn < 0) = true := decide_eq_true g2
  clear c1 c2 h1 h2
  have hbk := blk2' w (.cells #[.int .i64 an, .int .i64 ad] 33) (.cells #[.int .i64 bn, .int .i64 bd] 33)
  obtain ⟨k0, k1, k2, k3⟩ := pair_facts2 hbk.1
  obtain ⟨l0, l1, l2, l3⟩ := pair_facts2 hbk.2
  clear hbk
  go_enter Try.func38, Try.ntmps38
  go_wp2_with fail
  refine (C1.out _).mono ?_
  rintro e w2 ⟨rfl, hS2⟩
  have n0 := hS2.cell_eq l0 (fun h => h)
  have n1 := hS2.cell_eq l1 (fun h => h)
  go_wp2_with fail
  refine (C2.out _).mono ?_
  rintro e w3 ⟨rfl, hS3⟩
  have m0 := hS3.cell_eq (hS2.cell_eq k0 (fun h => h)) (fun h => h)
  have m1 := hS3.cell_eq (hS2.cell_eq k1 (fun h => h)) (fun h => h)
  replace n0 := hS3.cell_eq n0 (fun h => h)
  replace n1 := hS3.cell_eq n1 (fun h => h)
  go_wp2_with fail
  go_ret
  exact ⟨rfl, ((((Only.refl _ w).alloc _).alloc _).then hS2).then hS3 |>.alloc _⟩
end Go.Proofs.Ytpgbnjneoejebaa
