import Derived.Test.YtafhgpknffkjmaaRatiosT
set_option linter.unusedVariables false
set_option linter.unusedSimpArgs false
namespace Go.Proofs.Ytafhgpknffkjmaa
open Go.RowKit

/-! the reference's Sum, Times, Compare where one is no rational -/
set_option maxRecDepth 100000 in
theorem rsum_form (an bn ad bd : Int) (w : World) (ha : i64in an) (hd : i64in ad) (hb : i64in bn) (hbd : i64in bd) (h : ¬ (RatOk an ad ∧ RatOk bn bd)) :
    Calls Try.prog 56 #[rat an ad, rat bn bd] w fun f w' => f = .returned (.tuple #[rat 0 0, .int .i64 2]) ∧ Same w w' := by
  have r1 := fun w0 => rright_any an ad w0 ha hd
  have r2 := fun w0 => rright_any bn bd w0 hb hbd
  have hb3 := blk3 w (.cells #[.int .i64 an, .int .i64 ad] 83) (.cells #[.int .i64 bn, .int .i64 bd] 83) (.cells #[.int .i64 0, .int .i64 0] 83)
  have hS0 : Same w (((w.alloc (.cells #[.int .i64 an, .int .i64 ad] 83)).alloc (.cells #[.int .i64 bn, .int .i64 bd] 83)).alloc (.cells #[.int .i64 0, .int .i64 0] 83)) := (((Only.refl _ w).alloc _).alloc _).alloc _
  by_cases h1 : RatOk an ad
  · have h2 : ¬ RatOk bn bd := fun h2 => h ⟨h1, h2⟩
    rw [decide_eq_true h1] at r1
    rw [decide_eq_false h2] at r2
    have R1 := Lib.hid r1; have R2 := Lib.hid r2
    clear r1 r2 h h1 h2
    go_enter Try.func56, Try.ntmps56
    go_upto_region 1 with fail
    generalize ((w.alloc (.cells #[.int .i64 an, .int .i64 ad] 83)).alloc (.cells #[.int .i64 bn, .int .i64 bd] 83)).alloc (.cells #[.int .i64 0, .int .i64 0] 83) = W0 at *
    obtain ⟨k0, k1, k2, k3⟩ := pair_facts2 hb3.1
    obtain ⟨m0, m1, m2, m3⟩ := pair_facts2 hb3.2.1
    have HB3 := Lib.hid hb3; have HS0 := Lib.hid hS0
    clear hb3 hS0
    go_wp2_with fail
    refine (R1.out _).mono ?_
    rintro f w1 ⟨rfl, hS1⟩
    replace m0 := hS1.cell_eq m0 (fun h => h)
    replace m1 := hS1.cell_eq m1 (fun h => h)
    clear k0 k1 k2 k3 m2 m3
    go_wp2_with fail
    refine (R2.out _).mono ?_
    rintro f w2 ⟨rfl, hS2⟩
    have HB := Lib.hid (hS2.heap (hS1.heap HB3.out.2.2 (fun h => h)) (fun h => h))
    obtain ⟨r0, r1, r2, r3⟩ := pair_facts2 HB.out
    have HS2 := Lib.hid ((HS0.out.then hS1).then hS2)
    clear hS1 hS2 HB3 m0 m1
    go_wp2_with fail
    (try simp only [Exit.inBlock, Exit.then])
    refine bodyPost_ret (results_ct2 rfl _ _ _ _ _ _ _ rfl (pair_set2 HB.out _ _) Try.underlying83 rfl (by kernel_rfl)) rfl ?_
    exact ⟨rfl, HS2.out.put2 (fun h => by omega) _ _⟩
  · rw [decide_eq_false h1] at r1
    have R1 := Lib.hid r1
    clear r1 r2 h h1
    go_enter Try.func56, Try.ntmps56
    go_upto_region 1 with fail
    generalize ((w.alloc (.cells #[.int .i64 an, .int .i64 ad] 83)).alloc (.cells #[.int .i64 bn, .int .i64 bd] 83)).alloc (.cells #[.int .i64 0, .int .i64 0] 83) = W0 at *
    obtain ⟨k0, k1, k2, k3⟩ := pair_facts2 hb3.1
    have HB3 := Lib.hid hb3; have HS0 := Lib.hid hS0
    clear hb3 hS0
    go_wp2_with fail
    refine (R1.out _).mono ?_
    rintro f w2 ⟨rfl, hS2⟩
    have HB := Lib.hid (hS2.heap HB3.out.2.2 (fun h => h))
    obtain ⟨r0, r1, r2, r3⟩ := pair_facts2 HB.out
    have HS2 := Lib.hid (HS0.out.then hS2)
    clear hS2 HB3 k0 k1 k2 k3
    go_wp2_with fail
    (try simp only [Exit.inBlock, Exit.then])
    refine bodyPost_ret (results_ct2 rfl _ _ _ _ _ _ _ rfl (pair_set2 HB.out _ _) Try.underlying83 rfl (by kernel_rfl)) rfl ?_
    exact ⟨rfl, HS2.out.put2 (fun h => by omega) _ _⟩
set_option maxRecDepth 100000 in
theorem rtimes_form (an ad n : Int) (w : World) (ha : i64in an) (hd : i64in ad) (h1 : ¬ RatOk an ad) :
    Calls Try.prog 58 #[rat an ad, .int .i64 n] w fun f w' => f = .returned (.tuple #[rat 0 0, .int .i64 2]) ∧ Same w w' := by
  have r1 := fun w0 => rright_any an ad w0 ha hd
  have hb3 := blk2' w (.cells #[.int .i64 an, .int .i64 ad] 83) (.cells #[.int .i64 0, .int .i64 0] 83)
  have hS0 : Same w ((w.alloc (.cells #[.int .i64 an, .int .i64 ad] 83)).alloc (.cells #[.int .i64 0, .int .i64 0] 83)) := ((Only.refl _ w).alloc _).alloc _
  rw [decide_eq_false h1] at r1
  have R1 := Lib.hid r1
  clear r1 h1
  go_enter Try.func58, Try.ntmps58
  go_upto_region 1 with fail
  generalize (w.alloc (.cells #[.int .i64 an, .int .i64 ad] 83)).alloc (.cells #[.int .i64 0, .int .i64 0] 83) = W0 at *
  obtain ⟨k0, k1, k2, k3⟩ := pair_facts2 hb3.1
  have HB3 := Lib.hid hb3; have HS0 := Lib.hid hS0
  clear hb3 hS0
  go_wp2_with fail
  refine (R1.out _).mono ?_
  rintro f w2 ⟨rfl, hS2⟩
  have HB := Lib.hid (hS2.heap HB3.out.2 (fun h => h))
  obtain ⟨r0, r1, r2, r3⟩ := pair_facts2 HB.out
  have HS2 := Lib.hid (HS0.out.then hS2)
  clear hS2 HB3 k0 k1 k2 k3
  go_wp2_with fail
  (try simp only [Exit.inBlock, Exit.then])
  refine bodyPost_ret (results_ct2 rfl _ _ _ _ _ _ _ rfl (pair_set2 HB.out _ _) Try.underlying83 rfl (by kernel_rfl)) rfl ?_
  exact ⟨rfl, HS2.out.put2 (fun h => by omega) _ _⟩
set_option maxRecDepth 100000 in
theorem rcomp_bad (an bn ad bd : Int) (w : World) (ha : i64in an) (hd : i64in ad) (hb : i64in bn) (hbd : i64in bd) (h : ¬ (RatOk an ad ∧ RatOk bn bd)) :
    Calls Try.prog 62 #[rat an ad, rat bn bd] w fun f w' => f = .returned (.int .i64 0) ∧ Same w w' := by
  have r1 := fun w0 => rright_any an ad w0 ha hd
  have r2 := fun w0 => rright_any bn bd w0 hb hbd
  have hb3 := blk2' w (.cells #[.int .i64 an, .int .i64 ad] 83) (.cells #[.int .i64 bn, .int .i64 bd] 83)
  have hS0 : Same w ((w.alloc (.cells #[.int .i64 an, .int .i64 ad] 83)).alloc (.cells #[.int .i64 bn, .int .i64 bd] 83)) := ((Only.refl _ w).alloc _).alloc _
  by_cases h1 : RatOk an ad
  · have h2 : ¬ RatOk bn bd := fun h2 => h ⟨h1, h2⟩
    rw [decide_eq_true h1] at r1
    rw [decide_eq_false h2] at r2
    have R1 := Lib.hid r1; have R2 := Lib.hid r2
    clear r1 r2 h h1 h2
    go_enter Try.func62, Try.ntmps62
    go_upto_region 1 with fail
    generalize (w.alloc (.cells #[.int .i64 an, .int .i64 ad] 83)).alloc (.cells #[.int .i64 bn, .int .i64 bd] 83) = W0 at *
    obtain ⟨k0, k1, k2, k3⟩ := pair_facts2 hb3.1
    obtain ⟨m0, m1, m2, m3⟩ := pair_facts2 hb3.2
    have HS0 := Lib.hid hS0
    clear hb3 hS0
    go_wp2_with fail
    refine (R1.out _).mono ?_
    rintro f w1 ⟨rfl, hS1⟩
    replace m0 := hS1.cell_eq m0 (fun h => h)
    replace m1 := hS1.cell_eq m1 (fun h => h)
    clear k0 k1 k2 k3 m2 m3
    go_wp2_with fail
    refine (R2.out _).mono ?_
    rintro f w2 ⟨rfl, hS2⟩
    go_wp2_with fail
    go_ret
    exact ⟨rfl, (HS0.out.then hS1).then hS2⟩
  · rw [decide_eq_false h1] at r1
    have R1 := Lib.hid r1
    clear r1 r2 h h1
    go_enter Try.func62, Try.ntmps62
    go_upto_region 1 with fail
    generalize (w.alloc (.cells #[.int .i64 an, .int .i64 ad] 83)).alloc (.cells #[.int .i64 bn, .int .i64 bd] 83) = W0 at *
    obtain ⟨k0, k1, k2, k3⟩ := pair_facts2 hb3.1
    have HS0 := Lib.hid hS0
    clear hb3 hS0
    go_wp2_with fail
    refine (R1.out _).mono ?_
    rintro f w2 ⟨rfl, hS2⟩
    go_wp2_with fail
    go_ret
    exact ⟨rfl, HS0.out.then hS2⟩
end Go.Proofs.Ytafhgpknffkjmaa
