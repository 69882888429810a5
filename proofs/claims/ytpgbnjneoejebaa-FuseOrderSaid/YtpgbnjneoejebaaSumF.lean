import Derived.Test.YtpgbnjneoejebaaRatC
set_option linter.unusedVariables false
set_option linter.unusedSimpArgs false
namespace Go.Proofs.Ytpgbnjneoejebaa
open Go.RowKit

/-! exact.Sum where one is no rational -/
set_option maxRecDepth 100000 in
theorem sum_form1 (an ad bn bd : Int) (w : World) (ha : i64in an) (hd : i64in ad) (h1 : ¬ RatOk an ad) :
    Calls Try.prog 64 #[rat an ad, rat bn bd] w fun e w' => e = .returned (.tuple #[rat 0 0, .int .i64 2]) ∧ Same w w' := by
  have c1 := fun w0 => right_any an ad w0 ha hd
  rw [decide_eq_false h1] at c1
  have C1 := Lib.hid c1
  clear c1 h1
  have hb3 := blk3 w (.cells #[.int .i64 an, .int .i64 ad] 33) (.cells #[.int .i64 bn, .int .i64 bd] 33) (.cells #[.int .i64 0, .int .i64 0] 33)
  obtain ⟨k0, k1, k2, k3⟩ := pair_facts2 hb3.1
  have HB := Lib.hid hb3
  clear hb3
  go_enter Try.func64, Try.ntmps64
  go_wp2_with fail
  refine (C1.out _).mono ?_
  rintro e w2 ⟨rfl, hS2⟩
  obtain ⟨r0, r1, r2, r3⟩ := pair_facts2 (hS2.heap HB.out.2.2 (fun h => h))
  have HR := Lib.hid (hS2.heap HB.out.2.2 (fun h => h))
  have HS2 := Lib.hid hS2
  go_upto_region 2 with fail
  go_cut [5] from 6 (fun s5 wx => s5 = .int .i64 2 ∧ Same w wx ∧ wx.heap[w.heap.size + 2]? = some (.cells #[.int .i64 0, .int .i64 0] 33 (0, 0)))
  case first =>
    go_wp2_with fail
    go_meet
    case rel => exact ⟨rfl, ((((Only.refl _ w).alloc _).alloc _).alloc _ |>.then HS2.out).put2 (fun h => by omega) _ _, pair_set2 HR.out _ _⟩
  case rest =>
    obtain ⟨rfl, hSz, hRz⟩ := hcut
    have HSz := Lib.hid hSz
    have HRz := Lib.hid hRz
    clear hSz hRz
    go_step
    go_step
    (try simp only [Exit.inBlock, Exit.then])
    refine bodyPost_ret (results_ct2 rfl _ _ _ _ _ _ _ rfl HRz.out Try.underlying33 rfl (by kernel_rfl)) rfl ?_
    exact ⟨rfl, HSz.out⟩
set_option maxRecDepth 100000 in
theorem sum_form2 (an ad bn bd : Int) (w : World) (ha : i64in an) (hd : i64in ad) (hb : i64in bn) (hbd : i64in bd) (h1 : RatOk an ad) (h2 : ¬ RatOk bn bd) :
    Calls Try.prog 64 #[rat an ad, rat bn bd] w fun e w' => e = .returned (.tuple #[rat 0 0, .int .i64 2]) ∧ Same w w' := by
  have c1 := fun w0 => right_any an ad w0 ha hd
  have c2 := fun w0 => right_any bn bd w0 hb hbd
  rw [decide_eq_true h1] at c1
  rw [decide_eq_false h2] at c2
  have C1 := Lib.hid c1; have C2 := Lib.hid c2
  clear c1 c2 h1 h2
  have hb3 := blk3 w (.cells #[.int .i64 an, .int .i64 ad] 33) (.cells #[.int .i64 bn, .int .i64 bd] 33) (.cells #[.int .i64 0, .int .i64 0] 33)
  obtain ⟨k0, k1, k2, k3⟩ := pair_facts2 hb3.1
  obtain ⟨l0, l1, l2, l3⟩ := pair_facts2 hb3.2.1
  have HB := Lib.hid hb3
  clear hb3
  go_enter Try.func64, Try.ntmps64
  go_wp2_with fail
  refine (C1.out _).mono ?_
  rintro e w2 ⟨rfl, hS2⟩
  have n0 := hS2.cell_eq l0 (fun h => h)
  have n1 := hS2.cell_eq l1 (fun h => h)
  go_wp2_with fail
  refine (C2.out _).mono ?_
  rintro e w3 ⟨rfl, hS3⟩
  obtain ⟨r0, r1, r2, r3⟩ := pair_facts2 (hS3.heap (hS2.heap HB.out.2.2 (fun h => h)) (fun h => h))
  have HR := Lib.hid (hS3.heap (hS2.heap HB.out.2.2 (fun h => h)) (fun h => h))
  have HS3 := Lib.hid (hS2.then hS3)
  go_upto_region 2 with fail
  go_cut [5] from 6 (fun s5 wx => s5 = .int .i64 2 ∧ Same w wx ∧ wx.heap[w.heap.size + 2]? = some (.cells #[.int .i64 0, .int .i64 0] 33 (0, 0)))
  case first =>
    go_wp2_with fail
    go_meet
    case rel => exact ⟨rfl, ((((Only.refl _ w).alloc _).alloc _).alloc _ |>.then HS3.out).put2 (fun h => by omega) _ _, pair_set2 HR.out _ _⟩
  case rest =>
    obtain ⟨rfl, hSz, hRz⟩ := hcut
    have HSz := Lib.hid hSz
    have HRz := Lib.hid hRz
    clear hSz hRz
    go_step
    go_step
    (try simp only [Exit.inBlock, Exit.then])
    refine bodyPost_ret (results_ct2 rfl _ _ _ _ _ _ _ rfl HRz.out Try.underlying33 rfl (by kernel_rfl)) rfl ?_
    exact ⟨rfl, HSz.out⟩
end Go.Proofs.Ytpgbnjneoejebaa
