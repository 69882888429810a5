import Derived.Test.YtafhgpknffkjmaaCrcMath
set_option linter.unusedVariables false
set_option linter.unusedSimpArgs false
namespace Go.Proofs.Ytafhgpknffkjmaa
open Go.RowKit

theorem openOf_ab : openOf (sealOf ⟨#[97, 98]⟩) = (⟨#[97, 98]⟩, 0) := by decide +kernel
theorem openOf_abc : openOf ⟨#[97, 98, 99]⟩ = (⟨#[]⟩, 2) := by decide +kernel
theorem openOf_abcd : openOf ⟨#[97, 98, 99, 100]⟩ = (⟨#[]⟩, 8) := by decide +kernel
theorem sum_9 : bits .xor .u32 (crcAll [54, 55, 56, 57] (crcAll [49, 50, 51, 52, 53] 4294967295)) 4294967295 = 3421780262 := by decide +kernel
theorem csum_9 : crcSum (cat [⟨#[49, 50, 51, 52]⟩, ⟨#[53, 54, 55, 56, 57]⟩]) = 3421780262 := by decide +kernel
theorem seal_0 : (sealOf ⟨#[]⟩).size = 4 := by decide +kernel
theorem sl_two (s t : ByteArray) (w : World) : Sl (w.alloc (.cells #[.string s, .string t] 9)) .string (.slice (some ⟨w.heap.size, 0, none⟩) 2 2) [s, t] := by
  refine ⟨_, _, rfl, by simp, by simp [maxLen], (by intro h; cases h), fun _ => ⟨_, _, rfl, fun i hi => ?_⟩⟩
  rw [blk_cells (blk_new _ _)]
  match i, hi with
  | 0, _ => rfl
  | 1, _ => rfl
  | i + 2, h => exact absurd h (by simp)

set_option maxRecDepth 100000 in
theorem awake1_any (w : World) : Calls Try.prog 11 #[] w fun e w' => e = .returned (.bool true) ∧ Same w w' := by
  obtain ⟨j, hj, _, hj2, _⟩ := info_parts (P := Try.prog) (e := 112) (z := .agg Try.zeroCells112) (size := 261) (bytes := 1048) (by kernel_rfl)
  have hne := fun (w : World) (a : Addr) => run_neq_ptr_same (P := Try.prog) w a Try.underlying24 hj (by omega)
  clear hj hj2
  go_enter Try.func11, Try.ntmps11
  go_wp2_with fail
  refine (new_any _).mono ?_
  rintro e w1 ⟨rfl, hS1, hM1⟩
  go_wp2_with fail
  refine (add_any _ 0 4294967295 0 ⟨#[49, 50, 51, 52, 53]⟩ (by decide) (.inl rfl) (by decide) _ hM1).mono ?_
  rintro e w2 ⟨rfl, hO2, hM2⟩
  go_wp2_with fail
  refine (add_any _ 1 _ _ ⟨#[54, 55, 56, 57]⟩ (by decide) (.inr rfl) (crcAll_range _ _ (by decide)) _ hM2).mono ?_
  rintro e w3 ⟨rfl, hO3, hM3⟩
  have hS3 : Same w w3 := (hS1.trans hO2 (fun k hk h => by omega)).trans hO3 (fun k hk h => by omega)
  go_wp2_with fail
  refine (msum_any _ _ _ _ _ hM3).mono ?_
  rintro e w4 ⟨he, rfl⟩
  rw [show bits .xor .u32 _ _ = _ from sum_9] at he
  subst he
  go_wp2_with fail
  refine (seal_any ⟨#[97, 98]⟩ _ (by decide)).mono ?_
  rintro e w5 ⟨rfl, hS5⟩
  go_wp2_with fail
  refine (open_any (sealOf ⟨#[97, 98]⟩) _ (by decide +kernel)).mono ?_
  rintro e w6 ⟨he, hS6⟩
  rw [openOf_ab] at he
  subst he
  go_wp2_with fail
  refine (open_any ⟨#[97, 98, 99]⟩ _ (by decide)).mono ?_
  rintro e w7 ⟨he, hS7⟩
  rw [openOf_abc] at he
  subst he
  go_wp2_with fail
  refine (open_any ⟨#[97, 98, 99, 100]⟩ _ (by decide)).mono ?_
  rintro e w8 ⟨he, hS8a⟩
  rw [openOf_abcd] at he
  subst he
  have hS8 : Same w w8 := (((hS3.then hS5).then hS6).then hS7).then hS8a
  go_wp2_with fail
  refine (mlen_any _ _ _ _ _ (hM3.only (((((Only.refl (fun _ => False) _).then hS5).then hS6).then hS7).then hS8a) (fun h => h))).mono ?_
  rintro e w9 ⟨he, rfl⟩
  rw [show wrap64 (wrap64 (0 + _) + _) = 9 from (by decide +kernel)] at he
  subst he
  go_wp2_with fail
  refine (csum_any _ [⟨#[49, 50, 51, 52]⟩, ⟨#[53, 54, 55, 56, 57]⟩] _ (sl_two _ _ _) ?_).mono ?_
  · intro t ht; simp only [List.mem_cons, List.not_mem_nil, or_false] at ht; rcases ht with rfl | rfl <;> decide
  rintro e w10 ⟨he, hS10⟩
  rw [csum_9] at he
  subst he
  go_wp2_with fail
  refine (seal_any ⟨#[]⟩ _ (by decide)).mono ?_
  rintro e w11 ⟨rfl, hS11⟩
  have hz := seal_0
  have hfin : Same w w11 := ((hS8.alloc _).then hS10).then hS11
  clear hS11 hS10 hS8 hS8a hS7 hS6 hS5 hS3 hM3 hO3 hM2 hO2 hM1 hS1
  go_wp2
  go_ret
  exact ⟨rfl, hfin⟩
end Go.Proofs.Ytafhgpknffkjmaa
