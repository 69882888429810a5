import Derived.Test.YtafhgpknffkjmaaPackRefF
import Derived.Test.YtafhgpknffkjmaaPackRis
import Derived.Test.YtafhgpknffkjmaaPackW
set_option linter.unusedVariables false
set_option linter.unusedSimpArgs false
namespace Go.Proofs.Ytafhgpknffkjmaa
open Go.RowKit

theorem Rd.ne {w : World} {b g j : Nat} {st : RS} {k : IntKind} {x : Int} (h : Rd w b st) (hc : w.cell? ⟨g, j, none⟩ = some (.int k x)) : g ≠ b := by
  rintro rfl
  rw [blk_cells h] at hc
  match j with
  | 0 => simp at hc
  | 1 => simp at hc
  | j + 2 => simp at hc
theorem sl_ints_lit (l : List Int) (w : World) (e : TypeId) (hl : l.length ≤ 1000) : Sl (w.alloc (.cells (l.map num).toArray e)) num (.slice (some ⟨w.heap.size, 0, none⟩) l.length l.length) l := by
  refine ⟨_, _, rfl, by simp, by unfold maxLen; omega, (by intro h; cases h), fun _ => ⟨_, _, rfl, fun i hi => ?_⟩⟩
  rw [blk_cells (blk_new _ _)]
  simp [hi]
theorem eno_some {α : Type} (x : α) : eno (some x) = 0 := rfl
theorem vint_300 : vint 300 = [172, 2] := by rw [vint_more (by decide), vint_small (by decide)]; rfl
theorem vint_1 : vint (zz (-1)) = [1] := by rw [show zz (-1) = 1 by decide, vint_small (by decide)]; rfl
theorem risS_35 : risS [3, 5] = some [2, 3, 1] := by
  unfold risS risb risb risb
  rw [if_neg (by decide), if_neg (by decide), vint_small (by decide), vint_small (by decide), vint_small (by decide)]
  rfl
theorem fixS_527 : fixS 3 [5, 2, 7] = some [213, 1] := by decide +kernel
theorem awk_v : varS (some [172, 2, 1, 2, 3, 1, 213, 1, 120]) = (300, some [1, 2, 3, 1, 213, 1, 120]) := by decide +kernel
theorem awk_z : zigS (some [1, 2, 3, 1, 213, 1, 120]) = (-1, some [2, 3, 1, 213, 1, 120]) := by decide +kernel
theorem awk_r : risR (some [2, 3, 1, 213, 1, 120]) 2 = ([3, 5], some [213, 1, 120]) := by decide +kernel
theorem awk_f : fixR (some [213, 1, 120]) 3 3 = ([5, 2, 7], some [120]) := by decide +kernel
theorem awk_b : bytesS (some [120]) 2 = ([], none) := by decide +kernel

set_option maxRecDepth 100000 in
set_option maxHeartbeats 4000000 in
theorem awake2_any (w : World) : Calls Try.prog 22 #[] w fun e w' => e = .returned (.bool true) ∧ Same w w' := by
  go_enter Try.func22, Try.ntmps22
  go_wp2_with fail
  refine (pvarint_ok 300 _ (by decide)).mono ?_
  rintro e w1 ⟨he, hS1⟩
  rw [vint_300, show str [172, 2] = ⟨#[172, 2]⟩ from rfl] at he
  subst he
  go_wp2_with fail
  refine (pvarint_neg (-1) _ (by decide)).mono ?_
  rintro e w2 ⟨rfl, hS2⟩
  go_wp2_with fail
  refine (ris_any _ [3, 5] _ (sl_ints_lit [3, 5] w2 3 (by decide)) (by decide) (by decide)).mono ?_
  rintro e w3 ⟨he, hS3⟩
  rw [risS_35, show str ((some ([2, 3, 1] : List UInt8)).getD []) = ⟨#[2, 3, 1]⟩ from rfl, eno_some] at he
  subst he
  go_wp2_with fail
  refine (fix_any 3 _ [5, 2, 7] _ (sl_ints_lit [5, 2, 7] w3 3 (by decide)) (by decide) (by decide)).mono ?_
  rintro e w4 ⟨he, hS4⟩
  rw [fixS_527, show str ((some ([213, 1] : List UInt8)).getD []) = ⟨#[213, 1]⟩ from rfl, eno_some] at he
  subst he
  go_wp2_with fail
  refine (zig_any (-1) _ (by decide)).mono ?_
  rintro e w5 ⟨he, hS5⟩
  rw [vint_1, show str [1] = ⟨#[1]⟩ from rfl] at he
  subst he
  have hS : Same w w5 := ((((hS1.then hS2).alloc _).then hS3).alloc _ |>.then hS4).then hS5
  clear hS1 hS2 hS3 hS4 hS5
  go_wp2_with fail
  refine (rnew_any [172, 2, 1, 2, 3, 1, 213, 1, 120] _).mono ?_
  rintro e w6 ⟨rfl, hS6, hR6⟩
  go_wp2_with fail
  refine (rvarint_any _ _ _ hR6 (by decide)).mono ?_
  rintro e w7 ⟨he, hO7, hR7⟩
  rw [awk_v] at he hR7
  subst he
  go_wp2_with fail
  refine (rzig_any _ _ _ hR7 (by decide)).mono ?_
  rintro e w8 ⟨he, hO8, hR8⟩
  rw [awk_z] at he hR8
  subst he
  go_wp2_with fail
  refine (rrising_any _ _ 2 _ hR8 (by decide)).mono ?_
  rintro e w9 ⟨v9, rfl, hO9, hR9, hL9⟩
  rw [awk_r] at hR9 hL9
  go_wp2_with fail
  refine (rfixed_any _ _ 3 3 _ hR9 (by decide)).mono ?_
  rintro e w10 ⟨v10, rfl, hO10, hR10, hL10⟩
  rw [awk_f] at hR10 hL10
  go_wp2_with fail
  refine (rleft_any _ _ _ hR10).mono ?_
  rintro e w11 ⟨rfl, hS11⟩
  go_wp2_with fail
  refine (rbytes_any _ _ 2 _ (hR10.same hS11) (by decide)).mono ?_
  rintro e w12 ⟨he, hO12, hR12⟩
  rw [awk_b, show str ([], (none : RS)).1 = ⟨#[]⟩ from rfl] at he
  rw [awk_b] at hR12
  subst he
  obtain ⟨a9, c9, rfl, _, _, _, hc9⟩ := hL9
  obtain ⟨b9, o9, rfl, kc9⟩ := hc9 (by decide)
  obtain ⟨a10, c10, rfl, _, _, _, hc10⟩ := hL10
  obtain ⟨b10, o10, rfl, kc10⟩ := hc10 (by decide)
  have hn9 := hR9.ne (kc9 1 (by decide))
  have hn10 := hR10.ne (kc10 0 (by decide))
  have k9 : w12.cell? ⟨b9, o9 + 1, none⟩ = some (num 5) := hO12.cell_eq (hS11.cell_eq (hO10.cell_eq (kc9 1 (by decide)) hn9) (fun h => h)) hn9
  have k10 : w12.cell? ⟨b10, o10, none⟩ = some (num 5) := hO12.cell_eq (hS11.cell_eq (kc10 0 (by decide)) (fun h => h)) hn10
  have k12 : w12.cell? ⟨b10, o10 + 2, none⟩ = some (num 7) := hO12.cell_eq (hS11.cell_eq (kc10 2 (by decide)) (fun h => h)) hn10
  have hSf : Same w w12 := (((((hS.then hS6).trans hO7 (fun k hk h => by have := hS.size; omega)).trans hO8 (fun k hk h => by have := hS.size; omega)).trans hO9 (fun k hk h => by have := hS.size; omega)).trans hO10 (fun k hk h => by have := hS.size; omega)).then hS11 |>.trans hO12 (fun k hk h => by have := hS.size; omega)
  have HR12 := Lib.hid (hR12 : Rd w12 w5.heap.size none)
  clear hR12 kc9 kc10 hc9 hc10 hO12 hS11 hO10 hO9 hO8 hO7 hS6 hS hR6 hR7 hR8 hR9 hR10
  go_wp2_with fail
  refine (zig_any (-1) _ (by decide)).mono ?_
  rintro e w13 ⟨he, hS13⟩
  rw [vint_1, show str [1] = ⟨#[1]⟩ from rfl] at he
  subst he
  have k9 := hS13.cell_eq k9 (fun h => h)
  have k10 := hS13.cell_eq k10 (fun h => h)
  have k12 := hS13.cell_eq k12 (fun h => h)
  have HSF := Lib.hid (hSf.then hS13)
  have HR13 := Lib.hid (HR12.out.same hS13)
  clear hSf hS13
  go_wp2_with fail
  refine (rbad_any _ _ _ HR13.out).mono ?_
  rintro e w14 ⟨rfl, hS14⟩
  go_wp2
  go_ret
  exact ⟨rfl, HSF.out.then hS14⟩
end Go.Proofs.Ytafhgpknffkjmaa
