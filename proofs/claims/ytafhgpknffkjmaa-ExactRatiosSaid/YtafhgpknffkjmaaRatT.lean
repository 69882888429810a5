import Derived.Test.YtafhgpknffkjmaaRat
set_option linter.unusedVariables false
set_option linter.unusedSimpArgs false
namespace Go.Proofs.Ytafhgpknffkjmaa
open Go.RowKit

theorem blk2' (w : World) (o o' : Obj) : ((w.alloc o).alloc o').heap[w.heap.size]? = some o ∧ ((w.alloc o).alloc o').heap[w.heap.size + 1]? = some o' := by
  refine ⟨blk_old _ (blk_new _ _), ?_⟩
  have := blk_new (w.alloc o) o'; rwa [World.size_alloc] at this
def timesZ (an ad n : Int) : Int := sg (decide (an < 0) != decide (n < 0)) (an.natAbs * (n.natAbs / Nat.gcd n.natAbs ad.natAbs))
def timesD (ad n : Int) : Int := (ad.natAbs / Nat.gcd n.natAbs ad.natAbs : Nat)

set_option maxRecDepth 100000 in
theorem times_form (an ad n : Int) (w : World) (ha : i64in an) (hd : i64in ad) (hn : i64in n) (h0 : ¬ RatOk an ad) :
    Calls Try.prog 57 #[rat an ad, .int .i64 n] w fun e w' => e = .returned (.tuple #[rat 0 0, .int .i64 2]) ∧ Same w w' := by
  have cr := fun w0 => right_any an ad w0 ha hd
  rw [decide_eq_false h0] at cr
  have CR := Lib.hid cr
  clear cr h0
  have hb1 := blk2' w (.cells #[.int .i64 an, .int .i64 ad] 83) (.cells #[.int .i64 0, .int .i64 0] 83)
  obtain ⟨k0, k1, k2, k3⟩ := pair_facts2 hb1.1
  have HB := Lib.hid hb1.2
  clear hb1
  go_enter Try.func57, Try.ntmps57
  go_wp2_with (go_at_call 59; refine (CR.out _).mono ?_; rintro e w2 ⟨rfl, hS2⟩; have hb2 := hS2.heap HB.out (fun h => h); have HB2 := Lib.hid hb2; obtain ⟨m0, m1, m2, m3⟩ := pair_facts2 hb2; clear hb2)
  refine bodyPost_ret (results_ct2 rfl _ _ _ _ _ _ _ rfl (pair_set2 HB2.out _ _) Try.underlying83 rfl (by kernel_rfl)) rfl ?_
  exact ⟨rfl, ((((Only.refl _ w).alloc _).alloc _).then hS2).put2 (fun h => absurd h (by simp)) _ _⟩

theorem sg_xor0 (m : Bool) (p : Nat) : sg (m && decide (p ≠ 0)) p = sg m p := by
  by_cases h : p = 0
  · subst h; cases m <;> rfl
  · rw [decide_eq_true h, Bool.and_true]
set_option maxRecDepth 100000 in
set_option maxHeartbeats 1000000 in
theorem times_go (an ad n : Int) (w : World) (ha : i64in an) (hd : i64in ad) (hn : i64in n) (h0 : RatOk an ad) :
    Calls Try.prog 57 #[rat an ad, .int .i64 n] w fun e w' => e = .returned (if fits (timesZ an ad n) then .tuple #[rat (timesZ an ad n) (timesD ad n), .int .i64 0] else .tuple #[rat 0 0, .int .i64 1]) ∧ Same w w' := by
  obtain ⟨res, hres⟩ : ∃ res, res = (if fits (timesZ an ad n) then Value.tuple #[rat (timesZ an ad n) (timesD ad n), .int .i64 0] else .tuple #[rat 0 0, .int .i64 1]) := ⟨_, rfl⟩
  rw [← hres]
  obtain ⟨d, rfl⟩ := Int.eq_ofNat_of_zero_le (show 0 ≤ ad by have := h0.1; omega)
  have hd0 : 0 < d := by have := h0.1; omega
  have hd63 : d < 9223372036854775808 := by have := hd.2; omega
  have u1 := wu64 d (by omega)
  have cr := fun w0 => right_any an d w0 ha hd
  rw [decide_eq_true h0] at cr
  unfold timesZ timesD at hres
  rw [Int.natAbs_natCast] at hres
  have hgp : 0 < Nat.gcd n.natAbs d := Nat.gcd_pos_of_pos_right _ hd0
  have c1 := fun w0 => size_any n w0 hn
  have c2 := fun w0 => divisor_any n.natAbs d w0 (by have := abs64 n hn; omega) (by omega)
  have c3 := fun w0 => size_any an w0 ha
  have hn63 := abs64 n hn
  have ha63 := abs64 an ha
  generalize Nat.gcd n.natAbs d = g at *
  have hq63 : n.natAbs / g ≤ n.natAbs := Nat.div_le_self _ _
  have c4 := fun w0 => wide_any an.natAbs (n.natAbs / g) (by omega) (by omega) w0
  have hdl2 : d / g < 9223372036854775808 := by have := Nat.div_le_self d g; omega
  have hg0 : (g : Int) ≠ 0 := by omega
  have hpm : an.natAbs * (n.natAbs / g) ≤ 9223372036854775808 * 9223372036854775808 := Nat.mul_le_mul ha63 (by omega)
  generalize n.natAbs = na at *
  generalize an.natAbs = aa at *
  have hq1 : (na : Int) / (g : Int) = ((na / g : Nat) : Int) := by simp
  have hq2 : (d : Int) / (g : Int) = ((d / g : Nat) : Int) := by simp
  generalize na / g = q at *
  generalize d / g = qd at *
  have u0 := wu64 q (by omega)
  have u2 := wi64 qd hdl2
  have u3 := ww64 qd hdl2
  have u4 := wu64 qd (Nat.lt_trans hdl2 (by decide))
  generalize aa * q = p at *
  have hpl : p = p / 18446744073709551616 * 18446744073709551616 + p % 18446744073709551616 := by omega
  have hl64 : p % 18446744073709551616 < 18446744073709551616 := by omega
  generalize p / 18446744073709551616 = h at *
  generalize p % 18446744073709551616 = l at *
  have c5 := fun w0 => signed_any l ((decide (an < 0) != decide (n < 0)) && decide (l ≠ 0)) w0 hl64
  rw [sg_xor0] at c5
  have hz1 : 0 < h → ¬ fits (sg (decide (an < 0) != decide (n < 0)) p) := by
    intro h0; apply not_fits_big; unfold sg; split <;> omega
  have hz2 : h = 0 → p = l := by intro h0; subst h0; omega
  have hb1 := blk2' w (.cells #[.int .i64 an, .int .i64 d] 83) (.cells #[.int .i64 0, .int .i64 0] 83)
  obtain ⟨k0, k1, k2, k3⟩ := pair_facts2 hb1.1
  have HB := Lib.hid hb1
  have CR := Lib.hid cr; have C1 := Lib.hid c1; have C2 := Lib.hid c2; have C3 := Lib.hid c3; have C4 := Lib.hid c4; have C5 := Lib.hid c5
  have HZ := Lib.hid (And.intro hz1 hz2); have HRES := Lib.hid hres
  clear hres cr c1 c2 c3 c4 c5 hb1 hn63 ha63 hq63 hdl2 hpm h0 hd63 hz1 hz2 hpl hl64
  go_enter Try.func57, Try.ntmps57
  go_upto_region 3 with (go_at_call 59; refine (CR.out _).mono ?_; rintro e w2 ⟨rfl, hS2⟩)
  have hbR := hS2.heap HB.out.2 (fun h => h)
  obtain ⟨m0, m1, m2, m3⟩ := pair_facts2 (hS2.heap HB.out.1 (fun h => h))
  have hSW : Same w w2 := ((Only.refl _ w).alloc _).alloc _ |>.then hS2
  have HSW := Lib.hid hSW; have HBR := Lib.hid hbR; have HM0 := Lib.hid m0; have HM1 := Lib.hid m1
  have hK : ∀ w', Same w2 w' → (Same w2 w' ∧ w'.cell? ⟨w.heap.size, 1, none⟩ = some (.int .i64 d)) := fun w' h => ⟨h, h.cell_eq m1 (fun h => h)⟩
  have HK := Lib.hid hK
  clear hbR hSW hK m0 m1 m2 m3 k0 k1 k2 k3 hS2
  have q0 : Same w2 w2 := Only.refl _ _
  go_region_held3 (fun w' => Same w2 w' ∧ w'.cell? ⟨w.heap.size, 1, none⟩ = some (.int .i64 d))
    (first | exact HK.out _ (by assumption) | exact HK.out _ (Only.drew (by assumption)))
    (first
      | (go_at_call 81; refine (C1.out _).mono ?_; rintro e w3 ⟨rfl, rfl⟩)
      | (go_at_call 85; refine (C2.out _).mono ?_; rintro e w3 ⟨rfl, hS3⟩; have q1 : Same w2 w3 := Only.then (by first | exact q0 | exact q0.drew | assumption | exact Only.drew (by assumption)) hS3))
  have m0 := q1.cell_eq HM0.out (fun h => h)
  have m1 := q1.cell_eq HM1.out (fun h => h)
  have hbR := q1.heap HBR.out (fun h => h)
  obtain ⟨r0, r1, r2, r3⟩ := pair_facts2 hbR
  have HB3 := Lib.hid hbR
  have HS3 := Lib.hid (HSW.out.then q1)
  clear hbR
  go_wp2_with fail
  refine (C3.out _).mono ?_
  rintro e w4 ⟨rfl, rfl⟩
  go_wp2_with fail
  refine (C1.out _).mono ?_
  rintro e w4 ⟨rfl, rfl⟩
  go_wp2_with fail
  refine (C4.out _).mono ?_
  rintro e w5 ⟨rfl, rfl⟩
  go_upto_region 5 with fail
  go_cut [9, 10] from 11 (fun s9 s10 wx => wx = w5 ∧ s9 = .int .i64 (backI (sg (decide (an < 0) != decide (n < 0)) l)) ∧ s10 = .bool (decide (fits (sg (decide (an < 0) != decide (n < 0)) l))))
  case first =>
    have c5 := C5.out w5
    generalize backI (sg (decide (an < 0) != decide (n < 0)) l) = bz at *
    generalize decide (fits (sg (decide (an < 0) != decide (n < 0)) l)) = fz at *
    generalize hpa : decide (an < 0) = pa at *
    generalize hpn : decide (n < 0) = pn at *
    have hl0 : ((l : Int) != 0) = decide (l ≠ 0) := by by_cases h : l = 0 <;> simp [h]
    generalize decide (l ≠ 0) = dl at *
    clear HZ C5
    cases pa
    all_goals cases pn
    all_goals cases dl
    all_goals
      simp only [bne_self_eq_false, Bool.bne_true, Bool.bne_false, Bool.not_true, Bool.not_false, Bool.true_bne, Bool.false_bne, Bool.and_true, Bool.and_false, Bool.true_and, Bool.false_and] at c5
      have C6 := Lib.hid c5
      clear c5
      go_wp2_with (go_at_call 82; refine C6.out.mono ?_; rintro e w6 ⟨rfl, rfl⟩)
      go_meet
      case rel => exact ⟨rfl, rfl, rfl⟩
  case rest =>
  obtain ⟨hwc, rfl, rfl⟩ := hcut
  subst hwc
  clear C1 C2 C3 C4 C5 CR HK HB HM0 HM1 HBR HSW
  generalize (decide (an < 0) != decide (n < 0)) = m at *
  by_cases hh : h = 0
  · have hpl := HZ.out.2 hh
    subst hh hpl
    by_cases hf : fits (sg m p)
    · have hbk : backI (sg m p) = sg m p := by unfold backI; rw [if_pos hf]
      have hd1 := decide_eq_true hf
      have HF := Lib.hid hf
      clear hf HZ
      generalize sg m p = z at *
      go_wp2_with fail
      refine bodyPost_ret (results_ct2 rfl _ _ _ _ _ _ _ rfl (pair_set2 HB3.out _ _) Try.underlying83 rfl (by kernel_rfl)) rfl ?_
      rw [HRES.out, if_pos HF.out]
      exact ⟨rfl, HS3.out.put2 (fun h => absurd h (by simp)) _ _⟩
    · have hd1 := decide_eq_false hf
      have HF := Lib.hid hf
      clear hf HZ
      generalize sg m p = z at *
      generalize backI z = bz at *
      go_wp2_with fail
      refine bodyPost_ret (results_ct2 rfl _ _ _ _ _ _ _ rfl (pair_set2 HB3.out _ _) Try.underlying83 rfl (by kernel_rfl)) rfl ?_
      rw [HRES.out, if_neg HF.out]
      exact ⟨rfl, HS3.out.put2 (fun h => absurd h (by simp)) _ _⟩
  · have hf := HZ.out.1 (by omega)
    have hh1 : ((h : Int) != 0) = true := by simp; omega
    have HF := Lib.hid hf
    clear hf HZ hh
    generalize backI (sg m l) = bz at *
    generalize decide (fits (sg m l)) = fz at *
    go_wp2_with fail
    refine bodyPost_ret (results_ct2 rfl _ _ _ _ _ _ _ rfl (pair_set2 HB3.out _ _) Try.underlying83 rfl (by kernel_rfl)) rfl ?_
    rw [HRES.out, if_neg HF.out]
    exact ⟨rfl, HS3.out.put2 (fun h => absurd h (by simp)) _ _⟩
end Go.Proofs.Ytafhgpknffkjmaa
