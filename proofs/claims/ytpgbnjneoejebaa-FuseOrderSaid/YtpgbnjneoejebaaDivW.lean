import Derived.Test.YtpgbnjneoejebaaDivP
import Derived.Test.YtpgbnjneoejebaaRat
import Derived.Deep.CutBlock
set_option linter.unusedVariables false
set_option linter.unusedSimpArgs false
namespace Go.Proofs.Ytpgbnjneoejebaa
open Go.RowKit

set_option maxRecDepth 100000 in
theorem div64_zero (lo y : Nat) (w : World) (h0 : 0 < y) (hlo : lo < 18446744073709551616) (hy : y < 18446744073709551616) :
    Calls Try.prog 114 #[.int .u64 0, .int .u64 lo, .int .u64 y] w fun e w' => e = .returned (.tuple #[.int .u64 ((lo / y : Nat) : Int), .int .u64 ((lo % y : Nat) : Int)]) ∧ Same w w' := by
  have hq1 : (lo : Int) / (y : Int) = ((lo / y : Nat) : Int) := by simp
  have hq2 : (lo : Int) % (y : Int) = ((lo % y : Nat) : Int) := by simp
  have hq3 : (lo : Int).tmod (y : Int) = ((lo % y : Nat) : Int) := by rw [Int.tmod_eq_emod_of_nonneg (by omega)]; simp
  have hm := Nat.mod_lt lo h0
  have hd := Nat.div_le_self lo y
  have u1 := wu64 (lo / y) (by omega)
  have u2 := wu64 (lo % y) (by omega)
  have hy0 : ((y : Int) == 0) = false := by simp; omega
  have hyn : (y : Int) ≠ 0 := by omega
  have hyp : (0 : Int) < y := by omega
  generalize lo / y = q at *
  generalize lo % y = r at *
  clear hm hd hlo hy h0
  go_enter Try.func114, Try.ntmps114
  go_wp2_with fail
  go_quiet (fail)
  rename_i nq
  go_wp2
  go_ret2
  exact ⟨rfl, (Only.refl _ w).drewN nq⟩

set_option maxRecDepth 100000 in
set_option maxHeartbeats 2000000 in
theorem div64_pos (hi lo y : Nat) (w : World) (hhi0 : 0 < hi) (hhi : hi < y) (hlo : lo < 18446744073709551616) (hy : y < 18446744073709551616) :
    Calls Try.prog 114 #[.int .u64 hi, .int .u64 lo, .int .u64 y] w fun e w' => e = .returned (.tuple #[.int .u64 (((hi * 18446744073709551616 + lo) / y : Nat) : Int), .int .u64 (((hi * 18446744073709551616 + lo) % y : Nat) : Int)]) ∧ Same w w' := by
  obtain ⟨b1, b2, b3, b4⟩ := bitLen_bounds y (by omega) hy
  have cl := fun w0 => lz64_any y w0 hy
  obtain ⟨s, hs⟩ : ∃ s, s = 64 - Lib.bitLen y := ⟨_, rfl⟩
  rw [← hs] at cl
  have hs63 : s ≤ 63 := by omega
  have hsy : y * 2 ^ s < 2 ^ 64 := by
    have h1 : y * 2 ^ s < 2 ^ Lib.bitLen y * 2 ^ s := (Nat.mul_lt_mul_right (Nat.pow_pos (by omega))).2 b4
    rw [← Nat.pow_add, show Lib.bitLen y + s = 64 by omega] at h1
    exact h1
  have hsn : 2 ^ 63 ≤ y * 2 ^ s := by
    have h1 : 2 ^ (Lib.bitLen y - 1) * 2 ^ s ≤ y * 2 ^ s := Nat.mul_le_mul b3 (Nat.le_refl _)
    rw [← Nat.pow_add, show Lib.bitLen y - 1 + s = 63 by omega] at h1
    exact h1
  obtain ⟨k1, k2⟩ := kn_shift hi lo y s hs63 hhi hlo hsy
  have CL := Lib.hid cl
  clear cl b1 b2 b3 b4 hs
  have hy0 : ((y : Int) == 0) = false := by simp; omega
  have hi0 : ((hi : Int) == 0) = false := by simp; omega
  have hK := Lib.hid (And.intro k1 k2); have HSY := Lib.hid (And.intro hsy hsn)
  clear k1 k2 hsy hsn
  have us := wu64 s (by omega)
  go_enter Try.func114, Try.ntmps114
  go_upto_region 8 with (go_at_call 132; refine (CL.out _).mono ?_; rintro e w2 ⟨rfl, rfl⟩)
  obtain ⟨v, hv⟩ : ∃ v, v = y * 2 ^ s := ⟨_, rfl⟩
  obtain ⟨u, hu⟩ : ∃ u, u = hi * 2 ^ s + lo / 2 ^ (64 - s) := ⟨_, rfl⟩
  obtain ⟨l, hl⟩ : ∃ l, l = lo * 2 ^ s % 2 ^ 64 := ⟨_, rfl⟩
  have hv64 : v < 18446744073709551616 := by have := HSY.out.1; rw [hv]; omega
  have hv63 : 9223372036854775808 ≤ v := by have := HSY.out.2; rw [hv]; omega
  have huv : u < v := by have := hK.out.1; rw [hv, hu]; exact this
  have hl64 : l < 18446744073709551616 := by rw [hl]; exact Nat.mod_lt _ (by decide)
  have HV := Lib.hid hv; have HU := Lib.hid hu; have HLL := Lib.hid hl
  have F1 := Lib.hid hv64; have F2 := Lib.hid hv63; have F3 := Lib.hid huv; have F4 := Lib.hid hl64
  clear hv hu hl hv64 hv63 huv hl64
  go_upto_region 14 with fail
  go_cut [2, 9, 10, 11, 12, 13, 14] from 19 (fun s2 s9 s10 s11 s12 s13 s14 wx => wx = w2 ∧ s2 = .int .u64 (v : Nat) ∧ s9 = .int .u64 (v / 4294967296 : Nat) ∧ s10 = .int .u64 (v % 4294967296 : Nat) ∧ s11 = .int .u64 (u : Nat) ∧ s13 = .int .u64 (l / 4294967296 : Nat) ∧ s14 = .int .u64 (l % 4294967296 : Nat))
  case first =>
    go_wp2
    go_meet
    case rel =>
      have e1 : IntKind.u64.wrap ((y : Int) * 2 ^ s) = (v : Int) := by
        rw [show ((y : Int) * 2 ^ s) = ((y * 2 ^ s : Nat) : Int) by simp, ← HV.out]; exact wu64 v F1.out
      have e2 : IntKind.u64.wrap ((lo : Int) * 2 ^ s) = (l : Int) := by
        rw [show ((lo : Int) * 2 ^ s) = ((lo * 2 ^ s : Nat) : Int) by simp, Mul64.wrapM, HLL.out]
      have hhs : hi * 2 ^ s ≤ u := by rw [HU.out]; exact Nat.le_add_right _ _
      have e3 : IntKind.u64.wrap ((hi : Int) * 2 ^ s) = ((hi * 2 ^ s : Nat) : Int) := by
        rw [show ((hi : Int) * 2 ^ s) = ((hi * 2 ^ s : Nat) : Int) by simp]; exact wu64 _ (by have := F1.out; have := F3.out; omega)
      have e4 : (lo : Int) / 2 ^ (64 - s) = ((lo / 2 ^ (64 - s) : Nat) : Int) := by simp
      have hlt : lo / 2 ^ (64 - s) < 2 ^ s := by
        rw [Nat.div_lt_iff_lt_mul (Nat.pow_pos (by omega)), ← Nat.pow_add, show s + (64 - s) = 64 by omega]; exact hlo
      have e5 : bits .or .u64 ((hi * 2 ^ s : Nat) : Int) ((lo / 2 ^ (64 - s) : Nat) : Int) = (u : Int) := by
        have h1 : hi * 2 ^ s < 18446744073709551616 := by have := F1.out; have := F3.out; omega
        have h2 : lo / 2 ^ (64 - s) < 18446744073709551616 := Nat.lt_of_le_of_lt (Nat.div_le_self _ _) hlo
        rw [(bits_nat .u64 64 (by decide) (fun n h0 h1 => by rw [IntKind.wrap_u64]; omega) (hi * 2 ^ s) (lo / 2 ^ (64 - s)) h1 h2).2, Nat.mul_comm hi, ← Nat.two_pow_add_eq_or_of_lt hlt, HU.out, Nat.mul_comm hi]
      rw [e1, e2, e3, e4, e5, Mul64.maskN v F1.out, Mul64.maskN l F4.out, Mul64.divN, Mul64.divN]
      exact ⟨rfl, rfl, rfl, rfl, rfl, rfl, rfl⟩
  case rest =>
  obtain ⟨rfl, rfl, rfl, rfl, rfl, rfl, rfl⟩ := hcut
  obtain ⟨v1, hv1⟩ : ∃ v1, v1 = v / 4294967296 := ⟨_, rfl⟩
  obtain ⟨v0, hv0⟩ : ∃ v0, v0 = v % 4294967296 := ⟨_, rfl⟩
  obtain ⟨t1, ht1⟩ : ∃ t1, t1 = l / 4294967296 := ⟨_, rfl⟩
  obtain ⟨t0, ht0⟩ : ∃ t0, t0 = l % 4294967296 := ⟨_, rfl⟩
  rw [← hv1, ← hv0, ← ht1, ← ht0]
  have FV : Hid (v = v1 * 4294967296 + v0) := Lib.hid (by rw [hv1, hv0]; omega)
  have FL : Hid (l = t1 * 4294967296 + t0) := Lib.hid (by rw [ht1, ht0]; omega)
  have F4' : Hid (v1 < 4294967296) := Lib.hid (by have := F1.out; rw [hv1]; omega)
  have F5 : Hid (2147483648 ≤ v1) := Lib.hid (by have := F2.out; rw [hv1]; omega)
  have F6 : Hid (v0 < 4294967296) := Lib.hid (by rw [hv0]; omega)
  have T1 : Hid (t1 < 4294967296) := Lib.hid (by have := F4.out; rw [ht1]; omega)
  have T0 : Hid (t0 < 4294967296) := Lib.hid (by rw [ht0]; omega)
  clear hv1 hv0 ht1 ht0 hy0 hi0
  obtain ⟨w2, hw2⟩ : ∃ x, x = wc := ⟨_, rfl⟩
  subst hw2
  obtain ⟨Q1, hQ1⟩ : ∃ Q1, Q1 = (u * 4294967296 + t1) / v := ⟨_, rfl⟩
  have HQ1 := Lib.hid hQ1
  clear hQ1
  have d1 : (u : Int) / (v1 : Int) = ((u / v1 : Nat) : Int) := by simp
  have dn : (v1 : Int) ≠ 0 := by have := F5.out; omega
  have dm : ((u / v1 : Nat) : Int) * (v1 : Int) = ((u / v1 * v1 : Nat) : Int) := by simp
  have dle : u / v1 * v1 ≤ u := Nat.div_mul_le_self u v1
  have dsub : u / v1 * v1 + u % v1 = u := by rw [Nat.mul_comm]; exact Nat.div_add_mod u v1
  have dlt : u % v1 < v1 := Nat.mod_lt u (by have := F5.out; omega)
  have hu64 : u < 18446744073709551616 := by have := F1.out; have := F3.out; omega
  have dq := Nat.div_le_self u v1
  have dkn : Q1 ≤ u / v1 := by rw [HQ1.out, FV.out]; exact kn_init 4294967296 u t1 v1 v0 (by omega) T1.out (by have := F5.out; omega)
  generalize u / v1 = qa at *
  generalize u % v1 = ra at *
  have DID := Lib.hid dsub; have DLT := Lib.hid dlt; have DKN := Lib.hid dkn
  obtain ⟨pa, hpa⟩ : ∃ pa, pa = qa * v1 := ⟨_, rfl⟩
  rw [← hpa] at dm dle dsub
  have du1 := wu64 qa (by omega)
  have du2 := wu64 pa (by omega)
  have dsi : (u : Int) - (pa : Int) = (ra : Int) := by omega
  have du3 := wu64 ra (by omega)
  clear dle dsub dlt hu64 dq dkn hpa
  go_upto_block 0 with fail
  go_cut [15, 16] from 19 (fun s15 s16 wx => wx = w2 ∧ s15 = .int .u64 (Q1 : Nat))
  case first =>
    clear d1 dm dsi du1 du2 du3
    have HQ : Hid (Q1 = (u * 4294967296 + t1) / v) := HQ1
    go_wp2_with fail
    go_loopg [15, 16] qa (fun g sq sr wr => ∃ q r : Nat, q = g ∧ wr = w2 ∧ sq = .int .u64 (q : Nat) ∧ sr = .int .u64 (r : Nat) ∧ q * v1 + r = u ∧ Q1 ≤ q ∧ r < 4294967296)
    case atStart => exact ⟨qa, ra, rfl, rfl, rfl, rfl, DID.out, DKN.out, by have := DLT.out; have := F4'.out; omega⟩
    case round =>
      obtain ⟨q, r, rfl, rfl, rfl, rfl, hid, hQ, hr⟩ := hrel
      have hqu : q < 18446744073709551616 := by
        have h1 : q * 1 ≤ q * v1 := Nat.mul_le_mul (Nat.le_refl _) (by have := F5.out; omega)
        have := F1.out; have := F3.out; omega
      have HID := Lib.hid hid; have HQL := Lib.hid hQ
      clear hid hQ
      have hv4 := F4'.out; have hv5 := F5.out
      by_cases hge : 4294967296 ≤ q
      · obtain ⟨hq0, hQ1, hid1⟩ := kn_step 4294967296 u t1 v1 v0 q r T1.out (by rw [← FV.out]; exact F3.out) HID.out (by rw [← FV.out, ← HQ.out]; exact HQL.out) (.inl hge)
        rw [← FV.out, ← HQ.out] at hQ1
        have i1 : (4294967296 : Int) ≤ (q : Int) := by omega
        have zz1 : IntKind.u64.wrap ((q : Int) - 1) = ((q - 1 : Nat) : Int) := by rw [IntKind.wrap_u64]; omega
        have zz2 : IntKind.u64.wrap ((r : Int) + (v1 : Int)) = ((r + v1 : Nat) : Int) := by rw [IntKind.wrap_u64]; omega
        have zz3 : (q : Int) - 1 = ((q - 1 : Nat) : Int) := by omega
        have zz4 : (r : Int) + (v1 : Int) = ((r + v1 : Nat) : Int) := by omega
        have H1 := Lib.hid hQ1; have H2 := Lib.hid hid1
        clear hQ1 hid1
        have hq1q : q - 1 + 1 = q := by omega
        have hr33 : r + v1 < 8589934592 := by omega
        generalize q - 1 = q' at *
        generalize r + v1 = r' at *
        have zz5 := wu64 q' (by omega)
        have zz6 := wu64 r' (by omega)
        by_cases hbr : 4294967296 ≤ r'
        · have hex := kn_break 4294967296 u t1 v1 v0 q' r' F6.out (by rw [← FV.out]; exact F3.out) H2.out (by rw [← FV.out, ← HQ.out]; exact H1.out) hbr
          rw [← FV.out, ← HQ.out] at hex
          have HX := Lib.hid hex
          have i3 : (4294967296 : Int) ≤ (r' : Int) := by omega
          clear hex
          go_wp2_with fail
          go_meet
          case rel => exact ⟨rfl, by rw [HX.out]⟩
        · have i3 : ¬ (4294967296 : Int) ≤ (r' : Int) := by omega
          go_wp2_with fail
          go_roundg q'
          case measure => omega
          case rel => exact ⟨q', r', rfl, rfl, rfl, rfl, H2.out, H1.out, by omega⟩
      · by_cases hgt : 4294967296 * r + t1 < q * v0
        · obtain ⟨hq0, hQ1, hid1⟩ := kn_step 4294967296 u t1 v1 v0 q r T1.out (by rw [← FV.out]; exact F3.out) HID.out (by rw [← FV.out, ← HQ.out]; exact HQL.out) (.inr hgt)
          rw [← FV.out, ← HQ.out] at hQ1
          have hPb : q * v0 ≤ 4294967296 * 4294967296 - 4294967296 := by
            have : q * v0 ≤ 4294967295 * 4294967296 := Nat.mul_le_mul (by omega) (by have := F6.out; omega)
            omega
          have m1 : (q : Int) * (v0 : Int) = ((q * v0 : Nat) : Int) := by simp
          have ht := T1.out
          generalize q * v0 = P at *
          have w1 := wu64 P (by omega)
          have w2' : IntKind.u64.wrap (4294967296 * (r : Int)) = 4294967296 * (r : Int) := by rw [IntKind.wrap_u64]; omega
          have w3 : IntKind.u64.wrap (4294967296 * (r : Int) + (t1 : Nat)) = 4294967296 * (r : Int) + (t1 : Nat) := by rw [IntKind.wrap_u64]; omega
          have i1 : ¬ (4294967296 : Int) ≤ (q : Int) := by omega
          have i2 : 4294967296 * (r : Int) + (t1 : Nat) < (P : Int) := by omega
          have zz1 : IntKind.u64.wrap ((q : Int) - 1) = ((q - 1 : Nat) : Int) := by rw [IntKind.wrap_u64]; omega
          have zz2 : IntKind.u64.wrap ((r : Int) + (v1 : Int)) = ((r + v1 : Nat) : Int) := by rw [IntKind.wrap_u64]; omega
          have zz3 : (q : Int) - 1 = ((q - 1 : Nat) : Int) := by omega
          have zz4 : (r : Int) + (v1 : Int) = ((r + v1 : Nat) : Int) := by omega
          have H1 := Lib.hid hQ1; have H2 := Lib.hid hid1
          clear hQ1 hid1 hgt hPb hge
          have hq1q : q - 1 + 1 = q := by omega
          have hr33 : r + v1 < 8589934592 := by omega
          generalize q - 1 = q' at *
          generalize r + v1 = r' at *
          have zz5 := wu64 q' (by omega)
          have zz6 := wu64 r' (by omega)
          by_cases hbr : 4294967296 ≤ r'
          · have hex := kn_break 4294967296 u t1 v1 v0 q' r' F6.out (by rw [← FV.out]; exact F3.out) H2.out (by rw [← FV.out, ← HQ.out]; exact H1.out) hbr
            rw [← FV.out, ← HQ.out] at hex
            have HX := Lib.hid hex
            have i3 : (4294967296 : Int) ≤ (r' : Int) := by omega
            clear hex
            go_wp2_with fail
            go_meet
            case rel => exact ⟨rfl, by rw [HX.out]⟩
          · have i3 : ¬ (4294967296 : Int) ≤ (r' : Int) := by omega
            go_wp2_with fail
            go_roundg q'
            case measure => omega
            case rel => exact ⟨q', r', rfl, rfl, rfl, rfl, H2.out, H1.out, by omega⟩
        · have hex := kn_exit 4294967296 u t1 v1 v0 q r (by rw [← FV.out]; have := F2.out; omega) HID.out (by rw [← FV.out, ← HQ.out]; exact HQL.out) (by omega)
          rw [← FV.out, ← HQ.out] at hex
          have hPb : q * v0 ≤ 4294967296 * 4294967296 - 4294967296 := by
            have : q * v0 ≤ 4294967295 * 4294967296 := Nat.mul_le_mul (by omega) (by have := F6.out; omega)
            omega
          have m1 : (q : Int) * (v0 : Int) = ((q * v0 : Nat) : Int) := by simp
          have ht := T1.out
          generalize q * v0 = P at *
          have w1 := wu64 P (by omega)
          have w2' : IntKind.u64.wrap (4294967296 * (r : Int)) = 4294967296 * (r : Int) := by rw [IntKind.wrap_u64]; omega
          have w3 : IntKind.u64.wrap (4294967296 * (r : Int) + (t1 : Nat)) = 4294967296 * (r : Int) + (t1 : Nat) := by rw [IntKind.wrap_u64]; omega
          have i1 : ¬ (4294967296 : Int) ≤ (q : Int) := by omega
          have i2 : ¬ 4294967296 * (r : Int) + (t1 : Nat) < (P : Int) := by omega
          have HX := Lib.hid hex
          clear hex hqu hgt hPb hge
          go_wp2_with fail
          go_meet
          case rel => exact ⟨rfl, by rw [HX.out]⟩
  case rest =>
  obtain ⟨hw, rfl⟩ := hcut
  obtain ⟨w3, hw3⟩ : ∃ x, x = w2 := ⟨_, rfl⟩
  clear d1 dm dsi du1 du2 du3 DID DLT DKN
  rw [hw]
  clear hw
  obtain ⟨u2, hu2⟩ : ∃ u2, u2 = (u * 4294967296 + t1) % v := ⟨_, rfl⟩
  have hvpos : 0 < v := by have := F2.out; omega
  have hu2v : u2 < v := by rw [hu2]; exact Nat.mod_lt _ hvpos
  have F3b := Lib.hid hu2v
  have hQb : Q1 < 4294967296 := by
    rw [HQ1.out, FV.out]; exact kn_digit 4294967296 u t1 v1 v0 T1.out (by rw [← FV.out]; exact F3.out)
  obtain ⟨pv, hpv⟩ : ∃ pv, pv = Q1 * v := ⟨_, rfl⟩
  have hdm : pv + u2 = u * 4294967296 + t1 := by
    rw [hpv, hu2, HQ1.out, Nat.mul_comm]; exact Nat.div_add_mod _ _
  have m1 : (Q1 : Int) * (v : Int) = (pv : Int) := by rw [hpv]; simp
  have HDM := Lib.hid hdm; have HU2 := Lib.hid hu2; have HQB := Lib.hid hQb
  clear hdm hu2 hu2v hQb hpv hvpos
  go_upto_region 21 with fail
  go_cut [17] from 19 (fun s17 wx => wx = w2 ∧ s17 = .int .u64 (u2 : Nat))
  case first =>
    go_wp2
    go_meet
    case rel =>
      refine ⟨rfl, ?_⟩
      congr 1
      have h1 := HDM.out; have h2 := F3b.out; have h3 := F1.out; have h4 := T1.out
      simp only [IntKind.wrap_u64]
      omega
  case rest =>
  obtain ⟨hw, rfl⟩ := hcut
  rw [hw]
  clear hw m1
  obtain ⟨Q0, hQ0⟩ : ∃ Q0, Q0 = (u2 * 4294967296 + t0) / v := ⟨_, rfl⟩
  have HQ0 := Lib.hid hQ0
  clear hQ0
  have d1 : (u2 : Int) / (v1 : Int) = ((u2 / v1 : Nat) : Int) := by simp
  have dm : ((u2 / v1 : Nat) : Int) * (v1 : Int) = ((u2 / v1 * v1 : Nat) : Int) := by simp
  have dle : u2 / v1 * v1 ≤ u2 := Nat.div_mul_le_self u2 v1
  have dsub : u2 / v1 * v1 + u2 % v1 = u2 := by rw [Nat.mul_comm]; exact Nat.div_add_mod u2 v1
  have dlt : u2 % v1 < v1 := Nat.mod_lt u2 (by have := F5.out; omega)
  have hu64 : u2 < 18446744073709551616 := by have := F1.out; have := F3b.out; omega
  have dq := Nat.div_le_self u2 v1
  have dkn : Q0 ≤ u2 / v1 := by rw [HQ0.out, FV.out]; exact kn_init 4294967296 u2 t0 v1 v0 (by omega) T0.out (by have := F5.out; omega)
  generalize u2 / v1 = qa at *
  generalize u2 % v1 = ra at *
  have DID := Lib.hid dsub; have DLT := Lib.hid dlt; have DKN := Lib.hid dkn
  obtain ⟨pa, hpa⟩ : ∃ pa, pa = qa * v1 := ⟨_, rfl⟩
  rw [← hpa] at dm dle dsub
  have du1 := wu64 qa (by omega)
  have du2 := wu64 pa (by omega)
  have dsi : (u2 : Int) - (pa : Int) = (ra : Int) := by omega
  have du3 := wu64 ra (by omega)
  clear dle dsub dlt hu64 dq dkn hpa
  go_upto_block 2 with fail
  go_cut [16, 18] from 19 (fun s16 s18 wx => wx = w2 ∧ s18 = .int .u64 (Q0 : Nat))
  case first =>
    clear d1 dm dsi du1 du2 du3
    have HQ : Hid (Q0 = (u2 * 4294967296 + t0) / v) := HQ0
    go_wp2_with fail
    go_loopg [18, 16] qa (fun g sq sr wr => ∃ q r : Nat, q = g ∧ wr = w2 ∧ sq = .int .u64 (q : Nat) ∧ sr = .int .u64 (r : Nat) ∧ q * v1 + r = u2 ∧ Q0 ≤ q ∧ r < 4294967296)
    case atStart => exact ⟨qa, ra, rfl, rfl, rfl, rfl, DID.out, DKN.out, by have := DLT.out; have := F4'.out; omega⟩
    case round =>
      obtain ⟨q, r, rfl, rfl, rfl, rfl, hid, hQ, hr⟩ := hrel
      have hqu : q < 18446744073709551616 := by
        have h1 : q * 1 ≤ q * v1 := Nat.mul_le_mul (Nat.le_refl _) (by have := F5.out; omega)
        have := F1.out; have := F3b.out; omega
      have HID := Lib.hid hid; have HQL := Lib.hid hQ
      clear hid hQ
      have hv4 := F4'.out; have hv5 := F5.out
      by_cases hge : 4294967296 ≤ q
      · obtain ⟨hq0, hQ1, hid1⟩ := kn_step 4294967296 u2 t0 v1 v0 q r T0.out (by rw [← FV.out]; exact F3b.out) HID.out (by rw [← FV.out, ← HQ.out]; exact HQL.out) (.inl hge)
        rw [← FV.out, ← HQ.out] at hQ1
        have i1 : (4294967296 : Int) ≤ (q : Int) := by omega
        have zz1 : IntKind.u64.wrap ((q : Int) - 1) = ((q - 1 : Nat) : Int) := by rw [IntKind.wrap_u64]; omega
        have zz2 : IntKind.u64.wrap ((r : Int) + (v1 : Int)) = ((r + v1 : Nat) : Int) := by rw [IntKind.wrap_u64]; omega
        have zz3 : (q : Int) - 1 = ((q - 1 : Nat) : Int) := by omega
        have zz4 : (r : Int) + (v1 : Int) = ((r + v1 : Nat) : Int) := by omega
        have H1 := Lib.hid hQ1; have H2 := Lib.hid hid1
        clear hQ1 hid1
        have hq1q : q - 1 + 1 = q := by omega
        have hr33 : r + v1 < 8589934592 := by omega
        generalize q - 1 = q' at *
        generalize r + v1 = r' at *
        have zz5 := wu64 q' (by omega)
        have zz6 := wu64 r' (by omega)
        by_cases hbr : 4294967296 ≤ r'
        · have hex := kn_break 4294967296 u2 t0 v1 v0 q' r' F6.out (by rw [← FV.out]; exact F3b.out) H2.out (by rw [← FV.out, ← HQ.out]; exact H1.out) hbr
          rw [← FV.out, ← HQ.out] at hex
          have HX := Lib.hid hex
          have i3 : (4294967296 : Int) ≤ (r' : Int) := by omega
          clear hex
          go_wp2_with fail
          go_meet
          case rel => exact ⟨rfl, by rw [HX.out]⟩
        · have i3 : ¬ (4294967296 : Int) ≤ (r' : Int) := by omega
          go_wp2_with fail
          go_roundg q'
          case measure => omega
          case rel => exact ⟨q', r', rfl, rfl, rfl, rfl, H2.out, H1.out, by omega⟩
      · by_cases hgt : 4294967296 * r + t0 < q * v0
        · obtain ⟨hq0, hQ1, hid1⟩ := kn_step 4294967296 u2 t0 v1 v0 q r T0.out (by rw [← FV.out]; exact F3b.out) HID.out (by rw [← FV.out, ← HQ.out]; exact HQL.out) (.inr hgt)
          rw [← FV.out, ← HQ.out] at hQ1
          have hPb : q * v0 ≤ 4294967296 * 4294967296 - 4294967296 := by
            have : q * v0 ≤ 4294967295 * 4294967296 := Nat.mul_le_mul (by omega) (by have := F6.out; omega)
            omega
          have m1 : (q : Int) * (v0 : Int) = ((q * v0 : Nat) : Int) := by simp
          have ht := T0.out
          generalize q * v0 = P at *
          have w1 := wu64 P (by omega)
          have w2' : IntKind.u64.wrap (4294967296 * (r : Int)) = 4294967296 * (r : Int) := by rw [IntKind.wrap_u64]; omega
          have w3 : IntKind.u64.wrap (4294967296 * (r : Int) + (t0 : Nat)) = 4294967296 * (r : Int) + (t0 : Nat) := by rw [IntKind.wrap_u64]; omega
          have i1 : ¬ (4294967296 : Int) ≤ (q : Int) := by omega
          have i2 : 4294967296 * (r : Int) + (t0 : Nat) < (P : Int) := by omega
          have zz1 : IntKind.u64.wrap ((q : Int) - 1) = ((q - 1 : Nat) : Int) := by rw [IntKind.wrap_u64]; omega
          have zz2 : IntKind.u64.wrap ((r : Int) + (v1 : Int)) = ((r + v1 : Nat) : Int) := by rw [IntKind.wrap_u64]; omega
          have zz3 : (q : Int) - 1 = ((q - 1 : Nat) : Int) := by omega
          have zz4 : (r : Int) + (v1 : Int) = ((r + v1 : Nat) : Int) := by omega
          have H1 := Lib.hid hQ1; have H2 := Lib.hid hid1
          clear hQ1 hid1 hgt hPb hge
          have hq1q : q - 1 + 1 = q := by omega
          have hr33 : r + v1 < 8589934592 := by omega
          generalize q - 1 = q' at *
          generalize r + v1 = r' at *
          have zz5 := wu64 q' (by omega)
          have zz6 := wu64 r' (by omega)
          by_cases hbr : 4294967296 ≤ r'
          · have hex := kn_break 4294967296 u2 t0 v1 v0 q' r' F6.out (by rw [← FV.out]; exact F3b.out) H2.out (by rw [← FV.out, ← HQ.out]; exact H1.out) hbr
            rw [← FV.out, ← HQ.out] at hex
            have HX := Lib.hid hex
            have i3 : (4294967296 : Int) ≤ (r' : Int) := by omega
            clear hex
            go_wp2_with fail
            go_meet
            case rel => exact ⟨rfl, by rw [HX.out]⟩
          · have i3 : ¬ (4294967296 : Int) ≤ (r' : Int) := by omega
            go_wp2_with fail
            go_roundg q'
            case measure => omega
            case rel => exact ⟨q', r', rfl, rfl, rfl, rfl, H2.out, H1.out, by omega⟩
        · have hex := kn_exit 4294967296 u2 t0 v1 v0 q r (by rw [← FV.out]; have := F2.out; omega) HID.out (by rw [← FV.out, ← HQ.out]; exact HQL.out) (by omega)
          rw [← FV.out, ← HQ.out] at hex
          have hPb : q * v0 ≤ 4294967296 * 4294967296 - 4294967296 := by
            have : q * v0 ≤ 4294967295 * 4294967296 := Nat.mul_le_mul (by omega) (by have := F6.out; omega)
            omega
          have m1 : (q : Int) * (v0 : Int) = ((q * v0 : Nat) : Int) := by simp
          have ht := T0.out
          generalize q * v0 = P at *
          have w1 := wu64 P (by omega)
          have w2' : IntKind.u64.wrap (4294967296 * (r : Int)) = 4294967296 * (r : Int) := by rw [IntKind.wrap_u64]; omega
          have w3 : IntKind.u64.wrap (4294967296 * (r : Int) + (t0 : Nat)) = 4294967296 * (r : Int) + (t0 : Nat) := by rw [IntKind.wrap_u64]; omega
          have i1 : ¬ (4294967296 : Int) ≤ (q : Int) := by omega
          have i2 : ¬ 4294967296 * (r : Int) + (t0 : Nat) < (P : Int) := by omega
          have HX := Lib.hid hex
          clear hex hqu hgt hPb hge
          go_wp2_with fail
          go_meet
          case rel => exact ⟨rfl, by rw [HX.out]⟩
  case rest =>
  obtain ⟨hw, rfl⟩ := hcut
  rw [hw]
  clear hw d1 dm dsi du1 du2 du3 DID DLT DKN
  have hvpos : 0 < v := by have := F2.out; omega
  obtain ⟨r0, hr0⟩ : ∃ r0, r0 = (u2 * 4294967296 + t0) % v := ⟨_, rfl⟩
  have hr0v : r0 < v := by rw [hr0]; exact Nat.mod_lt _ hvpos
  have hQb0 : Q0 < 4294967296 := by
    rw [HQ0.out, FV.out]; exact kn_digit 4294967296 u2 t0 v1 v0 T0.out (by rw [← FV.out]; exact F3b.out)
  obtain ⟨pw, hpw⟩ : ∃ pw, pw = Q0 * v := ⟨_, rfl⟩
  have hdm0 : pw + r0 = u2 * 4294967296 + t0 := by
    rw [hpw, hr0, HQ0.out, Nat.mul_comm]; exact Nat.div_add_mod _ _
  have m1 : (Q0 : Int) * (v : Int) = (pw : Int) := by rw [hpw]; simp
  have hN : (hi * 18446744073709551616 + lo) * 2 ^ s = (u * 4294967296 + t1) * 4294967296 + t0 := by
    have h1 := hK.out.2
    rw [← HU.out, ← HLL.out] at h1
    have h2 := FL.out
    rw [show (18446744073709551616 : Nat) = 2 ^ 64 from rfl, h1, Nat.add_mul, Nat.mul_assoc]
    omega
  obtain ⟨g1, g2⟩ := kn_two 4294967296 (hi * 18446744073709551616 + lo) (2 ^ s) y u t1 t0 v Q1 Q0 HV.out (Nat.pow_pos (by omega)) (by omega) hN HQ1.out (by rw [← HU2.out]; exact HQ0.out)
  rw [← HU2.out, ← hr0] at g2
  have HG1 := Lib.hid g1; have HG2 := Lib.hid g2; have HDM0 := Lib.hid hdm0; have HR0 := Lib.hid hr0v; have HQB0 := Lib.hid hQb0
  clear hN g1 g2 hdm0 hr0v hr0 hQb0 hpw hvpos
  go_upto_region 28 with fail
  go_cut [6, 7] from 19 (fun s6 s7 wx => wx = w2 ∧ s6 = .int .u64 (((hi * 18446744073709551616 + lo) / y : Nat) : Int) ∧ s7 = .int .u64 (((hi * 18446744073709551616 + lo) % y : Nat) : Int))
  case first =>
    go_wp2
    go_meet
    case rel =>
      have h1 := HDM0.out; have h2 := HR0.out; have h3 := F1.out; have h4 := T0.out; have h5 := HQB.out; have h6 := HQB0.out; have h7 := F3b.out
      rw [HG1.out, HG2.out]
      refine ⟨rfl, ?_, ?_⟩
      · congr 1
        simp only [IntKind.wrap_u64]
        omega
      · have e : IntKind.u64.wrap (IntKind.u64.wrap (IntKind.u64.wrap ((u2 : Int) * 4294967296) + (t0 : Int)) - IntKind.u64.wrap (pw : Int)) = (r0 : Int) := by
          simp only [IntKind.wrap_u64]
          omega
        rw [e]
        simp
  case rest =>
  obtain ⟨hw, rfl, rfl⟩ := hcut
  rw [hw]
  clear hw
  go_wp2_with fail
  go_ret2
  exact ⟨rfl, Only.refl _ _⟩
end Go.Proofs.Ytpgbnjneoejebaa
