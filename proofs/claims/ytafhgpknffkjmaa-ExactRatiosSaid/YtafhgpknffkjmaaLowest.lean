import Derived.Test.YtafhgpknffkjmaaLow
import Derived.Test.YtafhgpknffkjmaaOver
import Derived.Test.YtafhgpknffkjmaaBigAdd
import Derived.Deep.CutBlock
set_option linter.unusedVariables false
set_option linter.unusedSimpArgs false
namespace Go.Proofs.Ytafhgpknffkjmaa
open Go.RowKit

theorem lowN_neg (N : Int) (D : Nat) (hD : 0 < D) : decide (lowN N D < 0) = decide (N < 0) := by
  have h := lowN_spec N D
  have hg : 0 < Nat.gcd N.natAbs D := Nat.gcd_pos_of_pos_right _ hD
  rw [decide_eq_decide]
  have := neg_mulN (lowN N D) (Nat.gcd N.natAbs D) hg
  rw [h] at this
  exact this.symm
theorem lowN_abs (N : Int) (D : Nat) : (lowN N D).natAbs = N.natAbs / Nat.gcd N.natAbs D := by unfold lowN; rw [sg_natAbs_of]

set_option maxRecDepth 100000 in
set_option maxHeartbeats 4000000 in
theorem lowest_any (v1 v2 : Value) (N : Int) (D : Nat) (w : World) (h1 : Bg w v1 N) (h2 : Sl w .bool v2 (nb D)) (hN : (nb N.natAbs).length ≤ 1000) (hD : (nb D).length ≤ 1000) (hD0 : 0 < D) {xn xd e : Int} (h : LowR N D xn xd e) :
    Calls Try.prog 86 #[v1, v2] w fun f w' => f = .returned (.tuple #[rat xn xd, .int .i64 e]) ∧ Same w w' := by
  obtain ⟨s1, rfl, hs1⟩ := h1
  obtain ⟨a1, c1, rfl, hc1, hm1⟩ := hs1.lit
  obtain ⟨a2, c2, rfl, hc2, hm2⟩ := h2.lit
  have hb1 := blk2' w (.cells #[.slice a1 (nb N.natAbs).length c1, .bool (decide (N < 0))] 76) (.cells #[.int .i64 0, .int .i64 0] 83)
  have hS0 : Same w ((w.alloc (.cells #[.slice a1 (nb N.natAbs).length c1, .bool (decide (N < 0))] 76)).alloc (.cells #[.int .i64 0, .int .i64 0] 83)) := ((Only.refl _ w).alloc _).alloc _
  have H1 := Lib.hid hs1; have H2 := Lib.hid h2; have HR := Lib.hid h
  obtain ⟨mn, hmn⟩ : ∃ mn, mn = decide (N < 0) := ⟨_, rfl⟩
  rw [← hmn] at hb1 hS0 ⊢
  have HMN := Lib.hid hmn
  clear hs1 h2 h hmn
  go_enter Try.func86, Try.ntmps86
  go_upto_region 1 with fail
  generalize (w.alloc (.cells #[.slice a1 (nb N.natAbs).length c1, .bool mn] 76)).alloc (.cells #[.int .i64 0, .int .i64 0] 83) = W0 at *
  have HS0 := Lib.hid hS0
  have HB := Lib.hid hb1
  obtain ⟨m0, m1, m2, m3⟩ := pair_facts2 hb1.1
  clear hb1 hS0
  go_wp2_with fail
  go_loopg [6, 7] D (fun g sa sb wr => ∃ (A B : Nat), B = g ∧ Nat.gcd A B = Nat.gcd N.natAbs D ∧ (nb A).length ≤ 1000 ∧ (nb B).length ≤ 1000 ∧ Same W0 wr ∧ Sl wr .bool sa (nb A) ∧ Sl wr .bool sb (nb B))
  case atStart => exact ⟨N.natAbs, D, rfl, rfl, hN, hD, Only.refl _ _, H1.out.same HS0.out, H2.out.same HS0.out⟩
  case round =>
    obtain ⟨A, B, hBg, hg, hA, hB, hS, hsa, hsb⟩ := hrel
    obtain ⟨ad3, c3, rfl, hc3, hm3⟩ := hsa.lit
    obtain ⟨ad4, c4, rfl, hc4, hm4⟩ := hsb.lit
    have HA := Lib.hid hsa; have HB2 := Lib.hid hsb; have HG := Lib.hid hg; have HBG := Lib.hid hBg
    clear hsa hsb hg hBg
    by_cases hB0 : 0 < B
    · have hlp : 0 < (nb B).length := nb_len_pos.2 hB0
      go_wp2_with fail
      refine (over2_any _ _ A B _ HA.out HB2.out (by omega) (by omega) hB0).mono ?_
      rintro f w3 ⟨q, r, rfl, hS3, hq, hr, _, _⟩
      have HQ := Lib.hid hr
      clear hq hr
      have hw3 := hS.then hS3
      go_wp2_with fail
      go_roundg (A % B)
      case measure => rw [← HBG.out]; exact Nat.mod_lt _ hB0
      case rel => exact ⟨B, A % B, rfl, by rw [← HG.out, Nat.gcd_comm B, ← Nat.gcd_rec, Nat.gcd_comm], hB, Nat.le_trans (nb_len_mono (Nat.mod_le _ _)) hA, hw3, HB2.out.same hS3, HQ.out⟩
    · obtain rfl : B = 0 := by omega
      have hg := HG.out
      rw [Nat.gcd_zero_right] at hg
      have hA0 : 0 < A := by rw [hg]; exact Nat.gcd_pos_of_pos_right _ hD0
      have hl0 : (nb 0).length = 0 := by rw [nb_zero]; rfl
      have n1 := lowN_abs N D
      have n2 := lowN_neg N D hD0
      have n3 : lowD N D = D / Nat.gcd N.natAbs D := rfl
      rw [← hg] at n1 n3
      rw [hl0]
      have t0 := hS.cell_eq m0 (fun h => h)
      have t1 := hS.cell_eq m1 (fun h => h)
      have HN1 := Lib.hid n1; have HN2 := Lib.hid n2; have HN3 := Lib.hid n3
      clear hg n1 n2 n3 m0 m1 m2 m3 hl0 HG HB2
      go_wp2_with fail
      refine (over2_any _ _ N.natAbs A _ ((H1.out.same HS0.out).same hS) HA.out (by omega) (by omega) hA0).mono ?_
      rintro f w3 ⟨q, r, rfl, hS3, hq, hr, _, _⟩
      rw [← HN1.out] at hq
      have HQ := Lib.hid hq
      clear hq hr
      have hw3 := hS.then hS3
      go_wp2_with fail
      refine (over2_any _ _ D A _ ((H2.out.same HS0.out).same hw3) (HA.out.same hS3) (by omega) (by omega) hA0).mono ?_
      rintro f w4 ⟨p, r4, rfl, hS4, hp, hr4, _, _⟩
      rw [← HN3.out] at hp
      have HP := Lib.hid hp
      clear hp hr4
      have hw4 := hw3.then hS4
      have u0 := hS4.cell_eq (hS3.cell_eq t0 (fun h => h)) (fun h => h)
      have u1 := hS4.cell_eq (hS3.cell_eq t1 (fun h => h)) (fun h => h)
      clear t0 t1 hS
      have hBg : Bg w4 (.agg #[q, .bool mn]) (lowN N D) := ⟨q, by rw [HN2.out, HMN.out], HQ.out.same hS4⟩
      have hlq : (nb (lowN N D).natAbs).length ≤ 1000 := by rw [HN1.out]; exact Nat.le_trans (nb_len_mono (Nat.div_le_self _ _)) hN
      have cb := back_any _ _ w4 hBg (by omega)
      have hlpD : (nb (lowD N D)).length ≤ 1000 := by rw [HN3.out]; exact Nat.le_trans (nb_len_mono (Nat.div_le_self _ _)) hD
      have hneg : mn = true → 0 < (nb (lowN N D).natAbs).length := by
        intro h
        rw [nb_len_pos]
        have := HN2.out
        rw [← HMN.out, h, decide_eq_true_iff] at this
        omega
      have hb2 : ∀ w0, Same w4 w0 → Calls Try.prog 47 #[.agg #[p, .bool false]] w0 fun e w' => e = .returned (.tuple #[.int .i64 (backI (lowD N D : Nat)), .bool (decide (fits (lowD N D : Nat)))]) ∧ Same w0 w' := by
        intro w0 hS0
        refine back_any _ _ w0 ⟨p, ?_, ?_⟩ ?_
        · rw [decide_eq_false (by omega)]
        · rw [Int.natAbs_natCast]; exact HP.out.same hS0
        · rw [Int.natAbs_natCast]; omega
      have hfD : fits (lowD N D : Nat) ↔ lowD N D < 9223372036854775808 := by unfold fits; omega
      obtain ⟨ad5, c5, rfl, hc5, hm5⟩ := HQ.out.lit
      obtain ⟨ad6, c6, rfl, hc6, hm6⟩ := HP.out.lit
      have HCB := Lib.hid cb; have HB2 := Lib.hid hb2; have HW4 := Lib.hid hw4
      have hbr := (HB.out.2)
      have hbr4 := Lib.hid (hw4.heap hbr (fun h => h))
      have hres : (fits (lowN N D) ∧ fits (lowD N D : Nat) ∧ xn = lowN N D ∧ xd = lowD N D ∧ e = 0) ∨ (¬ fits (lowN N D) ∧ xn = 0 ∧ xd = 0 ∧ e = 1) ∨ (fits (lowN N D) ∧ ¬ fits (lowD N D : Nat) ∧ xn = 0 ∧ xd = 0 ∧ e = 1) := by
        rcases HR.out with ⟨a, b, c, _, _, _, d, f⟩ | ⟨a, b, c, d⟩
        · exact .inl ⟨d, hfD.2 f, b, c, a⟩
        · by_cases hf : fits (lowN N D)
          · exact .inr (.inr ⟨hf, fun h => d ⟨hf, hfD.1 h⟩, b, c, a⟩)
          · exact .inr (.inl ⟨hf, b, c, a⟩)
      have HRES := Lib.hid hres
      have k1 : fits (lowN N D) → backI (lowN N D) = lowN N D := fun h => by unfold backI; rw [if_pos h]
      have k2 : fits (lowD N D : Nat) → backI (lowD N D : Nat) = (lowD N D : Nat) := fun h => by unfold backI; rw [if_pos h]
      have K1 := Lib.hid k1; have K2 := Lib.hid k2
      have HF : Hid (w.heap.size = w.heap.size) := Lib.hid rfl
      clear cb hb2 hw4 hbr hw3 hS3 hS4 hfD hres k1 k2 hBg HR HQ HP HN1 HN2 HN3 H1 H2 HA hN hD hA hB hD0 hB0 hA0
      have HNEG := Lib.hid hneg
      clear hneg
      go_upto_region 8 with fail
      go_cut [14, 15] from 18 (fun s14 s15 wx => s14 = .int .i64 (backI (lowN N D)) ∧ s15 = .bool (decide (fits (lowN N D))) ∧ Same w4 wx)
      case first =>
        cases mn
        rotate_left
        · have hlq0 := HNEG.out rfl
          generalize (nb (lowN N D).natAbs).length = lq at *
          generalize backI (lowN N D) = bn at *
          generalize decide (fits (lowN N D)) = fn at *
          go_wp2_with fail
          refine HCB.out.mono ?_
          rintro f w5 ⟨rfl, hS5⟩
          go_wp2_with fail
          go_meet
          case rel => exact ⟨rfl, rfl, hS5⟩
        · clear HNEG
          generalize (nb (lowN N D).natAbs).length = lq at *
          generalize backI (lowN N D) = bn at *
          generalize decide (fits (lowN N D)) = fn at *
          go_wp2_with fail
          refine HCB.out.mono ?_
          rintro f w5 ⟨rfl, hS5⟩
          go_wp2_with fail
          go_meet
          case rel => exact ⟨rfl, rfl, hS5⟩
      case rest =>
      obtain ⟨rfl, rfl, hSx⟩ := hcut
      obtain ⟨W5, hw5⟩ : ∃ x, x = wc := ⟨_, rfl⟩
      subst hw5
      have HS5 := Lib.hid hSx
      clear hSx HCB HNEG u0 u1
      generalize backI (lowN N D) = bn at *
      generalize backI (lowD N D : Nat) = bd at *
      generalize (nb (lowN N D).natAbs).length = lq at *
      generalize (nb (lowD N D)).length = lp at *
      obtain ⟨fn, hfn⟩ : ∃ fn, fn = decide (fits (lowN N D)) := ⟨_, rfl⟩
      obtain ⟨fd, hfd⟩ : ∃ fd, fd = decide (fits (lowD N D : Nat)) := ⟨_, rfl⟩
      rw [← hfn]
      rw [← hfd] at HB2
      have HFN := Lib.hid hfn; have HFD := Lib.hid hfd
      clear hfn hfd
      go_wp2_with fail
      refine (HB2.out _ HS5.out).mono ?_
      rintro f w6 ⟨rfl, hS6⟩
      have hb6 := hS6.heap (HS5.out.heap hbr4.out (fun h => h)) (fun h => h)
      obtain ⟨r0, r1, r2, r3⟩ := pair_facts2 hb6
      have HB6 := Lib.hid hb6
      have HS6 := Lib.hid (((HS0.out.then HW4.out).then HS5.out).then hS6)
      clear hb6 hS6 HB2 HS5
      rcases HRES.out with ⟨f1, f2, rfl, rfl, rfl⟩ | ⟨f1, rfl, rfl, rfl⟩ | ⟨f1, f2, rfl, rfl, rfl⟩
      · obtain rfl := HFN.out.trans (decide_eq_true f1)
        obtain rfl := HFD.out.trans (decide_eq_true f2)
        obtain rfl := K1.out f1
        obtain rfl := K2.out f2
        go_wp2_with fail
        (try simp only [Exit.inBlock, Exit.then])
        refine bodyPost_ret (results_ct2 rfl _ _ _ _ _ _ _ rfl (pair_set2 HB6.out _ _) Try.underlying83 rfl (by kernel_rfl)) rfl ?_
        exact ⟨rfl, HS6.out.put2 (fun h => by omega) _ _⟩
      · obtain rfl := HFN.out.trans (decide_eq_false f1)
        go_wp2_with fail
        (try simp only [Exit.inBlock, Exit.then])
        refine bodyPost_ret (results_ct2 rfl _ _ _ _ _ _ _ rfl (pair_set2 HB6.out _ _) Try.underlying83 rfl (by kernel_rfl)) rfl ?_
        exact ⟨rfl, HS6.out.put2 (fun h => by omega) _ _⟩
      · obtain rfl := HFN.out.trans (decide_eq_true f1)
        obtain rfl := HFD.out.trans (decide_eq_false f2)
        go_wp2_with fail
        (try simp only [Exit.inBlock, Exit.then])
        refine bodyPost_ret (results_ct2 rfl _ _ _ _ _ _ _ rfl (pair_set2 HB6.out _ _) Try.underlying83 rfl (by kernel_rfl)) rfl ?_
        exact ⟨rfl, HS6.out.put2 (fun h => by omega) _ _⟩
end Go.Proofs.Ytafhgpknffkjmaa
