import Derived.Test.YtafhgpknffkjmaaLowest
set_option linter.unusedVariables false
set_option linter.unusedSimpArgs false
namespace Go.Proofs.Ytafhgpknffkjmaa
open Go.RowKit

theorem abs_len3 (a : Int) (h : i64in a) : (nb a.natAbs).length ≤ 64 := nb_length_le _ 64 (by have := abs64 a h; omega)
theorem mul_len3 (a b : Int) (ha : (nb a.natAbs).length ≤ 64) (hb : (nb b.natAbs).length ≤ 64) : (nb (a * b).natAbs).length ≤ 128 := by
  rw [Int.natAbs_mul]
  have := nb_mul_len a.natAbs b.natAbs
  omega
theorem add_len3 (a b : Int) (n : Nat) (ha : (nb a.natAbs).length ≤ n) (hb : (nb b.natAbs).length ≤ n) : (nb (a + b).natAbs).length ≤ n + 1 := by
  apply nb_length_le
  have h1 := nb_lt a.natAbs
  have h2 := nb_lt b.natAbs
  have h3 : 2 ^ (nb a.natAbs).length ≤ 2 ^ n := Nat.pow_le_pow_right (by omega) ha
  have h4 : 2 ^ (nb b.natAbs).length ≤ 2 ^ n := Nat.pow_le_pow_right (by omega) hb
  have h5 : 2 ^ (n + 1) = 2 ^ n + 2 ^ n := by rw [Nat.pow_succ]; omega
  omega

set_option maxRecDepth 100000 in
theorem big_field (ad : Option Addr) (n c : Nat) (m : Bool) (w : World) : (Instr.field 76 (.agg #[.slice ad n c, .bool m]) 0).run Try.prog w = .ok (.slice ad n c) w := by kernel_rfl
set_option maxRecDepth 100000 in
theorem rratio_bad (num den : Int) (w : World) (hd : den ≤ 0) :
    Calls Try.prog 54 #[.int .i64 num, .int .i64 den] w fun f w' => f = .returned (.tuple #[rat 0 0, .int .i64 1]) ∧ Same w w' := by
  have hb := blk_new w (.cells #[.int .i64 0, .int .i64 0] 83)
  obtain ⟨m0, m1, m2, m3⟩ := pair_facts2 hb
  have HB := Lib.hid hb
  clear hb
  go_enter Try.func54, Try.ntmps54
  go_wp2_with fail
  (try simp only [Exit.inBlock, Exit.then])
  refine bodyPost_ret (results_ct2 rfl _ _ _ _ _ _ _ rfl HB.out Try.underlying83 rfl (by kernel_rfl)) rfl ?_
  exact ⟨rfl, (Only.refl _ w).alloc _⟩
set_option maxRecDepth 100000 in
set_option maxHeartbeats 1000000 in
theorem rratio_any (num : Int) (d : Nat) (w : World) (hn : i64in num) (hd : i64in d) (h0 : 0 < d) {xn xd e : Int} (h : LowR num d xn xd e) :
    Calls Try.prog 54 #[.int .i64 num, .int .i64 d] w fun f w' => f = .returned (.tuple #[rat xn xd, .int .i64 e]) ∧ Same w w' := by
  have hb := blk_new w (.cells #[.int .i64 0, .int .i64 0] 83)
  obtain ⟨m0, m1, m2, m3⟩ := pair_facts2 hb
  have HB := Lib.hid hb; have HR := Lib.hid h
  have hdl : (nb d).length ≤ 64 := by have := abs_len3 d hd; rwa [Int.natAbs_natCast] at this
  have hnl := abs_len3 num hn
  have hfd := big_field
  clear hb h
  go_enter Try.func54, Try.ntmps54
  go_wp2_with fail
  refine (of_any num _ hn).mono ?_
  rintro f w1 ⟨r1, rfl, hS1, hB1⟩
  go_wp2_with fail
  refine (of_any d _ hd).mono ?_
  rintro f w2 ⟨r2, rfl, hS2, hB2⟩
  obtain ⟨s2, rfl, hs2⟩ := hB2
  rw [Int.natAbs_natCast] at hs2
  obtain ⟨ad2, c2, rfl, hc2, hm2⟩ := hs2.lit
  have HB1 := Lib.hid (hB1.same hS2); have HS2 := Lib.hid hs2
  have HW := Lib.hid ((((Only.refl (fun _ => False) w).alloc _).then hS1).then hS2)
  have HB2 := Lib.hid (hS2.heap (hS1.heap HB.out (fun h => h)) (fun h => h))
  clear hB1 hs2 hS1 hS2 m0 m1 m2 m3 HB
  go_wp2_with fail
  refine (lowest_any _ _ num d _ HB1.out HS2.out (by omega) (by omega) h0 HR.out).mono ?_
  rintro f w3 ⟨rfl, hS3⟩
  have HB3 := Lib.hid (hS3.heap HB2.out (fun h => h))
  obtain ⟨m0, m1, m2, m3⟩ := pair_facts2 HB3.out
  have HW3 := Lib.hid (HW.out.then hS3)
  clear hS3 HB2 HW
  go_wp2_with fail
  (try simp only [Exit.inBlock, Exit.then])
  refine bodyPost_ret (results_ct2 rfl _ _ _ _ _ _ _ rfl (pair_set2 HB3.out _ _) Try.underlying83 rfl (by kernel_rfl)) rfl ?_
  exact ⟨rfl, HW3.out.put2 (fun h => by omega) _ _⟩
set_option maxRecDepth 100000 in
set_option maxHeartbeats 1000000 in
theorem rright_any (num den : Int) (w : World) (hn : i64in num) (hd : i64in den) :
    Calls Try.prog 60 #[rat num den] w fun e w' => e = .returned (.bool (decide (RatOk num den))) ∧ Same w w' := by
  have hb := blk_new w (.cells #[.int .i64 num, .int .i64 den] 83)
  obtain ⟨m0, m1, m2, m3⟩ := pair_facts2 hb
  have HB := Lib.hid hb
  clear hb
  by_cases h0 : den ≤ 0
  · rw [decide_eq_false (fun h : RatOk num den => by have := h.1; omega)]
    have c := fun w0 => rratio_bad num den w0 h0
    have C := Lib.hid c
    clear c
    go_enter Try.func60, Try.ntmps60
    go_wp2_with fail
    refine (C.out _).mono ?_
    rintro f w1 ⟨rfl, hS1⟩
    go_wp2_with fail
    go_ret
    exact ⟨rfl, (((Only.refl _ w).alloc _).then hS1).alloc _⟩
  · obtain ⟨d, rfl⟩ := Int.eq_ofNat_of_zero_le (show 0 ≤ den by omega)
    have hd0 : 0 < d := by omega
    obtain ⟨xn, xd, e, hX⟩ := lowR_ex num d hd0
    have c := fun w0 => rratio_any num d w0 hn hd hd0 hX
    have C := Lib.hid c
    clear c
    by_cases hR : RatOk num d
    · rw [decide_eq_true hR]
      have hs := low_self num d hR
      have he : e = 0 ∧ xn = num ∧ xd = d := by
        rcases hX with ⟨a, b, c, _⟩ | ⟨_, _, _, h⟩
        · exact ⟨a, by rw [b, hs.1], by rw [c, hs.2]⟩
        · exact absurd ⟨by rw [hs.1]; unfold fits; unfold i64in at hn; omega, by rw [hs.2]; unfold i64in at hd; omega⟩ h
      obtain ⟨rfl, rfl, rfl⟩ := he
      clear hs hX hR
      go_enter Try.func60, Try.ntmps60
      go_wp2_with fail
      refine (C.out _).mono ?_
      rintro f w1 ⟨rfl, hS1⟩
      obtain ⟨k0, k1, _, _⟩ := pair_facts2 (blk_old (.cells #[.int .i64 xn, .int .i64 (d : Nat)] 83) (hS1.heap HB.out (fun h => h)))
      go_wp2_with fail
      go_ret
      exact ⟨rfl, (((Only.refl _ w).alloc _).then hS1).alloc _⟩
    · rw [decide_eq_false hR]
      have hne : e = 1 ∨ (e = 0 ∧ ¬ xn = num) ∨ (e = 0 ∧ xn = num ∧ ¬ xd = d) := by
        rcases hX with ⟨a, b, c, _⟩ | ⟨a, _⟩
        · by_cases h1 : xn = num
          · by_cases h2 : xd = d
            · exact absurd ((low_self_iff num d hd0).1 ⟨by rw [← b, h1], by omega⟩) hR
            · exact .inr (.inr ⟨a, h1, h2⟩)
          · exact .inr (.inl ⟨a, h1⟩)
        · exact .inl a
      clear hX hR
      rcases hne with rfl | ⟨rfl, h1⟩ | ⟨rfl, rfl, h2⟩
      all_goals
        go_enter Try.func60, Try.ntmps60
        go_wp2_with fail
        refine (C.out _).mono ?_
        rintro f w1 ⟨rfl, hS1⟩
        obtain ⟨k0, k1, _, _⟩ := pair_facts2 (blk_old (.cells #[.int .i64 xn, .int .i64 xd] 83) (hS1.heap HB.out (fun h => h)))
        go_wp2_with fail
        go_ret
        exact ⟨rfl, (((Only.refl _ w).alloc _).then hS1).alloc _⟩
set_option maxRecDepth 100000 in
set_option maxHeartbeats 2000000 in
theorem rsum_go (an bn : Int) (a b : Nat) (w : World) (ha : i64in an) (hd : i64in a) (hb : i64in bn) (hbd : i64in b) (h1 : RatOk an a) (h2 : RatOk bn b) {xn xd e : Int} (h : LowR (an * b + bn * a) (a * b) xn xd e) :
    Calls Try.prog 56 #[rat an a, rat bn b] w fun f w' => f = .returned (.tuple #[rat xn xd, .int .i64 e]) ∧ Same w w' := by
  have r1 := fun w0 => rright_any an a w0 ha hd
  have r2 := fun w0 => rright_any bn b w0 hb hbd
  rw [decide_eq_true h1] at r1
  rw [decide_eq_true h2] at r2
  have l1 := abs_len3 an ha
  have l2 := abs_len3 bn hb
  have l3 := abs_len3 a hd
  have l4 := abs_len3 b hbd
  have l5 := mul_len3 an b l1 l4
  have l6 := mul_len3 bn a l2 l3
  have l7 := add_len3 (an * b) (bn * a) 128 l5 l6
  have l8 := mul_len3 a b l3 l4
  rw [Int.natAbs_natCast] at l3 l4
  rw [← Int.natCast_mul, Int.natAbs_natCast] at l8
  have hab : 0 < a * b := Nat.mul_pos (by have := h1.1; omega) (by have := h2.1; omega)
  have R1 := Lib.hid r1; have R2 := Lib.hid r2; have HR := Lib.hid h
  have L1 := Lib.hid l1; have L2 := Lib.hid l2; have L3 := Lib.hid l3; have L4 := Lib.hid l4; have L5 := Lib.hid l5; have L6 := Lib.hid l6; have L7 := Lib.hid l7; have L8 := Lib.hid l8
  clear r1 r2 h l1 l2 l3 l4 l5 l6 l7 l8 h1 h2
  have hb3 := blk3 w (.cells #[.int .i64 an, .int .i64 a] 83) (.cells #[.int .i64 bn, .int .i64 b] 83) (.cells #[.int .i64 0, .int .i64 0] 83)
  have hS0 : Same w (((w.alloc (.cells #[.int .i64 an, .int .i64 a] 83)).alloc (.cells #[.int .i64 bn, .int .i64 b] 83)).alloc (.cells #[.int .i64 0, .int .i64 0] 83)) := (((Only.refl _ w).alloc _).alloc _).alloc _
  have hfd := big_field
  go_enter Try.func56, Try.ntmps56
  go_upto_region 1 with fail
  generalize ((w.alloc (.cells #[.int .i64 an, .int .i64 a] 83)).alloc (.cells #[.int .i64 bn, .int .i64 b] 83)).alloc (.cells #[.int .i64 0, .int .i64 0] 83) = W0 at *
  obtain ⟨k0, k1, k2, k3⟩ := pair_facts2 hb3.1
  obtain ⟨m0, m1, m2, m3⟩ := pair_facts2 hb3.2.1
  have HB3 := Lib.hid hb3; have HS0 := Lib.hid hS0
  clear hb3 hS0
  go_wp2_with fail
  refine (R1.out _).mono ?_
  rintro f w1 ⟨rfl, hS1⟩
  replace m0 := hS1.cell_eq m0 (fun h => h)
  replace m1 := hS1.cell_eq m1 (fun h => h)
  go_wp2_with fail
  refine (R2.out _).mono ?_
  rintro f w2 ⟨rfl, hS2⟩
  have HB := Lib.hid (And.intro (hS2.heap (hS1.heap HB3.out.1 (fun h => h)) (fun h => h)) (And.intro (hS2.heap (hS1.heap HB3.out.2.1 (fun h => h)) (fun h => h)) (hS2.heap (hS1.heap HB3.out.2.2 (fun h => h)) (fun h => h))))
  have HS2 := Lib.hid ((HS0.out.then hS1).then hS2)
  clear k0 k1 k2 k3 m0 m1 m2 m3 hS1 hS2 HB3 HS0
  go_wp2_with fail
  have CN := Lib.hid (fun w0 => of_any an w0 ha); have CM := Lib.hid (fun w0 => of_any bn w0 hb); have CA := Lib.hid (fun w0 => of_any a w0 hd); have CB := Lib.hid (fun w0 => of_any b w0 hbd)
  have M1 := Lib.hid (fun (w0 : World) r1 r2 (h1 : Bg w0 r1 an) (h2 : Bg w0 r2 (b : Int)) => bmul_any r1 r2 an b w0 h1 h2 (by have := L1.out; omega) (by rw [Int.natAbs_natCast]; have := L4.out; omega))
  have M2 := Lib.hid (fun (w0 : World) r1 r2 (h1 : Bg w0 r1 bn) (h2 : Bg w0 r2 (a : Int)) => bmul_any r1 r2 bn a w0 h1 h2 (by have := L2.out; omega) (by rw [Int.natAbs_natCast]; have := L3.out; omega))
  have M3 := Lib.hid (fun (w0 : World) r1 r2 (h1 : Bg w0 r1 (an * b)) (h2 : Bg w0 r2 (bn * a)) => badd_any r1 r2 (an * b) (bn * a) w0 h1 h2 (by have := L5.out; omega) (by have := L6.out; omega))
  have M4 := Lib.hid (fun (w0 : World) r1 r2 (h1 : Sl w0 .bool r1 (nb a)) (h2 : Sl w0 .bool r2 (nb b)) => times_any r1 r2 _ _ w0 h1 h2 (by have := L3.out; omega) (by have := L4.out; omega))
  have M5 := Lib.hid (fun (w0 : World) r1 r2 (h1 : Bg w0 r1 (an * b + bn * a)) (h2 : Sl w0 .bool r2 (nb (a * b))) => lowest_any r1 r2 (an * b + bn * a) (a * b) w0 h1 h2 (by have := L7.out; omega) (by have := L8.out; omega) hab HR.out)
  have q0 : Only (· = w.heap.size + 2) w2 w2 := Only.refl _ _
  have p0 : Same w2 w2 := Only.refl _ _
  have hK : ∀ w', Only (· = w.heap.size + 2) w2 w' → (Only (· = w.heap.size + 2) w2 w' ∧ w'.cell? ⟨w.heap.size, 0, none⟩ = some (.int .i64 an) ∧ w'.cell? ⟨w.heap.size, 1, none⟩ = some (.int .i64 a) ∧ w'.cell? ⟨w.heap.size + 1, 0, none⟩ = some (.int .i64 bn) ∧ w'.cell? ⟨w.heap.size + 1, 1, none⟩ = some (.int .i64 b)) := fun w' h => by
    obtain ⟨k0, k1, _, _⟩ := pair_facts2 (h.heap HB.out.1 (by omega))
    obtain ⟨m0, m1, _, _⟩ := pair_facts2 (h.heap HB.out.2.1 (by omega))
    exact ⟨h, k0, k1, m0, m1⟩
  have HK := Lib.hid hK
  clear hK
  go_region_held3 (fun w' => Only (· = w.heap.size + 2) w2 w' ∧ w'.cell? ⟨w.heap.size, 0, none⟩ = some (.int .i64 an) ∧ w'.cell? ⟨w.heap.size, 1, none⟩ = some (.int .i64 a) ∧ w'.cell? ⟨w.heap.size + 1, 0, none⟩ = some (.int .i64 bn) ∧ w'.cell? ⟨w.heap.size + 1, 1, none⟩ = some (.int .i64 b))
    (first | exact HK.out _ q0 | exact HK.out _ q0.drew | exact HK.out _ (q0.setCell (fun _ => rfl) _) | exact HK.out _ (q0.drew.setCell (fun _ => rfl) _) | exact HK.out _ (q0.put2 (fun _ => rfl) _ _) | exact HK.out _ (q0.drew.put2 (fun _ => rfl) _ _))
    (first
      | (go_at_call 49; (with_reducible refine (CN.out _).mono ?_); rintro f wn ⟨rn, rfl, hSn, hBn⟩; obtain ⟨sn, rfl, hsn⟩ := hBn; obtain ⟨ad, cn, rfl, _, _⟩ := hsn.lit; have x1 : Bg wn _ an := ⟨_, rfl, hsn⟩; have q0 := Only.then (by first | exact q0 | exact q0.drew) hSn; have p0 := Only.then (by first | exact p0 | exact p0.drew) hSn; have x1S := Lib.hid hsn; have x1W := hSn; clear hsn hSn)
      | (go_at_call 49; (with_reducible refine (CB.out _).mono ?_); rintro f wn ⟨rn, rfl, hSn, hBn⟩; obtain ⟨sn, rfl, hsn⟩ := hBn; rw [Int.natAbs_natCast] at hsn; obtain ⟨ad, cn, rfl, _, _⟩ := hsn.lit; have x2 : Bg wn _ (b : Int) := ⟨_, rfl, (by rw [Int.natAbs_natCast]; exact hsn)⟩; have q0 := Only.then (by first | exact q0 | exact q0.drew) hSn; have p0 := Only.then (by first | exact p0 | exact p0.drew) hSn; have x2S := Lib.hid hsn; have x2W := hSn; clear hsn hSn)
      | (go_at_call 49; (with_reducible refine (CM.out _).mono ?_); rintro f wn ⟨rn, rfl, hSn, hBn⟩; obtain ⟨sn, rfl, hsn⟩ := hBn; obtain ⟨ad, cn, rfl, _, _⟩ := hsn.lit; have y1 : Bg wn _ bn := ⟨_, rfl, hsn⟩; have q0 := Only.then (by first | exact q0 | exact q0.drew) hSn; have p0 := Only.then (by first | exact p0 | exact p0.drew) hSn; have y1S := Lib.hid hsn; have y1W := hSn; clear hsn hSn)
      | (go_at_call 49; (with_reducible refine (CA.out _).mono ?_); rintro f wn ⟨rn, rfl, hSn, hBn⟩; obtain ⟨sn, rfl, hsn⟩ := hBn; rw [Int.natAbs_natCast] at hsn; obtain ⟨ad, cn, rfl, _, _⟩ := hsn.lit; have y2 : Bg wn _ (a : Int) := ⟨_, rfl, (by rw [Int.natAbs_natCast]; exact hsn)⟩; have q0 := Only.then (by first | exact q0 | exact q0.drew) hSn; have p0 := Only.then (by first | exact p0 | exact p0.drew) hSn; have y2S := Lib.hid hsn; have y2W := hSn; clear hsn hSn)
      | (go_at_call 51; (with_reducible refine (M1.out _ _ _ (x1.same x2W) x2).mono ?_); rintro f wn ⟨x3r, rfl, hSn, x3⟩; have q0 := Only.then (by first | exact q0 | exact q0.drew) hSn; have p0 := Only.then (by first | exact p0 | exact p0.drew) hSn; have x3W := hSn; clear hSn x1 x2)
      | (go_at_call 51; (with_reducible refine (M2.out _ _ _ (y1.same y2W) y2).mono ?_); rintro f wn ⟨y3r, rfl, hSn, y3⟩; have q0 := Only.then (by first | exact q0 | exact q0.drew) hSn; have p0 := Only.then (by first | exact p0 | exact p0.drew) hSn; have y3W := hSn; clear hSn y1 y2)
      | (go_at_call 48; (with_reducible refine (M3.out _ _ _ (((x3.same y1W).same y2W).same y3W) y3).mono ?_); rintro f wn ⟨zr, rfl, hSn, z⟩; have q0 := Only.then (by first | exact q0 | exact q0.drew) hSn; have p0 := Only.then (by first | exact p0 | exact p0.drew) hSn; have zW := hSn; clear hSn x3 y3)
      | (go_at_call 83; (with_reducible refine (M4.out _ _ _ (y2S.out.same x2W) x2S.out).mono ?_); rintro f wn ⟨tr, rfl, hSn, tS, _⟩; rw [bv_nb, bv_nb] at tS; have q0 := Only.then (by first | exact q0 | exact q0.drew) hSn; have p0 := Only.then (by first | exact p0 | exact p0.drew) hSn; have tW := hSn; clear hSn)
      | (go_at_call 86; (with_reducible refine (M5.out _ _ _ (((z.same y2W).same x2W).same tW) tS).mono ?_); rintro f wn ⟨rfl, hSn⟩; have q0 := Only.then (by first | exact q0 | exact q0.drew) hSn; have p0 := Only.then (by first | exact p0 | exact p0.drew) hSn; obtain ⟨r0, r1, r2, r3⟩ := pair_facts2 (p0.heap HB.out.2.2 (fun h => h)); clear hSn))
  clear HK CN CM CA CB M1 M2 M3 M4 M5 hfd HR L1 L2 L3 L4 L5 L6 L7 L8 R1 R2
  go_wp2_with fail
  refine bodyPost_ret (results_ct2 rfl _ _ _ _ _ _ _ rfl (pair_set2 (p0.heap HB.out.2.2 (fun h => h)) _ _) Try.underlying83 rfl (by kernel_rfl)) rfl ?_
  exact ⟨rfl, (HS2.out.then p0).put2 (fun h => by omega) _ _⟩
end Go.Proofs.Ytafhgpknffkjmaa
