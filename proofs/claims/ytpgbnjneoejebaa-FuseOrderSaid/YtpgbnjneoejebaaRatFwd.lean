import Derived.Test.YtpgbnjneoejebaaLow
import Derived.Test.YtpgbnjneoejebaaFwdL
set_option linter.unusedVariables false
set_option linter.unusedSimpArgs false
namespace Go.Proofs.Ytpgbnjneoejebaa
open Go.RowKit

/-! comparing, with the draws (a copy of the walks of XRat, XRatC, XRatF, XLow with OnlyF for Only) -/
set_option maxRecDepth 100000 in
theorem divisor_fwd (a b : Nat) (w : World) (ha : a < 18446744073709551616) (hb : b < 18446744073709551616) :
    Calls Try.prog 36 #[.int .u64 a, .int .u64 b] w fun e w' => e = .returned (.int .u64 (Nat.gcd a b : Nat)) ∧ SameF w w' := by
  obtain ⟨g, hg⟩ : ∃ g, g = Nat.gcd a b := ⟨_, rfl⟩
  rw [← hg]
  have HG := Lib.hid hg
  clear hg
  go_enter Try.func36, Try.ntmps36
  go_wp2_with fail
  go_loopw [0, 1] (fun x y wr => ∃ p q : Nat, p < 18446744073709551616 ∧ q < 18446744073709551616 ∧ x = .int .u64 p ∧ y = .int .u64 q ∧ g = Nat.gcd p q ∧ SameF w wr) (fun _ y _ => (intOf y).toNat)
  case atStart => exact ⟨a, b, ha, hb, rfl, rfl, HG.out, OnlyF.refl _ _⟩
  case round =>
    obtain ⟨p, q, hp, hq, rfl, rfl, hg2, hS⟩ := hrel
    have HG2 := Lib.hid hg2
    clear hg2
    by_cases h0 : 0 < q
    · have h1 : ((q : Int) != 0) = true := by simp; omega
      have h2 : (q : Int) ≠ 0 := by omega
      have hm := Nat.mod_lt p h0
      have e1 : (p : Int).tmod (q : Int) = ((p % q : Nat) : Int) := by rw [Int.tmod_eq_emod_of_nonneg (by omega)]; simp
      go_wp2_with fail
      go_quiet (fail)
      rename_i nq
      go_wp2
      refine ⟨⟨q, p % q, hq, by omega, rfl, by simp, ?_, hS.drewN nq⟩, ?_⟩
      · rw [HG2.out, Nat.gcd_comm, Nat.gcd_rec q p, Nat.gcd_comm]
      · have e2 : ((p : Int) % (q : Int)) = ((p % q : Nat) : Int) := by simp
        rw [e2]; simp [intOf]; exact hm
    · obtain rfl : q = 0 := by omega
      have hgg := HG2.out
      rw [Nat.gcd_zero_right] at hgg
      subst hgg
      go_wp2
      go_ret
      exact ⟨rfl, hS⟩
set_option maxRecDepth 100000 in
theorem right_fwd (num den : Int) (w : World) (hn : i64in num) (hd : i64in den) :
    Calls Try.prog 13 #[rat num den] w fun e w' => e = .returned (.bool (decide (RatOk num den))) ∧ SameF w w' := by
  by_cases h0 : 0 < den
  · obtain ⟨d, rfl⟩ := Int.eq_ofNat_of_zero_le (show 0 ≤ den by omega)
    have hdec : decide (RatOk num d) = (((Nat.gcd num.natAbs d : Nat) : Int) == 1) := by
      have e : RatOk num d ↔ Nat.gcd num.natAbs d = 1 := by unfold RatOk; rw [Int.natAbs_natCast]; simp; omega
      by_cases h : Nat.gcd num.natAbs d = 1
      · rw [decide_eq_true (e.2 h), h]; rfl
      · rw [decide_eq_false (fun hc => h (e.1 hc))]; simp; omega
    rw [hdec]
    have cs := fun w0 => size_any num w0 hn
    have cd := fun w0 => divisor_fwd num.natAbs d w0 (by have := hn.1; have := hn.2; omega) (by have := hd.2; omega)
    generalize Nat.gcd num.natAbs d = g at *
    have u1 : IntKind.u64.wrap (d : Int) = (d : Int) := by rw [IntKind.wrap_u64]; have := hd.2; omega
    obtain ⟨W1, hW1⟩ : ∃ W1, W1 = w.alloc (.cells #[.int .i64 num, .int .i64 d] 33) := ⟨_, rfl⟩
    have hb : W1.heap[w.heap.size]? = some (.cells #[.int .i64 num, .int .i64 d] 33 (0, 0)) := by rw [hW1]; exact blk_new _ _
    have hSW : SameF w W1 := by rw [hW1]; exact (OnlyF.refl _ w).alloc _
    obtain ⟨m0, m1, m2, m3⟩ := pair_facts2 hb
    have hK : ∀ w', SameF W1 w' → (SameF W1 w' ∧ w'.cell? ⟨w.heap.size, 0, none⟩ = some (.int .i64 num) ∧ w'.cell? ⟨w.heap.size, 1, none⟩ = some (.int .i64 d)) := fun w' h =>
      ⟨h, h.cell_eq m0 (fun h => h), h.cell_eq m1 (fun h => h)⟩
    have HK := Lib.hid hK; have CS := Lib.hid cs; have CD := Lib.hid cd; have HSW := Lib.hid hSW
    clear hK cs cd hSW hb m0 m1 m2 m3 hdec
    have q0 : SameF W1 W1 := OnlyF.refl _ _
    have hd1 : decide (0 < d) = true := decide_eq_true (by omega)
    have hd2 : decide ((0 : Int) < (d : Int)) = true := decide_eq_true h0
    go_enter Try.func13, Try.ntmps13
    go_upto_region 1 with fail
    rw [← hW1]
    clear hW1
    go_region_held3 (fun w' => SameF W1 w' ∧ w'.cell? ⟨w.heap.size, 0, none⟩ = some (.int .i64 num) ∧ w'.cell? ⟨w.heap.size, 1, none⟩ = some (.int .i64 d))
      (first | exact HK.out _ (by assumption) | exact HK.out _ (OnlyF.drew (by assumption)))
      (first
        | (go_at_call 37; refine (CS.out _).mono ?_; rintro e w2 ⟨rfl, rfl⟩)
        | (go_at_call 36; refine (CD.out _).mono ?_; rintro e w3 ⟨rfl, hS3⟩; have q1 : SameF W1 w3 := OnlyF.then (by first | exact q0 | exact q0.drew | assumption | exact OnlyF.drew (by assumption)) hS3))
    go_wp2
    go_ret
    exact ⟨rfl, HSW.out.then q1⟩
  · have hdec : decide (RatOk num den) = false := decide_eq_false (fun h => h0 h.1)
    rw [hdec]
    clear hdec
    have hd2 : decide ((0 : Int) < den) = false := decide_eq_false h0
    have hb := blk_new w (.cells #[.int .i64 num, .int .i64 den] 33)
    obtain ⟨m0, m1, m2, m3⟩ := pair_facts2 hb
    clear hb m0 m2 m3
    go_enter Try.func13, Try.ntmps13
    go_wp2_with fail
    go_quiet (fail)
    rename_i nq
    go_wp2
    go_ret
    exact ⟨rfl, ((OnlyF.refl _ w).alloc _).drewN nq⟩
set_option maxRecDepth 100000 in
set_option maxHeartbeats 1000000 in
theorem compare_main_fwd (an ad bn bd : Int) (w : World) (ha : i64in an) (hd : i64in ad) (hb : i64in bn) (hbd : i64in bd) (h1 : RatOk an ad) (h2 : RatOk bn bd) (hne : ¬ (an = bn ∧ ad = bd)) (hsg : an < 0 ↔ bn < 0) :
    Calls Try.prog 38 #[rat an ad, rat bn bd] w fun e w' => e = .returned (.int .i64 (if decide (an.natAbs * bd.natAbs < bn.natAbs * ad.natAbs) != decide (an < 0) then -1 else 1)) ∧ SameF w w' := by
  obtain ⟨res, hres⟩ : ∃ res, res = (if decide (an.natAbs * bd.natAbs < bn.natAbs * ad.natAbs) != decide (an < 0) then (-1 : Int) else 1) := ⟨_, rfl⟩
  rw [← hres]
  obtain ⟨d, rfl⟩ := Int.eq_ofNat_of_zero_le (show 0 ≤ ad by have := h1.1; omega)
  obtain ⟨f, rfl⟩ := Int.eq_ofNat_of_zero_le (show 0 ≤ bd by have := h2.1; omega)
  have u1 := wu64 d (by have := hd.2; omega)
  have u2 := wu64 f (by have := hbd.2; omega)
  have c1 := fun w0 => right_fwd an d w0 ha hd
  have c2 := fun w0 => right_fwd bn f w0 hb hbd
  rw [decide_eq_true h1] at c1
  rw [decide_eq_true h2] at c2
  have c3 := fun w0 => size_any an w0 ha
  have c4 := fun w0 => size_any bn w0 hb
  have a63 := abs64 an ha
  have b63 := abs64 bn hb
  have c5 := fun w0 => wide_any an.natAbs f (by omega) (by have := hbd.2; omega) w0
  have c6 := fun w0 => wide_any bn.natAbs d (by omega) (by have := hd.2; omega) w0
  have hsd : decide (bn < 0) = decide (an < 0) := decide_eq_decide.2 hsg.symm
  have hbk := blk2' w (.cells #[.int .i64 an, .int .i64 d] 33) (.cells #[.int .i64 bn, .int .i64 f] 33)
  obtain ⟨W2, hW2⟩ : ∃ W2, W2 = (w.alloc (.cells #[.int .i64 an, .int .i64 d] 33)).alloc (.cells #[.int .i64 bn, .int .i64 f] 33) := ⟨_, rfl⟩
  have hS0 : SameF w W2 := by rw [hW2]; exact ((OnlyF.refl _ w).alloc _).alloc _
  have hsz0 : W2.heap.size = w.heap.size + 2 := by rw [hW2, World.size_alloc, World.size_alloc]
  have HS0 := Lib.hid hS0; have HSZ0 := Lib.hid hsz0
  rw [← hW2] at hbk
  clear hS0 hsz0
  obtain ⟨k0, k1, k2, k3⟩ := pair_facts2 hbk.1
  obtain ⟨l0, l1, l2, l3⟩ := pair_facts2 hbk.2
  have heq : ((an == bn) && ((d : Int) == (f : Int))) = false := by
    by_cases h : an = bn
    · have : ¬ (d : Int) = (f : Int) := fun hc => hne ⟨h, hc⟩
      simp [h, this]
    · simp [h]
  have HEQ := Lib.hid heq; have HBK := Lib.hid hbk
  have C1 := Lib.hid c1; have C2 := Lib.hid c2; have C3 := Lib.hid c3; have C4 := Lib.hid c4; have C5 := Lib.hid c5; have C6 := Lib.hid c6; have HRES := Lib.hid hres; have HSD := Lib.hid hsd
  clear c1 c2 c3 c4 c5 c6 hres a63 b63 hsd hne heq h1 h2 hbk
  go_enter Try.func38, Try.ntmps38
  go_upto_region 1 with fail
  rw [← hW2]
  clear hW2
  go_cut [21] from 9 (fun s21 wx => s21 = .bool false ∧ SameF W2 wx)
  case first =>
    clear hsg
    by_cases h : an = bn
    · have hdf : ¬ (d : Int) = (f : Int) := by intro hc; have := HEQ.out; rw [h, hc] at this; simp at this
      subst h
      go_wp2_with fail
      refine (C1.out _).mono ?_
      rintro e w2 ⟨rfl, hS2⟩
      have n0 := hS2.cell_eq l0 (fun h => h)
      have n1 := hS2.cell_eq l1 (fun h => h)
      go_wp2_with fail
      refine (C2.out _).mono ?_
      rintro e w3 ⟨rfl, hS3⟩
      have m0 := hS3.cell_eq (hS2.cell_eq k0 (fun h => h)) (fun h => h)
      have m1 := hS3.cell_eq (hS2.cell_eq k1 (fun h => h)) (fun h => h)
      replace n0 := hS3.cell_eq n0 (fun h => h)
      replace n1 := hS3.cell_eq n1 (fun h => h)
      go_wp2_with fail
      go_meet
      case rel => exact ⟨rfl, hS2.then hS3⟩
    · go_wp2_with fail
      refine (C1.out _).mono ?_
      rintro e w2 ⟨rfl, hS2⟩
      have n0 := hS2.cell_eq l0 (fun h => h)
      have n1 := hS2.cell_eq l1 (fun h => h)
      go_wp2_with fail
      refine (C2.out _).mono ?_
      rintro e w3 ⟨rfl, hS3⟩
      have m0 := hS3.cell_eq (hS2.cell_eq k0 (fun h => h)) (fun h => h)
      have m1 := hS3.cell_eq (hS2.cell_eq k1 (fun h => h)) (fun h => h)
      replace n0 := hS3.cell_eq n0 (fun h => h)
      replace n1 := hS3.cell_eq n1 (fun h => h)
      go_wp2_with fail
      go_meet
      case rel => exact ⟨rfl, hS2.then hS3⟩
  case rest =>
  obtain ⟨rfl, hSx⟩ := hcut
  have m0 := hSx.cell_eq k0 (fun h => h)
  have m1 := hSx.cell_eq k1 (fun h => h)
  have n0 := hSx.cell_eq l0 (fun h => h)
  have n1 := hSx.cell_eq l1 (fun h => h)
  have HSW := Lib.hid (HS0.out.then hSx)
  have HSZ : Hid (w.heap.size + 2 ≤ wc.heap.size) := Lib.hid (by have := hSx.size; have := HSZ0.out; omega)
  have hcase : (an < 0 ∧ bn < 0) ∨ (0 ≤ an ∧ 0 ≤ bn) := by omega
  have HM0 := Lib.hid m0; have HM1 := Lib.hid m1; have HN0 := Lib.hid n0; have HN1 := Lib.hid n1
  have e139 := eq139
  clear hsg k0 k1 k2 k3 l0 l1 l2 l3 HBK HS0 hSx C1 C2
  obtain ⟨W3, hw3⟩ : ∃ W3, W3 = wc := ⟨_, rfl⟩
  subst hw3
  generalize hX : an.natAbs * f = X at *
  generalize hY : bn.natAbs * d = Y at *
  have hXY : X = X / 18446744073709551616 * 18446744073709551616 + X % 18446744073709551616 ∧ Y = Y / 18446744073709551616 * 18446744073709551616 + Y % 18446744073709551616 ∧ X % 18446744073709551616 < 18446744073709551616 ∧ Y % 18446744073709551616 < 18446744073709551616 := by omega
  generalize X / 18446744073709551616 = xh at *
  generalize X % 18446744073709551616 = xl at *
  generalize Y / 18446744073709551616 = yh at *
  generalize Y % 18446744073709551616 = yl at *
  have HX : Hid (an.natAbs * f = X ∧ bn.natAbs * d = Y ∧ _) := Lib.hid ⟨hX, hY, hXY⟩
  clear hX hY hXY
  rcases hcase with ⟨g1, g2⟩ | ⟨g1, g2⟩
  · have d1 : decide (an < 0) = true := decide_eq_true g1
    have d2 : decide (bn < 0) = true := decide_eq_true g2
    go_upto_region 9 with fail
    obtain ⟨W5, hW5⟩ : ∃ W5, W5 = ((W3.alloc (.cells #[.bool true, .bool true] 130)).alloc (.cells #[.int .u64 0, .int .u64 0] 132)).alloc (.cells #[.int .u64 0, .int .u64 0] 132) := ⟨_, rfl⟩
    have hb5 := blk3 W3 (.cells #[.bool true, .bool true] 130) (.cells #[.int .u64 0, .int .u64 0] 132) (.cells #[.int .u64 0, .int .u64 0] 132)
    have hS5 : SameF W3 W5 := by rw [hW5]; exact (((OnlyF.refl _ W3).alloc _).alloc _).alloc _
    rw [← hW5] at hb5 ⊢
    have HS5 := Lib.hid hS5; have HB5 := Lib.hid hb5
    have hK : ∀ w', OnlyF (· = W3.heap.size + 1) W5 w' → (OnlyF (· = W3.heap.size + 1) W5 w' ∧ w'.cell? ⟨w.heap.size, 0, none⟩ = some (.int .i64 an) ∧ w'.cell? ⟨w.heap.size + 1, 1, none⟩ = some (.int .i64 f)) := fun w' h =>
      ⟨h, h.cell_eq (hS5.cell_eq HM0.out (fun h => h)) (by have := HSZ.out; omega), h.cell_eq (hS5.cell_eq HN1.out (fun h => h)) (by have := HSZ.out; omega)⟩
    have HK := Lib.hid hK
    obtain ⟨x0, x1, x2, x3⟩ := pair_facts2 hb5.2.1
    clear hK hS5 hb5 hW5 m0 m1 n0 n1
    go_cut [] from 22 (fun wx => OnlyF (· = W3.heap.size + 1) W5 wx ∧ wx.heap[W3.heap.size + 1]? = some (.cells #[.int .u64 xh, .int .u64 xl] 132 (0, 0)))
    case first =>
      have q0 : OnlyF (· = W3.heap.size + 1) W5 W5 := OnlyF.refl _ _
      go_region_held3 (fun w' => OnlyF (· = W3.heap.size + 1) W5 w' ∧ w'.cell? ⟨w.heap.size, 0, none⟩ = some (.int .i64 an) ∧ w'.cell? ⟨w.heap.size + 1, 1, none⟩ = some (.int .i64 f))
        (first | exact HK.out _ q0 | exact HK.out _ q0.drew | exact HK.out _ (q0.setCell (fun _ => rfl) _) | exact HK.out _ (q0.drew.setCell (fun _ => rfl) _) | exact HK.out _ (q0.put2 (fun _ => rfl) _ _) | exact HK.out _ (q0.drew.put2 (fun _ => rfl) _ _))
        (first
          | (go_at_call 37; refine (C3.out _).mono ?_; rintro e w6 ⟨rfl, rfl⟩)
          | (go_at_call 69; refine (C5.out _).mono ?_; rintro e w7 ⟨rfl, rfl⟩))
      go_wp2_with fail
      go_meet
      case rel => exact ⟨(q0.put2 (fun _ => rfl) _ _).drew, pair_set2 HB5.out.2.1 _ _⟩
    case rest =>
    obtain ⟨hO6, hX6⟩ := hcut
    obtain ⟨W6, hw6⟩ : ∃ W6, W6 = wc := ⟨_, rfl⟩
    subst hw6
    have HO6 := Lib.hid hO6; have HX6 := Lib.hid hX6
    have hK2 : ∀ w', OnlyF (· = W3.heap.size + 2) W6 w' → (OnlyF (· = W3.heap.size + 2) W6 w' ∧ w'.cell? ⟨w.heap.size + 1, 0, none⟩ = some (.int .i64 bn) ∧ w'.cell? ⟨w.heap.size, 1, none⟩ = some (.int .i64 d)) := fun w' h =>
      ⟨h, h.cell_eq (hO6.cell_eq (HS5.out.cell_eq HN0.out (fun h => h)) (by have := HSZ.out; omega)) (by have := HSZ.out; omega), h.cell_eq (hO6.cell_eq (HS5.out.cell_eq HM1.out (fun h => h)) (by have := HSZ.out; omega)) (by have := HSZ.out; omega)⟩
    have HK2 := Lib.hid hK2
    have hY6 := hO6.heap HB5.out.2.2 (by omega)
    have HY6 := Lib.hid hY6
    obtain ⟨y0, y1, y2, y3⟩ := pair_facts2 hY6
    have hA6 := hO6.heap HB5.out.1 (by omega)
    have HA6 := Lib.hid hA6
    have HSF6 : Hid (SameF w W6) := Lib.hid ((HSW.out.then HS5.out).trans hO6 (fun k hk h => by have := HSZ.out; omega))
    clear hK2 hO6 hX6 hY6 hA6 x0 x1 x2 x3 HK
    go_upto_region 10 with fail
    go_cut [] from 22 (fun wx => OnlyF (· = W3.heap.size + 2) W6 wx ∧ wx.heap[W3.heap.size + 2]? = some (.cells #[.int .u64 yh, .int .u64 yl] 132 (0, 0)))
    case first =>
      have q0 : OnlyF (· = W3.heap.size + 2) W6 W6 := OnlyF.refl _ _
      go_region_held3 (fun w' => OnlyF (· = W3.heap.size + 2) W6 w' ∧ w'.cell? ⟨w.heap.size + 1, 0, none⟩ = some (.int .i64 bn) ∧ w'.cell? ⟨w.heap.size, 1, none⟩ = some (.int .i64 d))
        (first | exact HK2.out _ q0 | exact HK2.out _ q0.drew | exact HK2.out _ (q0.setCell (fun _ => rfl) _) | exact HK2.out _ (q0.drew.setCell (fun _ => rfl) _) | exact HK2.out _ (q0.put2 (fun _ => rfl) _ _) | exact HK2.out _ (q0.drew.put2 (fun _ => rfl) _ _))
        (first
          | (go_at_call 37; refine (C4.out _).mono ?_; rintro e w6 ⟨rfl, rfl⟩)
          | (go_at_call 69; refine (C6.out _).mono ?_; rintro e w7 ⟨rfl, rfl⟩))
      go_wp2_with fail
      go_meet
      case rel => exact ⟨(q0.put2 (fun _ => rfl) _ _).drew, pair_set2 HY6.out _ _⟩
    case rest =>
    obtain ⟨hO7, hY7⟩ := hcut
    have hX7 := hO7.heap HX6.out (by omega)
    have hA7 := hO7.heap HA6.out (by omega)
    have HSF : Hid (SameF w wc) := Lib.hid (HSF6.out.trans hO7 (fun k hk h => by have := HSZ.out; omega))
    obtain ⟨x0, x1, x2, x3⟩ := pair_facts2 hX7
    obtain ⟨y0, y1, y2, y3⟩ := pair_facts2 hY7
    obtain ⟨z0, z1, z2, z3⟩ := pair_facts2 hA7
    clear hO7 hX7 hY7 hA7 HK2 C3 C4 C5 C6 HO6 HX6 HY6 HA6 HB5 HS5
    rcases Nat.lt_trichotomy xh yh with hxy | hxy | hxy
    · have hI : (xh : Int) < (yh : Int) := by omega
      have hL : decide (X < Y) = true := decide_eq_true (by have := HX.out.2.2; omega)
      have hR : res = 1 := by rw [HRES.out, Int.natAbs_natCast, Int.natAbs_natCast, HX.out.1, HX.out.2.1, hL, d1]; rfl
      have HR := Lib.hid hR
      clear hxy
      clear hL hR
      go_wp2_with fail
      go_ret
      rw [HR.out]
      exact ⟨rfl, HSF.out⟩
    · by_cases hll : xl < yl
      · subst hxy
        have hL : decide (X < Y) = true := decide_eq_true (by have := HX.out.2.2; omega)
        have hR : res = 1 := by rw [HRES.out, Int.natAbs_natCast, Int.natAbs_natCast, HX.out.1, HX.out.2.1, hL, d1]; rfl
        have HR := Lib.hid hR
        clear hL hR
        go_wp2_with fail
        go_ret
        rw [HR.out]
        exact ⟨rfl, HSF.out⟩
      · subst hxy
        have hL : decide (X < Y) = false := decide_eq_false (by have := HX.out.2.2; omega)
        have hR : res = -1 := by rw [HRES.out, Int.natAbs_natCast, Int.natAbs_natCast, HX.out.1, HX.out.2.1, hL, d1]; rfl
        have HR := Lib.hid hR
        clear hL hR
        go_wp2_with fail
        go_ret
        rw [HR.out]
        exact ⟨rfl, HSF.out⟩
    · have hI : (yh : Int) < (xh : Int) := by omega
      have hI2 : ((xh : Int) == (yh : Int)) = false := by simp; omega
      have hI3 : decide (xh < yh) = false := decide_eq_false (by omega)
      have hL : decide (X < Y) = false := decide_eq_false (by have := HX.out.2.2; omega)
      have hR : res = -1 := by rw [HRES.out, Int.natAbs_natCast, Int.natAbs_natCast, HX.out.1, HX.out.2.1, hL, d1]; rfl
      have HR := Lib.hid hR
      clear hxy
      clear hL hR
      go_wp2_with fail
      go_ret
      rw [HR.out]
      exact ⟨rfl, HSF.out⟩
  · have d1 : decide (an < 0) = false := decide_eq_false (by omega)
    have d2 : decide (bn < 0) = false := decide_eq_false (by omega)
    clear g1 g2
    go_upto_region 9 with fail
    obtain ⟨W5, hW5⟩ : ∃ W5, W5 = ((W3.alloc (.cells #[.bool false, .bool false] 130)).alloc (.cells #[.int .u64 0, .int .u64 0] 132)).alloc (.cells #[.int .u64 0, .int .u64 0] 132) := ⟨_, rfl⟩
    have hb5 := blk3 W3 (.cells #[.bool false, .bool false] 130) (.cells #[.int .u64 0, .int .u64 0] 132) (.cells #[.int .u64 0, .int .u64 0] 132)
    have hS5 : SameF W3 W5 := by rw [hW5]; exact (((OnlyF.refl _ W3).alloc _).alloc _).alloc _
    rw [← hW5] at hb5 ⊢
    have HS5 := Lib.hid hS5; have HB5 := Lib.hid hb5
    have hK : ∀ w', OnlyF (· = W3.heap.size + 1) W5 w' → (OnlyF (· = W3.heap.size + 1) W5 w' ∧ w'.cell? ⟨w.heap.size, 0, none⟩ = some (.int .i64 an) ∧ w'.cell? ⟨w.heap.size + 1, 1, none⟩ = some (.int .i64 f)) := fun w' h =>
      ⟨h, h.cell_eq (hS5.cell_eq HM0.out (fun h => h)) (by have := HSZ.out; omega), h.cell_eq (hS5.cell_eq HN1.out (fun h => h)) (by have := HSZ.out; omega)⟩
    have HK := Lib.hid hK
    obtain ⟨x0, x1, x2, x3⟩ := pair_facts2 hb5.2.1
    clear hK hS5 hb5 hW5 m0 m1 n0 n1
    go_cut [] from 22 (fun wx => OnlyF (· = W3.heap.size + 1) W5 wx ∧ wx.heap[W3.heap.size + 1]? = some (.cells #[.int .u64 xh, .int .u64 xl] 132 (0, 0)))
    case first =>
      have q0 : OnlyF (· = W3.heap.size + 1) W5 W5 := OnlyF.refl _ _
      go_region_held3 (fun w' => OnlyF (· = W3.heap.size + 1) W5 w' ∧ w'.cell? ⟨w.heap.size, 0, none⟩ = some (.int .i64 an) ∧ w'.cell? ⟨w.heap.size + 1, 1, none⟩ = some (.int .i64 f))
        (first | exact HK.out _ q0 | exact HK.out _ q0.drew | exact HK.out _ (q0.setCell (fun _ => rfl) _) | exact HK.out _ (q0.drew.setCell (fun _ => rfl) _) | exact HK.out _ (q0.put2 (fun _ => rfl) _ _) | exact HK.out _ (q0.drew.put2 (fun _ => rfl) _ _))
        (first
          | (go_at_call 37; refine (C3.out _).mono ?_; rintro e w6 ⟨rfl, rfl⟩)
          | (go_at_call 69; refine (C5.out _).mono ?_; rintro e w7 ⟨rfl, rfl⟩))
      go_wp2_with fail
      go_meet
      case rel => exact ⟨(q0.put2 (fun _ => rfl) _ _).drew, pair_set2 HB5.out.2.1 _ _⟩
    case rest =>
    obtain ⟨hO6, hX6⟩ := hcut
    obtain ⟨W6, hw6⟩ : ∃ W6, W6 = wc := ⟨_, rfl⟩
    subst hw6
    have HO6 := Lib.hid hO6; have HX6 := Lib.hid hX6
    have hK2 : ∀ w', OnlyF (· = W3.heap.size + 2) W6 w' → (OnlyF (· = W3.heap.size + 2) W6 w' ∧ w'.cell? ⟨w.heap.size + 1, 0, none⟩ = some (.int .i64 bn) ∧ w'.cell? ⟨w.heap.size, 1, none⟩ = some (.int .i64 d)) := fun w' h =>
      ⟨h, h.cell_eq (hO6.cell_eq (HS5.out.cell_eq HN0.out (fun h => h)) (by have := HSZ.out; omega)) (by have := HSZ.out; omega), h.cell_eq (hO6.cell_eq (HS5.out.cell_eq HM1.out (fun h => h)) (by have := HSZ.out; omega)) (by have := HSZ.out; omega)⟩
    have HK2 := Lib.hid hK2
    have hY6 := hO6.heap HB5.out.2.2 (by omega)
    have HY6 := Lib.hid hY6
    obtain ⟨y0, y1, y2, y3⟩ := pair_facts2 hY6
    have hA6 := hO6.heap HB5.out.1 (by omega)
    have HA6 := Lib.hid hA6
    have HSF6 : Hid (SameF w W6) := Lib.hid ((HSW.out.then HS5.out).trans hO6 (fun k hk h => by have := HSZ.out; omega))
    clear hK2 hO6 hX6 hY6 hA6 x0 x1 x2 x3 HK
    go_upto_region 10 with fail
    go_cut [] from 22 (fun wx => OnlyF (· = W3.heap.size + 2) W6 wx ∧ wx.heap[W3.heap.size + 2]? = some (.cells #[.int .u64 yh, .int .u64 yl] 132 (0, 0)))
    case first =>
      have q0 : OnlyF (· = W3.heap.size + 2) W6 W6 := OnlyF.refl _ _
      go_region_held3 (fun w' => OnlyF (· = W3.heap.size + 2) W6 w' ∧ w'.cell? ⟨w.heap.size + 1, 0, none⟩ = some (.int .i64 bn) ∧ w'.cell? ⟨w.heap.size, 1, none⟩ = some (.int .i64 d))
        (first | exact HK2.out _ q0 | exact HK2.out _ q0.drew | exact HK2.out _ (q0.setCell (fun _ => rfl) _) | exact HK2.out _ (q0.drew.setCell (fun _ => rfl) _) | exact HK2.out _ (q0.put2 (fun _ => rfl) _ _) | exact HK2.out _ (q0.drew.put2 (fun _ => rfl) _ _))
        (first
          | (go_at_call 37; refine (C4.out _).mono ?_; rintro e w6 ⟨rfl, rfl⟩)
          | (go_at_call 69; refine (C6.out _).mono ?_; rintro e w7 ⟨rfl, rfl⟩))
      go_wp2_with fail
      go_meet
      case rel => exact ⟨(q0.put2 (fun _ => rfl) _ _).drew, pair_set2 HY6.out _ _⟩
    case rest =>
    obtain ⟨hO7, hY7⟩ := hcut
    have hX7 := hO7.heap HX6.out (by omega)
    have hA7 := hO7.heap HA6.out (by omega)
    have HSF : Hid (SameF w wc) := Lib.hid (HSF6.out.trans hO7 (fun k hk h => by have := HSZ.out; omega))
    obtain ⟨x0, x1, x2, x3⟩ := pair_facts2 hX7
    obtain ⟨y0, y1, y2, y3⟩ := pair_facts2 hY7
    obtain ⟨z0, z1, z2, z3⟩ := pair_facts2 hA7
    clear hO7 hX7 hY7 hA7 HK2 C3 C4 C5 C6 HO6 HX6 HY6 HA6 HB5 HS5
    rcases Nat.lt_trichotomy xh yh with hxy | hxy | hxy
    · have hI : (xh : Int) < (yh : Int) := by omega
      have hL : decide (X < Y) = true := decide_eq_true (by have := HX.out.2.2; omega)
      have hR : res = -1 := by rw [HRES.out, Int.natAbs_natCast, Int.natAbs_natCast, HX.out.1, HX.out.2.1, hL, d1]; rfl
      have HR := Lib.hid hR
      clear hxy
      clear hL hR
      go_wp2_with fail
      go_ret
      rw [HR.out]
      exact ⟨rfl, HSF.out⟩
    · by_cases hll : xl < yl
      · subst hxy
        have hL : decide (X < Y) = true := decide_eq_true (by have := HX.out.2.2; omega)
        have hR : res = -1 := by rw [HRES.out, Int.natAbs_natCast, Int.natAbs_natCast, HX.out.1, HX.out.2.1, hL, d1]; rfl
        have HR := Lib.hid hR
        clear hL hR
        go_wp2_with fail
        go_ret
        rw [HR.out]
        exact ⟨rfl, HSF.out⟩
      · subst hxy
        have hL : decide (X < Y) = false := decide_eq_false (by have := HX.out.2.2; omega)
        have hR : res = 1 := by rw [HRES.out, Int.natAbs_natCast, Int.natAbs_natCast, HX.out.1, HX.out.2.1, hL, d1]; rfl
        have HR := Lib.hid hR
        clear hL hR
        go_wp2_with fail
        go_ret
        rw [HR.out]
        exact ⟨rfl, HSF.out⟩
    · have hI : (yh : Int) < (xh : Int) := by omega
      have hI2 : ((xh : Int) == (yh : Int)) = false := by simp; omega
      have hI3 : decide (xh < yh) = false := decide_eq_false (by omega)
      have hL : decide (X < Y) = false := decide_eq_false (by have := HX.out.2.2; omega)
      have hR : res = 1 := by rw [HRES.out, Int.natAbs_natCast, Int.natAbs_natCast, HX.out.1, HX.out.2.1, hL, d1]; rfl
      have HR := Lib.hid hR
      clear hxy
      clear hL hR
      go_wp2_with fail
      go_ret
      rw [HR.out]
      exact ⟨rfl, HSF.out⟩
set_option maxRecDepth 100000 in
theorem compare_eq_fwd (an ad : Int) (w : World) (ha : i64in an) (hd : i64in ad) (h1 : RatOk an ad) :
    Calls Try.prog 38 #[rat an ad, rat an ad] w fun e w' => e = .returned (.int .i64 0) ∧ SameF w w' := by
  have c1 := fun w0 => right_fwd an ad w0 ha hd
  have c2 := fun w0 => right_fwd an ad w0 ha hd
  rw [decide_eq_true h1] at c1
  rw [decide_eq_true h1] at c2
  have C1 := Lib.hid c1; have C2 := Lib.hid c2
  clear c1 c2 h1
  have hbk := blk2' w (.cells #[.int .i64 an, .int .i64 ad] 33) (.cells #[.int .i64 an, .int .i64 ad] 33)
  obtain ⟨k0, k1, k2, k3⟩ := pair_facts2 hbk.1
  obtain ⟨l0, l1, l2, l3⟩ := pair_facts2 hbk.2
  clear hbk
  go_enter Try.func38, Try.ntmps38
  go_wp2_with fail
  refine (C1.out _).mono ?_
  rintro e w2 ⟨rfl, hS2⟩
  have n0 := hS2.cell_eq l0 (fun h => h)
  have n1 := hS2.cell_eq l1 (fun h => h)
  go_wp2_with fail
  refine (C2.out _).mono ?_
  rintro e w3 ⟨rfl, hS3⟩
  have m0 := hS3.cell_eq (hS2.cell_eq k0 (fun h => h)) (fun h => h)
  have m1 := hS3.cell_eq (hS2.cell_eq k1 (fun h => h)) (fun h => h)
  replace n0 := hS3.cell_eq n0 (fun h => h)
  replace n1 := hS3.cell_eq n1 (fun h => h)
  go_wp2_with fail
  go_ret
  exact ⟨rfl, ((((OnlyF.refl _ w).alloc _).alloc _).then hS2).then hS3⟩
set_option maxRecDepth 100000 in
theorem compare_neg_fwd (an ad bn bd : Int) (w : World) (ha : i64in an) (hd : i64in ad) (hb : i64in bn) (hbd : i64in bd) (h1 : RatOk an ad) (h2 : RatOk bn bd) (g1 : an < 0) (g2 : 0 ≤ bn) :
    Calls Try.prog 38 #[rat an ad, rat bn bd] w fun e w' => e = .returned (.int .i64 (-1)) ∧ SameF w w' := by
  have c1 := fun w0 => right_fwd an ad w0 ha hd
  have c2 := fun w0 => right_fwd bn bd w0 hb hbd
  rw [decide_eq_true h1] at c1
  rw [decide_eq_true h2] at c2
  have C1 := Lib.hid c1; have C2 := Lib.hid c2
  have e139 := eq139
  have hne : (an == bn) = false := by simp; omega
  have hne2 : ¬ an = bn := by omega
  have d1 : decide (an < 0) = true := decide_eq_true g1
  have d2 : decide (bn < 0) = false := decide_eq_false (by omega)
  clear c1 c2 h1 h2
  have hbk := blk2' w (.cells #[.int .i64 an, .int .i64 ad] 33) (.cells #[.int .i64 bn, .int .i64 bd] 33)
  obtain ⟨k0, k1, k2, k3⟩ := pair_facts2 hbk.1
  obtain ⟨l0, l1, l2, l3⟩ := pair_facts2 hbk.2
  clear hbk
  go_enter Try.func38, Try.ntmps38
  go_wp2_with fail
  refine (C1.out _).mono ?_
  rintro e w2 ⟨rfl, hS2⟩
  have n0 := hS2.cell_eq l0 (fun h => h)
  have n1 := hS2.cell_eq l1 (fun h => h)
  go_wp2_with fail
  refine (C2.out _).mono ?_
  rintro e w3 ⟨rfl, hS3⟩
  have m0 := hS3.cell_eq (hS2.cell_eq k0 (fun h => h)) (fun h => h)
  have m1 := hS3.cell_eq (hS2.cell_eq k1 (fun h => h)) (fun h => h)
  replace n0 := hS3.cell_eq n0 (fun h => h)
  replace n1 := hS3.cell_eq n1 (fun h => h)
  go_wp2_with fail
  go_ret
  exact ⟨rfl, ((((OnlyF.refl _ w).alloc _).alloc _).then hS2).then hS3 |>.alloc _⟩
set_option maxRecDepth 100000 in
theorem compare_pos_fwd (an ad bn bd : Int) (w : World) (ha : i64in an) (hd : i64in ad) (hb : i64in bn) (hbd : i64in bd) (h1 : RatOk an ad) (h2 : RatOk bn bd) (g1 : 0 ≤ an) (g2 : bn < 0) :
    Calls Try.prog 38 #[rat an ad, rat bn bd] w fun e w' => e = .returned (.int .i64 1) ∧ SameF w w' := by
  have c1 := fun w0 => right_fwd an ad w0 ha hd
  have c2 := fun w0 => right_fwd bn bd w0 hb hbd
  rw [decide_eq_true h1] at c1
  rw [decide_eq_true h2] at c2
  have C1 := Lib.hid c1; have C2 := Lib.hid c2
  have e139 := eq139
  have hne : (an == bn) = false := by simp; omega
  have hne2 : ¬ an = bn := by omega
  have d1 : decide (an < 0) = false := decide_eq_false (by omega)
  have d2 : decide (bn < 0) = true := decide_eq_true g2
  clear c1 c2 h1 h2
  have hbk := blk2' w (.cells #[.int .i64 an, .int .i64 ad] 33) (.cells #[.int .i64 bn, .int .i64 bd] 33)
  obtain ⟨k0, k1, k2, k3⟩ := pair_facts2 hbk.1
  obtain ⟨l0, l1, l2, l3⟩ := pair_facts2 hbk.2
  clear hbk
  go_enter Try.func38, Try.ntmps38
  go_wp2_with fail
  refine (C1.out _).mono ?_
  rintro e w2 ⟨rfl, hS2⟩
  have n0 := hS2.cell_eq l0 (fun h => h)
  have n1 := hS2.cell_eq l1 (fun h => h)
  go_wp2_with fail
  refine (C2.out _).mono ?_
  rintro e w3 ⟨rfl, hS3⟩
  have m0 := hS3.cell_eq (hS2.cell_eq k0 (fun h => h)) (fun h => h)
  have m1 := hS3.cell_eq (hS2.cell_eq k1 (fun h => h)) (fun h => h)
  replace n0 := hS3.cell_eq n0 (fun h => h)
  replace n1 := hS3.cell_eq n1 (fun h => h)
  go_wp2_with fail
  go_ret
  exact ⟨rfl, ((((OnlyF.refl _ w).alloc _).alloc _).then hS2).then hS3 |>.alloc _⟩
theorem rcompare_fwd (an bn : Int) (a b : Nat) (w : World) (ha : i64in an) (hd : i64in a) (hb : i64in bn) (hbd : i64in b) (h1 : RatOk an a) (h2 : RatOk bn b) :
    Calls Try.prog 38 #[rat an a, rat bn b] w fun e w' => e = .returned (.int .i64 (an * b - bn * a).sign) ∧ SameF w w' := by
  have pa : 0 < a := by have := h1.1; omega
  have pb : 0 < b := by have := h2.1; omega
  by_cases he : an = bn ∧ (a : Int) = b
  · obtain ⟨rfl, hab⟩ := he
    obtain rfl : a = b := by omega
    rw [show an * (a : Int) - an * a = 0 by omega]
    exact compare_eq_fwd an a w ha hd h1
  · have hne : an * b ≠ bn * a := fun h => he (by have := ratio_eq an bn a b h1 h2 h; exact ⟨this.1, by rw [this.2]⟩)
    have n1 := fun h => Int.mul_neg_of_neg_of_pos (a := an) (b := b) h (by omega)
    have n2 := fun h => Int.mul_neg_of_neg_of_pos (a := bn) (b := a) h (by omega)
    have p1 := fun h => Int.mul_nonneg (a := an) (b := b) h (by omega)
    have p2 := fun h => Int.mul_nonneg (a := bn) (b := a) h (by omega)
    by_cases g1 : an < 0 <;> by_cases g2 : bn < 0
    · have hm := compare_main_fwd an a bn b w ha hd hb hbd h1 h2 he (by omega)
      have e1 : (an.natAbs * b : Nat) = -(an * b) := by rw [Int.natCast_mul, Int.ofNat_natAbs_of_nonpos (by omega), Int.neg_mul]
      have e2 : (bn.natAbs * a : Nat) = -(bn * a) := by rw [Int.natCast_mul, Int.ofNat_natAbs_of_nonpos (by omega), Int.neg_mul]
      rw [Int.natAbs_natCast, Int.natAbs_natCast, decide_eq_true g1] at hm
      generalize an.natAbs * b = X at *
      generalize bn.natAbs * a = Y at *
      generalize an * b = x at *
      generalize bn * a = y at *
      by_cases hl : X < Y
      · rw [decide_eq_true hl, if_neg (by simp)] at hm
        rw [Int.sign_eq_one_of_pos (by omega)]
        exact hm
      · rw [decide_eq_false hl, if_pos (by simp)] at hm
        rw [Int.sign_eq_neg_one_of_neg (by omega)]
        exact hm
    · rw [Int.sign_eq_neg_one_of_neg (by have := n1 g1; have := p2 (by omega); omega)]
      exact compare_neg_fwd an a bn b w ha hd hb hbd h1 h2 g1 (by omega)
    · rw [Int.sign_eq_one_of_pos (by have := p1 (by omega); have := n2 g2; omega)]
      exact compare_pos_fwd an a bn b w ha hd hb hbd h1 h2 (by omega) g2
    · have hm := compare_main_fwd an a bn b w ha hd hb hbd h1 h2 he (by omega)
      have e1 : (an.natAbs * b : Nat) = an * b := by rw [Int.natCast_mul, Int.natAbs_of_nonneg (by omega)]
      have e2 : (bn.natAbs * a : Nat) = bn * a := by rw [Int.natCast_mul, Int.natAbs_of_nonneg (by omega)]
      rw [Int.natAbs_natCast, Int.natAbs_natCast, decide_eq_false g1] at hm
      generalize an.natAbs * b = X at *
      generalize bn.natAbs * a = Y at *
      generalize an * b = x at *
      generalize bn * a = y at *
      by_cases hl : X < Y
      · rw [decide_eq_true hl, if_pos (by simp)] at hm
        rw [Int.sign_eq_neg_one_of_neg (by omega)]
        exact hm
      · rw [decide_eq_false hl, if_neg (by simp)] at hm
        rw [Int.sign_eq_one_of_pos (by omega)]
        exact hm
end Go.Proofs.Ytpgbnjneoejebaa
