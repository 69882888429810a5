import Derived.Test.YtpgbnjneoejebaaRatT
import Derived.ChangeKeysEq
import Derived.Deep.Cut
import Derived.Deep.RegionHeld3
set_option linter.unusedVariables false
set_option linter.unusedSimpArgs false
namespace Go.Proofs.Ytpgbnjneoejebaa
open Go.RowKit

theorem eq139 (a b c d : Bool) (w : World) : (Op.equalIn 10000 130 (.agg #[.bool a, .bool b]) (.agg #[.bool c, .bool d])).run Try.prog w = .ok (a == c && b == d) w := by
  cases a <;> cases b <;> cases c <;> cases d <;> kernel_rfl
set_option maxRecDepth 100000 in
set_option maxHeartbeats 1000000 in
theorem compare_main (an ad bn bd : Int) (w : World) (ha : i64in an) (hd : i64in ad) (hb : i64in bn) (hbd : i64in bd) (h1 : RatOk an ad) (h2 : RatOk bn bd) (hne : ¬ (an = bn ∧ ad = bd)) (hsg : an < 0 ↔ bn < 0) :
    Calls Try.prog 38 #[rat an ad, rat bn bd] w fun e w' => e = .returned (.int .i64 (if decide (an.natAbs * bd.natAbs < bn.natAbs * ad.natAbs) != decide (an < 0) then -1 else 1)) ∧ Same w w' := by
  obtain ⟨res, hres⟩ : ∃ res, res = (if decide (an.natAbs * bd.natAbs < bn.natAbs * ad.natAbs) != decide (an < 0) then (-1 : Int) else 1) := ⟨_, rfl⟩
  rw [← hres]
  obtain ⟨d, rfl⟩ := Int.eq_ofNat_of_zero_le (show 0 ≤ ad by have := h1.1; omega)
  obtain ⟨f, rfl⟩ := Int.eq_ofNat_of_zero_le (show 0 ≤ bd by have := h2.1; omega)
  have u1 := wu64 d (by have := hd.2; omega)
  have u2 := wu64 f (by have := hbd.2; omega)
  have c1 := fun w0 => right_any an d w0 ha hd
  have c2 := fun w0 => right_any bn f w0 hb hbd
  rw [decide_eq_true h1] at c1
  rw [decide_eq_true h2] at c2
  have c3 := fun w0 => size_any an w0 ha
  have c4 := fun w0 => size_any bn w0 hb
  have a63 := abs64 an ha
  have b63 := abs64 bn hb
  have c5 := fun w0 => wide_any an.natAbs f (by omega) (by have := hbd.2; omega) w0
  have c6 := fun w0 => wide_any bn.natAbs d (by omega) (by have := hd.2; omega) w0
  have hsd : decide (bn < 0) = decide (an < 0) := decide_eq_decide.2 hsg.symm
  have hbk := blk2' w (.cells #[.int .i64 an, .int .i64 d] 33) (.cells #[.int .i64 bn, .int .i64 f] 33)
  obtain ⟨W2, hW2⟩ : ∃ W2, W2 = (w.alloc (.cells #[.int .i64 an, .int .i64 d] 33)).alloc (.cells #[.int .i64 bn, .int .i64 f] 33) := ⟨_, rfl⟩
  have hS0 : Same w W2 := by rw [hW2]; exact ((Only.refl _ w).alloc _).alloc _
  have hsz0 : W2.heap.size = w.heap.size + 2 := by rw [hW2, World.size_alloc, World.size_alloc]
  have HS0 := Lib.hid hS0; have HSZ0 := Lib.hid hsz0
  rw [← hW2] at hbk
  clear hS0 hsz0
  obtain ⟨k0, k1, k2, k3⟩ := pair_facts2 hbk.1
  obtain ⟨l0, l1, l2, l3⟩ := pair_facts2 hbk.2
  have heq : ((an == bn) && ((d : Int) == (f : Int))) = false := by
    by_cases h : an = bn
    · have : ¬ (d : Int) = (f : Int) := fun hc => hne ⟨h, hc⟩
      simp [h, this]
    · simp [h]
  have HEQ := Lib.hid heq; have HBK := Lib.hid hbk
  have C1 := Lib.hid c1; have C2 := Lib.hid c2; have C3 := Lib.hid c3; have C4 := Lib.hid c4; have C5 := Lib.hid c5; have C6 := Lib.hid c6; have HRES := Lib.hid hres; have HSD := Lib.hid hsd
  clear c1 c2 c3 c4 c5 c6 hres a63 b63 hsd hne heq h1 h2 hbk
  go_enter Try.func38, Try.ntmps38
  go_upto_region 1 with fail
  rw [← hW2]
  clear hW2
  go_cut [21] from 9 (fun s21 wx => s21 = .bool false ∧ Same W2 wx)
  case first =>
    clear hsg
    by_cases h : an = bn
    · have hdf : ¬ (d : Int) = (f : Int) := by intro hc; have := HEQ.out; rw [h, hc] at this; simp at this
      subst h
      go_wp2_with fail
      refine (C1.out _).mono ?_
      rintro e w2 ⟨rfl, hS2⟩
      have n0 := hS2.cell_eq l0 (fun h => h)
      have n1 := hS2.cell_eq l1 (fun h => h)
      go_wp2_with fail
      refine (C2.out _).mono ?_
      rintro e w3 ⟨rfl, hS3⟩
      have m0 := hS3.cell_eq (hS2.cell_eq k0 (fun h => h)) (fun h => h)
      have m1 := hS3.cell_eq (hS2.cell_eq k1 (fun h => h)) (fun h => h)
      replace n0 := hS3.cell_eq n0 (fun h => h)
      replace n1 := hS3.cell_eq n1 (fun h => h)
      go_wp2_with fail
      go_meet
      case rel => exact ⟨rfl, hS2.then hS3⟩
    · go_wp2_with fail
      refine (C1.out _).mono ?_
      rintro e w2 ⟨rfl, hS2⟩
      have n0 := hS2.cell_eq l0 (fun h => h)
      have n1 := hS2.cell_eq l1 (fun h => h)
      go_wp2_with fail
      refine (C2.out _).mono ?_
      rintro e w3 ⟨rfl, hS3⟩
      have m0 := hS3.cell_eq (hS2.cell_eq k0 (fun h => h)) (fun h => h)
      have m1 := hS3.cell_eq (hS2.cell_eq k1 (fun h => h)) (fun h => h)
      replace n0 := hS3.cell_eq n0 (fun h => h)
      replace n1 := hS3.cell_eq n1 (fun h => h)
      go_wp2_with fail
      go_meet
      case rel => exact ⟨rfl, hS2.then hS3⟩
  case rest =>
  obtain ⟨rfl, hSx⟩ := hcut
  have m0 := hSx.cell_eq k0 (fun h => h)
  have m1 := hSx.cell_eq k1 (fun h => h)
  have n0 := hSx.cell_eq l0 (fun h => h)
  have n1 := hSx.cell_eq l1 (fun h => h)
  have HSW := Lib.hid (HS0.out.then hSx)
  have HSZ : Hid (w.heap.size + 2 ≤ wc.heap.size) := Lib.hid (by have := hSx.size; have := HSZ0.out; omega)
  have hcase : (an < 0 ∧ bn < 0) ∨ (0 ≤ an ∧ 0 ≤ bn) := by omega
  have HM0 := Lib.hid m0; have HM1 := Lib.hid m1; have HN0 := Lib.hid n0; have HN1 := Lib.hid n1
  have e139 := eq139
  clear hsg k0 k1 k2 k3 l0 l1 l2 l3 HBK HS0 hSx C1 C2
  obtain ⟨W3, hw3⟩ : ∃ W3, W3 = wc := ⟨_, rfl⟩
  subst hw3
  generalize hX : an.natAbs * f = X at *
  generalize hY : bn.natAbs * d = Y at *
  have hXY : X = X / 18446744073709551616 * 18446744073709551616 + X % 18446744073709551616 ∧ Y = Y / 18446744073709551616 * 18446744073709551616 + Y % 18446744073709551616 ∧ X % 18446744073709551616 < 18446744073709551616 ∧ Y % 18446744073709551616 < 18446744073709551616 := by omega
  generalize X / 18446744073709551616 = xh at *
  generalize X % 18446744073709551616 = xl at *
  generalize Y / 18446744073709551616 = yh at *
  generalize Y % 18446744073709551616 = yl at *
  have HX : Hid (an.natAbs * f = X ∧ bn.natAbs * d = Y ∧ _) := Lib.hid ⟨hX, hY, hXY⟩
  clear hX hY hXY
  rcases hcase with ⟨g1, g2⟩ | ⟨g1, g2⟩
  · have d1 : decide (an < 0) = true := decide_eq_true g1
    have d2 : decide (bn < 0) = true := decide_eq_true g2
    go_upto_region 9 with fail
    obtain ⟨W5, hW5⟩ : ∃ W5, W5 = ((W3.alloc (.cells #[.bool true, .bool true] 130)).alloc (.cells #[.int .u64 0, .int .u64 0] 132)).alloc (.cells #[.int .u64 0, .int .u64 0] 132) := ⟨_, rfl⟩
    have hb5 := blk3 W3 (.cells #[.bool true, .bool true] 130) (.cells #[.int .u64 0, .int .u64 0] 132) (.cells #[.int .u64 0, .int .u64 0] 132)
    have hS5 : Same W3 W5 := by rw [hW5]; exact (((Only.refl _ W3).alloc _).alloc _).alloc _
    rw [← hW5] at hb5 ⊢
    have HS5 := Lib.hid hS5; have HB5 := Lib.hid hb5
    have hK : ∀ w', Only (· = W3.heap.size + 1) W5 w' → (Only (· = W3.heap.size + 1) W5 w' ∧ w'.cell? ⟨w.heap.size, 0, none⟩ = some (.int .i64 an) ∧ w'.cell? ⟨w.heap.size + 1, 1, none⟩ = some (.int .i64 f)) := fun w' h =>
      ⟨h, h.cell_eq (hS5.cell_eq HM0.out (fun h => h)) (by have := HSZ.out; omega), h.cell_eq (hS5.cell_eq HN1.out (fun h => h)) (by have := HSZ.out; omega)⟩
    have HK := Lib.hid hK
    obtain ⟨x0, x1, x2, x3⟩ := pair_facts2 hb5.2.1
    clear hK hS5 hb5 hW5 m0 m1 n0 n1
    go_cut [] from 22 (fun wx => Only (· = W3.heap.size + 1) W5 wx ∧ wx.heap[W3.heap.size + 1]? = some (.cells #[.int .u64 xh, .int .u64 xl] 132 (0, 0)))
    case first =>
      have q0 : Only (· = W3.heap.size + 1) W5 W5 := Only.refl _ _
      go_region_held3 (fun w' => Only (· = W3.heap.size + 1) W5 w' ∧ w'.cell? ⟨w.heap.size, 0, none⟩ = some (.int .i64 an) ∧ w'.cell? ⟨w.heap.size + 1, 1, none⟩ = some (.int .i64 f))
        (first | exact HK.out _ q0 | exact HK.out _ q0.drew | exact HK.out _ (q0.setCell (fun _ => rfl) _) | exact HK.out _ (q0.drew.setCell (fun _ => rfl) _) | exact HK.out _ (q0.put2 (fun _ => rfl) _ _) | exact HK.out _ (q0.drew.put2 (fun _ => rfl) _ _))
        (first
          | (go_at_call 37; refine (C3.out _).mono ?_; rintro e w6 ⟨rfl, rfl⟩)
          | (go_at_call 69; refine (C5.out _).mono ?_; rintro e w7 ⟨rfl, rfl⟩))
      go_wp2_with fail
      go_meet
      case rel => exact ⟨(q0.put2 (fun _ => rfl) _ _).drew, pair_set2 HB5.out.2.1 _ _⟩
    case rest =>
    obtain ⟨hO6, hX6⟩ := hcut
    obtain ⟨W6, hw6⟩ : ∃ W6, W6 = wc := ⟨_, rfl⟩
    subst hw6
    have HO6 := Lib.hid hO6; have HX6 := Lib.hid hX6
    have hK2 : ∀ w', Only (· = W3.heap.size + 2) W6 w' → (Only (· = W3.heap.size + 2) W6 w' ∧ w'.cell? ⟨w.heap.size + 1, 0, none⟩ = some (.int .i64 bn) ∧ w'.cell? ⟨w.heap.size, 1, none⟩ = some (.int .i64 d)) := fun w' h =>
      ⟨h, h.cell_eq (hO6.cell_eq (HS5.out.cell_eq HN0.out (fun h => h)) (by have := HSZ.out; omega)) (by have := HSZ.out; omega), h.cell_eq (hO6.cell_eq (HS5.out.cell_eq HM1.out (fun h => h)) (by have := HSZ.out; omega)) (by have := HSZ.out; omega)⟩
    have HK2 := Lib.hid hK2
    have hY6 := hO6.heap HB5.out.2.2 (by omega)
    have HY6 := Lib.hid hY6
    obtain ⟨y0, y1, y2, y3⟩ := pair_facts2 hY6
    have hA6 := hO6.heap HB5.out.1 (by omega)
    have HA6 := Lib.hid hA6
    have HSF6 : Hid (Same w W6) := Lib.hid ((HSW.out.then HS5.out).trans hO6 (fun k hk h => by have := HSZ.out; omega))
    clear hK2 hO6 hX6 hY6 hA6 x0 x1 x2 x3 HK
    go_upto_region 10 with fail
    go_cut [] from 22 (fun wx => Only (· = W3.heap.size + 2) W6 wx ∧ wx.heap[W3.heap.size + 2]? = some (.cells #[.int .u64 yh, .int .u64 yl] 132 (0, 0)))
    case first =>
      have q0 : Only (· = W3.heap.size + 2) W6 W6 := Only.refl _ _
      go_region_held3 (fun w' => Only (· = W3.heap.size + 2) W6 w' ∧ w'.cell? ⟨w.heap.size + 1, 0, none⟩ = some (.int .i64 bn) ∧ w'.cell? ⟨w.heap.size, 1, none⟩ = some (.int .i64 d))
        (first | exact HK2.out _ q0 | exact HK2.out _ q0.drew | exact HK2.out _ (q0.setCell (fun _ => rfl) _) | exact HK2.out _ (q0.drew.setCell (fun _ => rfl) _) | exact HK2.out _ (q0.put2 (fun _ => rfl) _ _) | exact HK2.out _ (q0.drew.put2 (fun _ => rfl) _ _))
        (first
          | (go_at_call 37; refine (C4.out _).mono ?_; rintro e w6 ⟨rfl, rfl⟩)
          | (go_at_call 69; refine (C6.out _).mono ?_; rintro e w7 ⟨rfl, rfl⟩))
      go_wp2_with fail
      go_meet
      case rel => exact ⟨(q0.put2 (fun _ => rfl) _ _).drew, pair_set2 HY6.out _ _⟩
    case rest =>
    obtain ⟨hO7, hY7⟩ := hcut
    have hX7 := hO7.heap HX6.out (by omega)
    have hA7 := hO7.heap HA6.out (by omega)
    have HSF : Hid (Same w wc) := Lib.hid (HSF6.out.trans hO7 (fun k hk h => by have := HSZ.out; omega))
    obtain ⟨x0, x1, x2, x3⟩ := pair_facts2 hX7
    obtain ⟨y0, y1, y2, y3⟩ := pair_facts2 hY7
    obtain ⟨z0, z1, z2, z3⟩ := pair_facts2 hA7
    clear hO7 hX7 hY7 hA7 HK2 C3 C4 C5 C6 HO6 HX6 HY6 HA6 HB5 HS5
    rcases Nat.lt_trichotomy xh yh with hxy | hxy | hxy
    · have hI : (xh : Int) < (yh : Int) := by omega
      have hL : decide (X < Y) = true := decide_eq_true (by have := HX.out.2.2; omega)
      have hR : res = 1 := by rw [HRES.out, Int.natAbs_natCast, Int.natAbs_natCast, HX.out.1, HX.out.2.1, hL, d1]; rfl
      have HR := Lib.hid hR
      clear hxy
      clear hL hR
      go_wp2_with fail
      go_ret
      rw [HR.out]
      exact ⟨rfl, HSF.out⟩
    · by_cases hll : xl < yl
      · subst hxy
        have hL : decide (X < Y) = true := decide_eq_true (by have := HX.out.2.2; omega)
        have hR : res = 1 := by rw [HRES.out, Int.natAbs_natCast, Int.natAbs_natCast, HX.out.1, HX.out.2.1, hL, d1]; rfl
        have HR := Lib.hid hR
        clear hL hR
        go_wp2_with fail
        go_ret
        rw [HR.out]
        exact ⟨rfl, HSF.out⟩
      · subst hxy
        have hL : decide (X < Y) = false := decide_eq_false (by have := HX.out.2.2; omega)
        have hR : res = -1 := by rw [HRES.out, Int.natAbs_natCast, Int.natAbs_natCast, HX.out.1, HX.out.2.1, hL, d1]; rfl
        have HR := Lib.hid hR
        clear hL hR
        go_wp2_with fail
        go_ret
        rw [HR.out]
        exact ⟨rfl, HSF.out⟩
    · have hI : (yh : Int) < (xh : Int) := by omega
      have hI2 : ((xh : Int) == (yh : Int)) = false := by simp; omega
      have hI3 : decide (xh < yh) = false := decide_eq_false (by omega)
      have hL : decide (X < Y) = false := decide_eq_false (by have := HX.out.2.2; omega)
      have hR : res = -1 := by rw [HRES.out, Int.natAbs_natCast, Int.natAbs_natCast, HX.out.1, HX.out.2.1, hL, d1]; rfl
      have HR := Lib.hid hR
      clear hxy
      clear hL hR
      go_wp2_with fail
      go_ret
      rw [HR.out]
      exact ⟨rfl, HSF.out⟩
  · have d1 : decide (an < 0) = false := decide_eq_false (by omega)
    have d2 : decide (bn < 0) = false := decide_eq_false (by omega)
    clear g1 g2
    go_upto_region 9 with fail
    obtain ⟨W5, hW5⟩ : ∃ W5, W5 = ((W3.alloc (.cells #[.bool false, .bool false] 130)).alloc (.cells #[.int .u64 0, .int .u64 0] 132)).alloc (.cells #[.int .u64 0, .int .u64 0] 132) := ⟨_, rfl⟩
    have hb5 := blk3 W3 (.cells #[.bool false, .bool false] 130) (.cells #[.int .u64 0, .int .u64 0] 132) (.cells #[.int .u64 0, .int .u64 0] 132)
    have hS5 : Same W3 W5 := by rw [hW5]; exact (((Only.refl _ W3).alloc _).alloc _).alloc _
    rw [← hW5] at hb5 ⊢
    have HS5 := Lib.hid hS5; have HB5 := Lib.hid hb5
    have hK : ∀ w', Only (· = W3.heap.size + 1) W5 w' → (Only (· = W3.heap.size + 1) W5 w' ∧ w'.cell? ⟨w.heap.size, 0, none⟩ = some (.int .i64 an) ∧ w'.cell? ⟨w.heap.size + 1, 1, none⟩ = some (.int .i64 f)) := fun w' h =>
      ⟨h, h.cell_eq (hS5.cell_eq HM0.out (fun h => h)) (by have := HSZ.out; omega), h.cell_eq (hS5.cell_eq HN1.out (fun h => h)) (by have := HSZ.out; omega)⟩
    have HK := Lib.hid hK
    obtain ⟨x0, x1, x2, x3⟩ := pair_facts2 hb5.2.1
    clear hK hS5 hb5 hW5 m0 m1 n0 n1
    go_cut [] from 22 (fun wx => Only (· = W3.heap.size + 1) W5 wx ∧ wx.heap[W3.heap.size + 1]? = some (.cells #[.int .u64 xh, .int .u64 xl] 132 (0, 0)))
    case first =>
      have q0 : Only (· = W3.heap.size + 1) W5 W5 := Only.refl _ _
      go_region_held3 (fun w' => Only (· = W3.heap.size + 1) W5 w' ∧ w'.cell? ⟨w.heap.size, 0, none⟩ = some (.int .i64 an) ∧ w'.cell? ⟨w.heap.size + 1, 1, none⟩ = some (.int .i64 f))
        (first | exact HK.out _ q0 | exact HK.out _ q0.drew | exact HK.out _ (q0.setCell (fun _ => rfl) _) | exact HK.out _ (q0.drew.setCell (fun _ => rfl) _) | exact HK.out _ (q0.put2 (fun _ => rfl) _ _) | exact HK.out _ (q0.drew.put2 (fun _ => rfl) _ _))
        (first
          | (go_at_call 37; refine (C3.out _).mono ?_; rintro e w6 ⟨rfl, rfl⟩)
          | (go_at_call 69; refine (C5.out _).mono ?_; rintro e w7 ⟨rfl, rfl⟩))
      go_wp2_with fail
      go_meet
      case rel => exact ⟨(q0.put2 (fun _ => rfl) _ _).drew, pair_set2 HB5.out.2.1 _ _⟩
    case rest =>
    obtain ⟨hO6, hX6⟩ := hcut
    obtain ⟨W6, hw6⟩ : ∃ W6, W6 = wc := ⟨_, rfl⟩
    subst hw6
    have HO6 := Lib.hid hO6; have HX6 := Lib.hid hX6
    have hK2 : ∀ w', Only (· = W3.heap.size + 2) W6 w' → (Only (· = W3.heap.size + 2) W6 w' ∧ w'.cell? ⟨w.heap.size + 1, 0, none⟩ = some (.int .i64 bn) ∧ w'.cell? ⟨w.heap.size, 1, none⟩ = some (.int .i64 d)) := fun w' h =>
      ⟨h, h.cell_eq (hO6.cell_eq (HS5.out.cell_eq HN0.out (fun h => h)) (by have := HSZ.out; omega)) (by have := HSZ.out; omega), h.cell_eq (hO6.cell_eq (HS5.out.cell_eq HM1.out (fun h => h)) (by have := HSZ.out; omega)) (by have := HSZ.out; omega)⟩
    have HK2 := Lib.hid hK2
    have hY6 := hO6.heap HB5.out.2.2 (by omega)
    have HY6 := Lib.hid hY6
    obtain ⟨y0, y1, y2, y3⟩ := pair_facts2 hY6
    have hA6 := hO6.heap HB5.out.1 (by omega)
    have HA6 := Lib.hid hA6
    have HSF6 : Hid (Same w W6) := Lib.hid ((HSW.out.then HS5.out).trans hO6 (fun k hk h => by have := HSZ.out; omega))
    clear hK2 hO6 hX6 hY6 hA6 x0 x1 x2 x3 HK
    go_upto_region 10 with fail
    go_cut [] from 22 (fun wx => Only (· = W3.heap.size + 2) W6 wx ∧ wx.heap[W3.heap.size + 2]? = some (.cells #[.int .u64 yh, .int .u64 yl] 132 (0, 0)))
    case first =>
      have q0 : Only (· = W3.heap.size + 2) W6 W6 := Only.refl _ _
      go_region_held3 (fun w' => Only (· = W3.heap.size + 2) W6 w' ∧ w'.cell? ⟨w.heap.size + 1, 0, none⟩ = some (.int .i64 bn) ∧ w'.cell? ⟨w.heap.size, 1, none⟩ = some (.int .i64 d))
        (first | exact HK2.out _ q0 | exact HK2.out _ q0.drew | exact HK2.out _ (q0.setCell (fun _ => rfl) _) | exact HK2.out _ (q0.drew.setCell (fun _ => rfl) _) | exact HK2.out _ (q0.put2 (fun _ => rfl) _ _) | exact HK2.out _ (q0.drew.put2 (fun _ => rfl) _ _))
        (first
          | (go_at_call 37; refine (C4.out _).mono ?_; rintro e w6 ⟨rfl, rfl⟩)
          | (go_at_call 69; refine (C6.out _).mono ?_; rintro e w7 ⟨rfl, rfl⟩))
      go_wp2_with fail
      go_meet
      case rel => exact ⟨(q0.put2 (fun _ => rfl) _ _).drew, pair_set2 HY6.out _ _⟩
    case rest =>
    obtain ⟨hO7, hY7⟩ := hcut
    have hX7 := hO7.heap HX6.out (by omega)
    have hA7 := hO7.heap HA6.out (by omega)
    have HSF : Hid (Same w wc) := Lib.hid (HSF6.out.trans hO7 (fun k hk h => by have := HSZ.out; omega))
    obtain ⟨x0, x1, x2, x3⟩ := pair_facts2 hX7
    obtain ⟨y0, y1, y2, y3⟩ := pair_facts2 hY7
    obtain ⟨z0, z1, z2, z3⟩ := pair_facts2 hA7
    clear hO7 hX7 hY7 hA7 HK2 C3 C4 C5 C6 HO6 HX6 HY6 HA6 HB5 HS5
    rcases Nat.lt_trichotomy xh yh with hxy | hxy | hxy
    · have hI : (xh : Int) < (yh : Int) := by omega
      have hL : decide (X < Y) = true := decide_eq_true (by have := HX.out.2.2; omega)
      have hR : res = -1 := by rw [HRES.out, Int.natAbs_natCast, Int.natAbs_natCast, HX.out.1, HX.out.2.1, hL, d1]; rfl
      have HR := Lib.hid hR
      clear hxy
      clear hL hR
      go_wp2_with fail
      go_ret
      rw [HR.out]
      exact ⟨rfl, HSF.out⟩
    · by_cases hll : xl < yl
      · subst hxy
        have hL : decide (X < Y) = true := decide_eq_true (by have := HX.out.2.2; omega)
        have hR : res = -1 := by rw [HRES.out, Int.natAbs_natCast, Int.natAbs_natCast, HX.out.1, HX.out.2.1, hL, d1]; rfl
        have HR := Lib.hid hR
        clear hL hR
        go_wp2_with fail
        go_ret
        rw [HR.out]
        exact ⟨rfl, HSF.out⟩
      · subst hxy
        have hL : decide (X < Y) = false := decide_eq_false (by have := HX.out.2.2; omega)
        have hR : res = 1 := by rw [HRES.out, Int.natAbs_natCast, Int.natAbs_natCast, HX.out.1, HX.out.2.1, hL, d1]; rfl
        have HR := Lib.hid hR
        clear hL hR
        go_wp2_with fail
        go_ret
        rw [HR.out]
        exact ⟨rfl, HSF.out⟩
    · have hI : (yh : Int) < (xh : Int) := by omega
      have hI2 : ((xh : Int) == (yh : Int)) = false := by simp; omega
      have hI3 : decide (xh < yh) = false := decide_eq_false (by omega)
      have hL : decide (X < Y) = false := decide_eq_false (by have := HX.out.2.2; omega)
      have hR : res = 1 := by rw [HRES.out, Int.natAbs_natCast, Int.natAbs_natCast, HX.out.1, HX.out.2.1, hL, d1]; rfl
      have HR := Lib.hid hR
      clear hxy
      clear hL hR
      go_wp2_with fail
      go_ret
      rw [HR.out]
      exact ⟨rfl, HSF.out⟩
end Go.Proofs.Ytpgbnjneoejebaa
