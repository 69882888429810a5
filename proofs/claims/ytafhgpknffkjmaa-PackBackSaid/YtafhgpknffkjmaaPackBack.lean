import Derived.Test.YtafhgpknffkjmaaPackTells
import Derived.Test.YtafhgpknffkjmaaPackSame
import Derived.Test.YtafhgpknffkjmaaPackRound
import Derived.Deep.Cut
set_option linter.unusedVariables false
set_option linter.unusedSimpArgs false
namespace Go.Proofs.Ytafhgpknffkjmaa
open Go.RowKit

theorem Only.fresh {a b c : World} {g : Nat} (h : Same a b) (h' : Only (· = g) b c) (hg : a.heap.size ≤ g) : Same a c := h.trans h' (fun k hk e => by omega)

set_option maxHeartbeats 2000000 in
set_option maxRecDepth 100000 in
theorem packBack_walk (v wd_ : Int) (x : Value) (l : List Int) (s : ByteArray) (w : World) (hv : (Lit.int .i64 v).wf = true) (hw : (Lit.int .i64 wd_).wf = true) (hx : Sl w (.int .i64) x l) (hl : ∀ y ∈ l, -9223372036854775808 ≤ y ∧ y ≤ 9223372036854775807) (hs : s.size ≤ 140737488351232) :
    Calls Try.prog 7 #[.int .i64 v, .int .i64 wd_, x, .string s] w fun e w' => e = .returned (.bool true) ∧ Same w w' := by
  have hvb := bounds_i64 hv
  obtain ⟨sl, rfl⟩ : ∃ sl, s = str sl := ⟨s.data.toList, (str_of s).symm⟩
  have hst := str_size sl
  have hmax : ∀ y ∈ l, y ≤ 9223372036854775807 := fun y hy => (hl y hy).2
  have HX := Lib.hid hx; have HL := Lib.hid hl; have HM := Lib.hid hmax
  obtain ⟨ad, cp, rfl, hcp, hmx, hnil, hcell⟩ := hx
  clear hnil hcell hl hv hw hmax
  by_cases h500 : 300 < l.length
  · go_enter Try.func7, Try.ntmps7
    go_wp2_with (go_at_call 22; refine (awake2_any _).mono ?_; rintro e w1 ⟨rfl, hS1⟩)
    go_ret
    exact ⟨rfl, hS1⟩
  by_cases h1000 : 1000 < sl.length
  · go_enter Try.func7, Try.ntmps7
    go_wp2_with (go_at_call 22; refine (awake2_any _).mono ?_; rintro e w1 ⟨rfl, hS1⟩)
    go_ret
    exact ⟨rfl, hS1⟩
  have hz10 := vint_le10 (zz v) (zz_range v hvb)
  have hzs := str_size (vint (zz v))
  have hapz := str_append (vint (zz v)) sl
  have hzb := zigS_vint v sl hvb
  have HZB := Lib.hid hzb
  clear hzb
  go_enter Try.func7, Try.ntmps7
  go_upto_region 8 with (first
    | (go_at_call 22; refine (awake2_any _).mono ?_; rintro e w1 ⟨rfl, hS1⟩)
    | (go_at_call 29; refine (zig_any v _ hvb).mono ?_; rintro e w2 ⟨rfl, hS2⟩; have hSa := hS1.then hS2)
    | (go_at_call 31; refine (rnew_any (vint (zz v) ++ sl) _).mono ?_; rintro e w3 ⟨rfl, hS3, hR3⟩; have HR3 := Lib.hid hR3; clear hR3)
    | (go_at_call 34; refine (rzig_any _ _ _ HR3.out (by simp; omega)).mono ?_; rw [HZB.out]; rintro e w4 ⟨rfl, hO4, hR4⟩; have HR4 := Lib.hid hR4; clear hR4)
    | (go_at_call 43; refine (rleft_any _ _ _ HR4.out).mono ?_; rintro e w5 ⟨rfl, hS5⟩; rw [Option.getD_some])
    | (go_at_call 44; refine (rbad_any _ _ _ (HR4.out.same hS5)).mono ?_; rintro e w6 ⟨rfl, hS6⟩; rw [Option.isNone_some]))
  have hSb : Same w w6 := (((hSa.then hS3).fresh hO4 hSa.size).then hS5).then hS6
  clear HR3 HR4 hS1 hS2 hSa hS3 hO4 hS5 hS6 HZB
  obtain ⟨sv, hsv⟩ : ∃ sv, sv = (vS v).getD [] := ⟨_, rfl⟩
  obtain ⟨ev, hev⟩ : ∃ ev, ev = eno (vS v) := ⟨_, rfl⟩
  have HSV := Lib.hid hsv; have HEV := Lib.hid hev
  clear hsv hev hz10 hzs hapz
  go_upto_if 61 with (go_at_call 23; refine (pvarint_any v _ hvb).mono ?_; rw [← HSV.out, ← HEV.out]; rintro e w7 ⟨rfl, hS7⟩)
  have hSc := hSb.then hS7
  clear hSb hS7
  go_cut [] from 8 (fun wx => Same w wx)
  case first =>
    by_cases hn : v < 0
    · have hev : ev = 1 := by rw [HEV.out]; unfold vS; rw [if_pos hn]; rfl
      subst hev
      go_wp2
      go_meet
      case rel => exact hSc
    · obtain ⟨n, rfl⟩ := Int.eq_ofNat_of_zero_le (show 0 ≤ v by omega)
      have hvs : vS (n : Int) = some (vint n) := by unfold vS; rw [if_neg hn, Int.toNat_natCast]
      have hev : ev = 0 := by rw [HEV.out, hvs]; rfl
      have hsv : sv = vint n := by rw [HSV.out, hvs]; rfl
      subst hev hsv
      have hap := str_append (vint n) sl
      have hl10 := vint_le10 n (by omega)
      have HB := Lib.hid (varS_vint n sl (by omega))
      have hsz := str_size (vint n)
      clear hn hvs
      go_wp2_with (first
        | (go_at_call 31; refine (rnew_any (vint n ++ sl) _).mono ?_; rintro e w3 ⟨rfl, hS3, hR3⟩; have HR3 := Lib.hid hR3; clear hR3)
        | (go_at_call 32; refine (rvarint_any _ _ _ HR3.out (by simp; omega)).mono ?_; rw [HB.out]; rintro e w4 ⟨rfl, hO4, hR4⟩; have HR4 := Lib.hid hR4; clear hR4)
        | (go_at_call 43; refine (rleft_any _ _ _ HR4.out).mono ?_; rintro e w5 ⟨rfl, hS5⟩; rw [Option.getD_some]))
      go_meet
      case rel => exact ((hSc.then hS3).fresh hO4 hSc.size).then hS5
  case rest =>
  clear hSc HSV HEV
  clear sv ev
  obtain ⟨sv, hsv⟩ : ∃ sv, sv = (risS l).getD [] := ⟨_, rfl⟩
  obtain ⟨ev, hev⟩ : ∃ ev, ev = eno (risS l) := ⟨_, rfl⟩
  have HSV := Lib.hid hsv; have HEV := Lib.hid hev
  clear hsv hev
  have hl300 : l.length ≤ 300 := by omega
  have hSd := hcut; clear hcut
  go_upto_if 83 with (go_at_call 25; refine (ris_any _ l _ (HX.out.same hSd) HL.out (by omega)).mono ?_; rw [← HSV.out, ← HEV.out]; rintro e w8 ⟨rfl, hS8⟩)
  have hSe := hSd.then hS8
  clear hSd hS8
  go_cut [] from 8 (fun wx => Same w wx)
  case first =>
    cases hr : risS l with
    | none =>
      have hev : ev = 1 := by rw [HEV.out, hr]; rfl
      subst hev
      go_wp2
      go_meet
      case rel => exact hSe
    | some t =>
      have hev : ev = 0 := by rw [HEV.out, hr]; rfl
      have hsv : sv = t := by rw [HSV.out, hr]; rfl
      subst hev hsv
      have hap := str_append sv sl
      have hB := risR_back l sv sl HM.out (by omega) hr
      have hln : sv.length ≤ 10000 := by
        unfold risS at hr
        obtain ⟨t', ht, rfl⟩ := Option.map_eq_some_iff.1 hr
        have h1 := risb_length (-1) l t' (by omega) HM.out ht
        have h2 := vint_le10 l.length (by omega)
        simp; omega
      have HB := Lib.hid hB
      have hsz := str_size sv
      clear hr hB
      go_wp2_with (first
        | (go_at_call 31; refine (rnew_any (sv ++ sl) _).mono ?_; rintro e w3 ⟨rfl, hS3, hR3⟩; have HR3 := Lib.hid hR3; clear hR3)
        | (go_at_call 36; refine (rrising_any _ _ l.length _ HR3.out (by simp; omega)).mono ?_; rw [HB.out]; rintro e w4 ⟨v4, rfl, hO4, hR4, hV4⟩; have HR4 := Lib.hid hR4; have HV4 := Lib.hid hV4; clear hR4 hV4)
        | (go_at_call 42; refine (same02_any _ _ l l _ HV4.out (HX.out.same ((hSe.then hS3).fresh hO4 hSe.size))).mono ?_; rw [decide_eq_true rfl]; rintro e w9 ⟨rfl, hS9⟩)
        | (go_at_call 43; refine (rleft_any _ _ _ (HR4.out.same hS9)).mono ?_; rintro e w5 ⟨rfl, hS5⟩; rw [Option.getD_some]))
      go_meet
      case rel => exact (((hSe.then hS3).fresh hO4 hSe.size).then hS9).then hS5
  case rest =>
  clear hSe HSV HEV
  clear sv ev
  obtain ⟨sv, hsv⟩ : ∃ sv, sv = (fixS wd_ l).getD [] := ⟨_, rfl⟩
  obtain ⟨ev, hev⟩ : ∃ ev, ev = eno (fixS wd_ l) := ⟨_, rfl⟩
  have HSV := Lib.hid hsv; have HEV := Lib.hid hev
  clear hsv hev
  have hSd := hcut; clear hcut
  go_upto_if 109 with (go_at_call 27; refine (fix_any wd_ _ l _ (HX.out.same hSd) HL.out (by omega)).mono ?_; rw [← HSV.out, ← HEV.out]; rintro e w8 ⟨rfl, hS8⟩)
  have hSe := hSd.then hS8
  clear hSd hS8
  go_cut [] from 8 (fun wx => Same w wx)
  case first =>
    cases hr : fixS wd_ l with
    | none =>
      have hev : ev = 1 := by rw [HEV.out, hr]; rfl
      subst hev
      go_wp2
      go_meet
      case rel => exact hSe
    | some t =>
      have hev : ev = 0 := by rw [HEV.out, hr]; rfl
      have hsv : sv = t := by rw [HSV.out, hr]; rfl
      subst hev hsv
      have hap := str_append sv sl
      have hB := fixR_back wd_ l sv sl (by omega) hr
      have hln : sv.length ≤ 10000 := by
        unfold fixS at hr
        by_cases hw : wd_ < 0 ∨ 32 < wd_
        · rw [if_pos hw] at hr; cases hr
        · rw [if_neg hw] at hr
          by_cases hok : fixOk wd_.toNat l = true
          · rw [if_pos hok] at hr
            simp only [Option.some.injEq] at hr
            have hwl : wd_.toNat * l.length ≤ 32 * 300 := Nat.mul_le_mul (by omega) hl300
            rw [← hr, fixB_length]; omega
          · rw [if_neg hok] at hr; cases hr
      have HB := Lib.hid hB
      have hsz := str_size sv
      clear hr hB
      go_wp2_with (first
        | (go_at_call 31; refine (rnew_any (sv ++ sl) _).mono ?_; rintro e w3 ⟨rfl, hS3, hR3⟩; have HR3 := Lib.hid hR3; clear hR3)
        | (go_at_call 38; refine (rfixed_any _ _ wd_ l.length _ HR3.out (by simp; omega)).mono ?_; rw [HB.out]; rintro e w4 ⟨v4, rfl, hO4, hR4, hV4⟩; have HR4 := Lib.hid hR4; have HV4 := Lib.hid hV4; clear hR4 hV4)
        | (go_at_call 42; refine (same02_any _ _ l l _ HV4.out (HX.out.same ((hSe.then hS3).fresh hO4 hSe.size))).mono ?_; rw [decide_eq_true rfl]; rintro e w9 ⟨rfl, hS9⟩)
        | (go_at_call 43; refine (rleft_any _ _ _ (HR4.out.same hS9)).mono ?_; rintro e w5 ⟨rfl, hS5⟩; rw [Option.getD_some]))
      go_meet
      case rel => exact (((hSe.then hS3).fresh hO4 hSe.size).then hS9).then hS5
  case rest =>
  clear hSe HSV HEV
  clear sv ev
  have hSd := hcut; clear hcut
  go_upto_if 135 with (first
    | (go_at_call 31; refine (rnew_any sl _).mono ?_; rintro e w3 ⟨rfl, hS3, hR3⟩; have HR3 := Lib.hid hR3; clear hR3)
    | (go_at_call 32; refine (rvarint_any _ _ _ HR3.out (by simp; omega)).mono ?_; rintro e w4 ⟨rfl, hO4, hR4⟩; have HR4 := Lib.hid hR4; clear hR4)
    | (go_at_call 44; refine (rbad_any _ _ _ HR4.out).mono ?_; rintro e w5 ⟨rfl, hS5⟩))
  have hSe := ((hSd.then hS3).fresh hO4 hSd.size).then hS5
  have HR5 := Lib.hid (HR4.out.same hS5)
  clear hSd hS3 hO4 hS5 HR3 HR4
  go_cut [] from 8 (fun wx => Same w wx)
  case first =>
    cases hr : (varS (some sl)).2 with
    | none =>
      rw [Option.isNone_none]
      go_wp2
      go_meet
      case rel => exact hSe
    | some r =>
      rw [Option.isNone_some]
      obtain ⟨hb1, hb2⟩ := varS_back sl r hr
      have HR6 : Hid (Rd w5 wc.heap.size (some r)) := Lib.hid (by have := HR5.out; rw [hr] at this; exact this)
      generalize (varS (some sl)).1 = n at *
      have hfr := front_of hb1
      have htk := str_take sl (sl.length - r.length)
      rw [hfr] at htk
      have hrl : r.length ≤ sl.length := by rw [hb1]; simp
      have hvs : vS (n : Int) = some (vint n) := by unfold vS; rw [if_neg (by omega), Int.toNat_natCast]
      have hev : eno (vS (n : Int)) = 0 := by rw [hvs]; rfl
      have hsv : str ((vS (n : Int)).getD []) = str (vint n) := by rw [hvs]; rfl
      have HVS := Lib.hid (And.intro hev hsv)
      have hsub : ((sl.length : Int) - (r.length : Int)).toNat = sl.length - r.length := by omega
      clear hr hb1 HR5 hfr hvs hev hsv
      go_wp2_with (first
        | (go_at_call 23; refine (pvarint_any n _ (by omega)).mono ?_; rw [HVS.out.1, HVS.out.2]; rintro e w7 ⟨rfl, hS7⟩)
        | (go_at_call 43; refine (rleft_any _ _ _ (HR6.out.same hS7)).mono ?_; rintro e w8 ⟨rfl, hS8⟩; rw [Option.getD_some]))
      go_meet
      case rel => exact (hSe.then hS7).then hS8
  case rest =>
  clear hSe HR5
  have hSd := hcut; clear hcut
  go_upto_region 31 with (first
    | (go_at_call 31; refine (rnew_any sl _).mono ?_; rintro e w3 ⟨rfl, hS3, hR3⟩; have HR3 := Lib.hid hR3; clear hR3)
    | (go_at_call 34; refine (rzig_any _ _ _ HR3.out (by simp; omega)).mono ?_; rintro e w4 ⟨rfl, hO4, hR4⟩; have HR4 := Lib.hid hR4; clear hR4))
  have hSe := ((hSd.then hS3).fresh hO4 hSd.size)
  have HO := Lib.hid hSe
  clear hSd hS3 hO4 HR3
  have hzl := wordS_lt (some sl)
  have hzr := unzz_range _ hzl
  have hze : (zigS (some sl)).1 = unzz (wordS (some sl)).1 := rfl
  rw [← hze] at hzr
  clear hzl hze
  cases hr : (zigS (some sl)).2 with
  | none =>
    have hR5 := HR4.out
    rw [hr] at hR5
    have HR5 := Lib.hid hR5
    generalize (zigS (some sl)).1 = n at *
    clear hR5 hr HR4
    go_wp2_with (go_at_call 44; refine (rbad_any _ _ _ HR5.out).mono ?_; rintro e w5 ⟨rfl, hS5⟩; rw [Option.isNone_none])
    go_ret
    exact ⟨rfl, HO.out.then hS5⟩
  | some r =>
    have hb1 := zigS_back sl r hr
    have hR5 := HR4.out
    rw [hr] at hR5
    have HR5 := Lib.hid hR5
    generalize (zigS (some sl)).1 = n at *
    clear hR5 hr HR4
    have hfr := front_of hb1
    have htk := str_take sl (sl.length - r.length)
    rw [hfr] at htk
    have hrl : r.length ≤ sl.length := by rw [hb1]; simp
    have hsub : ((sl.length : Int) - (r.length : Int)).toNat = sl.length - r.length := by omega
    clear hb1 hfr
    go_wp2_with (first
      | (go_at_call 44; refine (rbad_any _ _ _ HR5.out).mono ?_; rintro e w5 ⟨rfl, hS5⟩; rw [Option.isNone_some])
      | (go_at_call 29; refine (zig_any n _ hzr).mono ?_; rintro e w7 ⟨rfl, hS7⟩)
      | (go_at_call 43; refine (rleft_any _ _ _ ((HR5.out.same hS5).same hS7)).mono ?_; rintro e w8 ⟨rfl, hS8⟩; rw [Option.getD_some]))
    go_ret
    exact ⟨rfl, ((HO.out.then hS5).then hS7).then hS8⟩
end Go.Proofs.Ytafhgpknffkjmaa
