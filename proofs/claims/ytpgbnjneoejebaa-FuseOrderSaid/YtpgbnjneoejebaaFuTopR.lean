import Derived.Test.YtpgbnjneoejebaaFuAddR
import Derived.Test.YtpgbnjneoejebaaFuSpec
import Derived.Test.YtpgbnjneoejebaaTvTop
import Derived.Maps.RangeWalk
set_option linter.unusedVariables false
set_option linter.unusedSimpArgs false
namespace Go.Proofs.Ytpgbnjneoejebaa
open Go.RowKit
attribute [local go_sem ↓] Go.wp_at_zero Go.wp_at_succ

set_option maxRecDepth 100000 in
set_option maxHeartbeats 16000000 in
/-- 'fused': the best of what two lists bring. -/
theorem fusedR_any (vx vy : Value) (x y : List (Int × Int)) (k : Int) (B0 B1 : Nat → Int → QV) (bc : Nat) (w : World) (hx : SlP w vx x) (hy : SlP w vy y) (nx : (docsF x).Nodup) (ny : (docsF y).Nodup) (lx : x.length ≤ 1000) (ly : y.length ≤ 1000) (ix : I64L x) (iy : I64L y) (hk : 1 ≤ k ∧ k ≤ 1000)
    (hB0 : ∀ w0, Same w w0 → ∀ i (h : i < x.length), Calls Try.prog 33 #[.int .i64 0, .int .i64 ((i : Int) + 1), .int .i64 x[i].2, .pointer (some ⟨bc, 0, none⟩)] w0 fun e w' => e = .returned (ratV (B0 (i + 1) x[i].2)) ∧ Same w0 w')
    (hB1 : ∀ w0, Same w w0 → ∀ i (h : i < y.length), Calls Try.prog 33 #[.int .i64 1, .int .i64 ((i : Int) + 1), .int .i64 y[i].2, .pointer (some ⟨bc, 0, none⟩)] w0 fun e w' => e = .returned (ratV (B1 (i + 1) y[i].2)) ∧ Same w0 w')
    (hq : ∀ i j (hi : i < x.length) (hj : j < y.length), QIn ((B0 (i + 1) x[i].2).1 + (B1 (j + 1) y[j].2).1)) :
    Calls Try.prog 32 #[vx, vy, .int .i64 k, .func (.func 33) #[] #[.pointer (some ⟨bc, 0, none⟩)]] w fun e w' => ∃ v F, e = .returned v ∧ Same w w' ∧ FuI x y B0 B1 F ∧ w'.ownsRow w.heap.size 35 3 v (bestG k F).length (cells3 (bestG k F)) := by
  have HX := Lib.hid hx; have HY := Lib.hid hy; have HB0 := Lib.hid hB0; have HB1 := Lib.hid hB1; have HQ := Lib.hid hq; have HNX := Lib.hid nx; have HNY := Lib.hid ny; have HIX := Lib.hid ix; have HIY := Lib.hid iy
  obtain ⟨z, hz⟩ : ∃ z, z = w.heap.size := ⟨_, rfl⟩
  have hmm := @run_makeMap Try.prog
  have hS1 : Same w (w.alloc (.cells #[.func (.func 33) #[] #[.pointer (some ⟨bc, 0, none⟩)]] 80)) := (Only.refl _ w).alloc _
  have hA1 := blk_new w (.cells #[.func (.func 33) #[] #[.pointer (some ⟨bc, 0, none⟩)]] 80)
  have hz1 : (w.alloc (.cells #[.func (.func 33) #[] #[.pointer (some ⟨bc, 0, none⟩)]] 80)).heap.size = z + 1 := by rw [hz]; simp
  rw [← hz] at hA1
  clear hx hy hB0 hB1 hq nx ny ix iy
  go_enter Try.func32, Try.ntmps32
  go_upto_region 1 with fail
  rw [← hz]
  have HZ : Hid (w.heap.size = z) := Lib.hid hz.symm
  clear hz
  generalize w.alloc (.cells #[.func (.func 33) #[] #[.pointer (some ⟨bc, 0, none⟩)]] 80) = w1 at *
  have hM2 := MpJ.made ratV Try.prog 3 w1
  have hS2 : Same w1 (w1.alloc (.map #[] 0)) := (Only.refl _ w1).alloc _
  have hz2 : (w1.alloc (.map #[] 0)).heap.size = z + 1 + 1 := by simp; omega
  have hS3 : Same (w1.alloc (.map #[] 0)) ((w1.alloc (.map #[] 0)).alloc (.cells #[.map (some (z + 1))] 120)) := (Only.refl _ _).alloc _
  have hA3 := blk_new (w1.alloc (.map #[] 0)) (.cells #[.map (some (z + 1))] 120)
  have hz3 : ((w1.alloc (.map #[] 0)).alloc (.cells #[.map (some (z + 1))] 120)).heap.size = z + 1 + 1 + 1 := by rw [World.size_alloc, hz2]
  rw [hz2] at hA3
  rw [hz1] at hM2
  go_upto_region 3 with fail
  have hM3 := hM2.same hS3
  have hA13 := (hS3.heap (hS2.heap hA1 (fun h => h)) (fun h => h))
  have hS13 := (hS1.then hS2).then hS3
  clear hM2 hS3 hz2 hA1 hS1
  generalize (w1.alloc (.map #[] 0)).alloc (.cells #[.map (some (z + 1))] 120) = w3 at *
  obtain ⟨b0, b1⟩ : w3.cell? ⟨z + 1 + 1, 0, none⟩ = some (.map (some (z + 1))) ∧ w3.cell? ⟨z, 0, none⟩ = some (.func (.func 33) #[] #[.pointer (some ⟨bc, 0, none⟩)]) := ⟨blk_cells hA3 0, blk_cells hA13 0⟩
  have h0 : w.heap.size = z := HZ.out
  have c1 := faddR_any 0 vx x [] B0 (z + 1 + 1) z (z + 1) bc w3 (HX.out.same hS13) HNX.out lx HIX.out b0 b1 hM3 (by simp) ⟨by omega, by omega⟩ (fun b off n c h0' e => by have := HX.out.old h0' e; omega)
    (fun w0 h => HB0.out w0 (hS13.trans h (fun k hk e => by omega))) (fun i hi => by
      show QIn (qz.1 + (B0 (i + 1) x[i].2).1)
      rw [show qz.1 + (B0 (i + 1) x[i].2).1 = (B0 (i + 1) x[i].2).1 from Rat.zero_add _]
      exact (B0 (i + 1) x[i].2).2)
  have C1 := Lib.hid c1
  have HS13 := Lib.hid hS13; have HM3 := Lib.hid hM3; have HB01 := Lib.hid (And.intro b0 b1)
  clear c1 hM3 hS13 hA3 hA13 b0 b1 hS2 hz1 h0 hmm
  go_wp2_with fail
  refine C1.out.mono ?_
  rintro e w4 ⟨rfl, hO4, F1, hM4, hA4, hl4⟩
  have h0 : w.heap.size = z := HZ.out
  have hS4 := HS13.out.trans hO4 (fun k hk e => by omega)
  have c2 := faddR_any 1 vy y F1 B1 (z + 1 + 1) z (z + 1) bc w4 (HY.out.same hS4) HNY.out ly HIY.out (hO4.cell_eq HB01.out.1 (by omega)) (hO4.cell_eq HB01.out.2 (by omega)) hM4 (by simp at hl4; omega) ⟨by omega, by omega⟩ (fun b off n c h0' e => by have := HY.out.old h0' e; omega)
    (fun w0 h => HB1.out w0 (hS4.trans h (fun k hk e => by omega))) (fun j hj => by
      by_cases hm : y[j].1 ∈ docsF x
      · obtain ⟨i, hi, e⟩ := fdocs_at hm
        rw [← e, addI_nil hA4 i hi]
        exact HQ.out i j hi hj
      · rw [addI_out hA4 _ hm]
        show QIn (qz.1 + (B1 (j + 1) y[j].2).1)
        rw [show qz.1 + (B1 (j + 1) y[j].2).1 = (B1 (j + 1) y[j].2).1 from Rat.zero_add _]
        exact (B1 (j + 1) y[j].2).2)
  have C2 := Lib.hid c2
  have HS4 := Lib.hid hS4; have HA4 := Lib.hid (And.intro (hM4.sort Try.underlying3) hA4); have HL4 := Lib.hid hl4
  have HBV : Hid (w4.cell? ⟨z + 1 + 1, 0, none⟩ = some (.map (some (z + 1)))) := Lib.hid (hO4.cell_eq HB01.out.1 (by omega))
  clear c2 hS4 hA4 hl4 hM4 hO4 h0 C1 HM3 HB01 HS13
  go_wp2_with fail
  refine C2.out.mono ?_
  rintro e w5 ⟨rfl, hO5, F, hM5, hA5, hl5⟩
  have h0 : w.heap.size = z := HZ.out
  have hS5 := HS4.out.trans hO5 (fun k hk e => by omega)
  have hF : FuI x y B0 B1 F := ⟨hM5.sort Try.underlying3, by have := HL4.out; simp at this; omega, F1, HA4.out.1, HA4.out.2, hA5⟩
  have HF := Lib.hid hF; have HS5 := Lib.hid hS5; have HM5 := Lib.hid hM5
  have hbv := hO5.cell_eq HBV.out (by omega)
  have HBV := Lib.hid hbv
  have HLF : Hid (F.length ≤ 2000) := Lib.hid (by have := hF.2.1; omega)
  clear hO5 hM5 hA5 hl5 hF hS5 hbv C2 HA4 HL4 HS4 h0
  go_wp2_with fail
  refine (tvnew_any k w5 (by omega)).mono ?_
  rintro e w6 ⟨rfl, hS6, hT6⟩
  have hbv := hS6.cell_eq HBV.out (fun h => h)
  have HS6 := Lib.hid (HS5.out.then hS6); have HM6 := Lib.hid (HM5.out.same hS6); have HT6 := Lib.hid hT6
  have HZ5 : Hid (w.heap.size ≤ w5.heap.size ∧ z + 1 < w5.heap.size) := Lib.hid ⟨HS5.out.size, HM5.out.lt⟩
  clear hS6 hT6 HM5 HBV HS5
  generalize w5.heap.size = tb at *
  go_wp2_with (at_range; refine mpj_range ratV _ rfl (.tmp 24) 120 rfl 3 33 Try.underlying3 Try.underlying120 (z + 1) F rfl HM6.out ?_; intro w7 left hl hr hS hsz)
  go_frame
  have HR : Hid (w7.ranges Try.prog 3 mJ (z + 1) w6.heap.size F.length (.map (F.map (encJ ratV))) left F.length) := Lib.hid hr
  have HS7 := Lib.hid (HS6.out.then hS); have HT7 := Lib.hid (HT6.out.same hS)
  have HLE := Lib.hid hl
  have HTB : Hid (tb < w6.heap.size) := Lib.hid (by obtain ⟨v, h1, _⟩ := HT6.out; exact heap_lt h1)
  have HSF : Hid (SortI F) := Lib.hid (HM6.out.sort Try.underlying3)
  clear hr hS hl hsz HS6 HT6 HM6
  generalize w6.heap.size = rb at *
  go_loopw [12] (fun _ wr => ∃ left cnt h l, wr.ranges Try.prog 3 mJ (z + 1) rb F.length (.map (F.map (encJ ratV))) left cnt ∧ Same w wr ∧ TvAt wr tb k.toNat h ∧ HeapG h ∧ h.Perm (bestG k l) ∧ CameI F left l) (fun _ wr => wr.rangeLeft (z + 1) rb)
  case atStart => exact ⟨left, _, [], [], HR.out, HS7.out, HT7.out, fun j h0 h1 => by simp at h1, by simp [bestG, sortG], cameI_start HLE.out⟩
  case round =>
    obtain ⟨left2, cnt2, h, l, hr2, hS2, hT2, hh2, hp2, hc2⟩ := hrel
    obtain ⟨w3, hw3⟩ : ∃ x, x = wr := ⟨_, rfl⟩
    subst hw3
    clear HR HS7 HT7 HLE
    have HR2 := Lib.hid hr2; have HS2 := Lib.hid hS2; have HT2 := Lib.hid hT2; have HH2 := Lib.hid hh2; have HP2 := Lib.hid hp2; have HC2 := Lib.hid hc2
    clear hr2 hS2 hT2 hh2 hp2 hc2
    go_wp2_with (at_next; refine mpj_next ratV _ rfl (.tmp 25) rfl 3 Try.underlying3 (z + 1) rb F left2 cnt2 rfl HR2.out ?_ ?_)
    · intro hl0
      have hpf := cameI_end HC2.out HSF.out hl0
      have hhl : h.length ≤ 900000 := by have := HP2.out.length_eq; have := bestG_len k l; have := hpf.length_eq; have := HLF.out; omega
      have e1 : sortG h = bestG k F := by
        have e0 : bestG k l = bestG k F := by unfold bestG; rw [sortG_of_perm hpf]
        rw [← e0]
        exact gsort_uniq _ _ ((sortG_perm h).trans HP2.out) (sortG_sort h) (bestG_sort k l)
      have e2 : h.length = (bestG k F).length := by rw [← e1, sortG_len]
      have CL := Lib.hid (tvlist_any tb k.toNat h w3 HT2.out hhl)
      have E1 := Lib.hid e1; have E2 := Lib.hid e2
      clear hpf hhl e1 e2
      go_wp2_with fail
      refine CL.out.mono ?_
      rintro e w8 ⟨v8, rfl, hS8, hown⟩
      rw [E1.out, E2.out] at hown
      have HOW := Lib.hid (own_lo hown HS2.out.size)
      have HF8 := Lib.hid (HS2.out.then hS8)
      clear hown hS8 CL
      go_wp2_with fail
      go_ret
      exact ⟨_, F, rfl, HF8.out, HF.out, HOW.out⟩
    · intro s q0 hq0 w4 cnt4 hwf hlk hgs hr4 hlt4 hO4 hsz4 hen4
      obtain ⟨q, hqe⟩ : ∃ q : QV, q = ⟨q0, hq0⟩ := ⟨_, rfl⟩
      rw [← hqe] at hgs hen4 ⊢
      clear hqe
      have HLT := Lib.hid (And.intro hlt4 HR2.out.left_eq)
      have hrbw : ¬ rb < w.heap.size := by have := HTB.out; have := HZ5.out; omega
      have hS4 := HS2.out.trans hO4 (fun i hi e => by have := HTB.out; have := HZ5.out; omega)
      have hT4 : TvAt w4 tb k.toNat h := by
        obtain ⟨v, t1, t2⟩ := HT2.out
        refine ⟨v, hO4.heap t1 (fun e => by have := HTB.out; omega), own_keep t2 hO4 (fun g hg e => ?_)⟩
        subst e
        rcases t2.2 with ⟨e1, _⟩ | ⟨g, cap, cur, e1, _, hgg, _⟩
        · rw [e1] at hg; cases hg
        · rw [e1] at hg; cases hg
          obtain ⟨es, clock, since, seen, c0, _, _, _, _, hri, _⟩ := HR2.out
          rw [hgg] at hri; cases hri
      unfold ratV at hen4
      have hS5 : Same w4 (w4.alloc (.cells #[.int .i64 q.1.num, .int .i64 q.1.den] 33)) := (Only.refl _ w4).alloc _
      obtain ⟨p0, p1, _, _⟩ := two_facts (blk_new w4 (.cells #[.int .i64 q.1.num, .int .i64 q.1.den] 33))
      have hbx := blk_new w4 (.cells #[.int .i64 q.1.num, .int .i64 q.1.den] 33)
      have hr5 := hr4.alloc (.cells #[.int .i64 q.1.num, .int .i64 q.1.den] 33)
      have HR5 := Lib.hid hr5; have HS5 := Lib.hid (hS4.then hS5); have HT5 := Lib.hid (hT4.same hS5)
      have HST := Lib.hid (cameI_step HC2.out HSF.out hgs hlk); have HGS := Lib.hid hgs
      clear hr4 hO4 hsz4 hS4 hT4 hS5 hr5 HR2 HS2 HT2 hgs hlk hlt4 hwf hrbw
      go_upto_region 9 with fail
      generalize w4.alloc (.cells #[.int .i64 q.1.num, .int .i64 q.1.den] 33) = w5 at *
      obtain ⟨v, hv⟩ := HT5.out
      have HV := Lib.hid (show TvV w5 tb k.toNat v h from hv)
      have co := tvoffer_any tb k v h l (s, q) w5 HV.out HH2.out HP2.out (by have := cameI_len HC2.out HSF.out; have := HLF.out; omega) (by omega)
      unfold vpV at co
      have CO := Lib.hid co
      clear hv hen4 co
      go_wp2_with fail
      refine CO.out.mono ?_
      rintro e w6 ⟨rfl, h', hT6, hh6, hp6, hO6⟩
      have hbw : w.heap.size ≤ tb ∧ z + 1 < tb ∧ tb < rb := ⟨HZ5.out.1, HZ5.out.2, HTB.out⟩
      have hgo : ∀ g, v.ownBlock = some g → tb + 1 ≤ g ∧ g ≠ rb := fun g hg => by
        refine ⟨(HV.out.off g hg).1, fun e => ?_⟩
        subst e
        rcases HV.out.2.2 with ⟨e1, _⟩ | ⟨g, cap, cur, e1, _, hgg, _⟩
        · rw [e1] at hg; cases hg
        · rw [e1] at hg; cases hg
          obtain ⟨es, clock, since, seen, c0, _, _, _, _, hri, _⟩ := HR5.out
          rw [hgg] at hri; cases hri
      have hr6 := ranges_only HR5.out hO6 (fun e => by rcases e with e | e; omega; have := hgo _ e; omega) (fun e => by rcases e with e | e; omega; exact (hgo _ e).2 rfl)
      have hS6 := HS5.out.trans hO6 (S := fun _ => False) (fun i hi e => by rcases e with e | e; omega; have := hgo _ e; omega)
      have HF6 : Hid (Same w w6 ∧ TvAt w6 tb k.toNat h' ∧ HeapG h' ∧ h'.Perm (bestG k (l ++ [(s, q)]))) := Lib.hid ⟨hS6, hT6, hh6, hp6⟩
      have HR6 := Lib.hid hr6
      clear hr6 hS6 hT6 hh6 hp6 hO6 hgo hbw p0 p1 hbx HR5 CO
      go_wp2_with fail
      go_roundw
      case rel => exact ⟨_, cnt4, h', l ++ [(s, q)], HR6.out, HF6.out.1, HF6.out.2.1, HF6.out.2.2.1, HF6.out.2.2.2, HST.out⟩
      case measure => have h1 := HR6.out.left_eq; have h2 := HLT.out; omega
end Go.Proofs.Ytpgbnjneoejebaa
