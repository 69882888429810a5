import Derived.Test.YtjegohibpojneaaDenseAwake
import Derived.Test.YtjegohibpojneaaInts
set_option linter.unusedVariables false
set_option linter.unusedSimpArgs false
namespace Go.Proofs.Ytjegohibpojneaa
open Go.RowKit
attribute [local go_sem ↓] Go.wp_at_zero Go.wp_at_succ

theorem sameS_eq (a b : List Int) (k : Nat) (h1 : k < a.length) (h2 : k < b.length) : sameS a b (k + 1) = (sameS a b k && decide (a[k] = b[k])) := by
  simp only [sameS]
  rw [List.getD_eq_getElem?_getD, List.getD_eq_getElem?_getD, List.getElem?_eq_getElem h1, List.getElem?_eq_getElem h2]
  rfl
set_option maxRecDepth 100000 in
set_option maxHeartbeats 8000000 in
theorem denseMeasures_walk (va : Value) (a : List Int) (vb : Value) (b : List Int) (w : World) (ha : Sl w (.int .i64) va a) (za : ∀ x ∈ a, i64b x) (hb : Sl w (.int .i64) vb b) (zb : ∀ x ∈ b, i64b x) :
    Calls Try.prog 12 #[va, vb] w fun e w' => e = .returned (.bool true) ∧ Same w w' := by
  have HA := Lib.hid ha; have HB := Lib.hid hb; have ZA := Lib.hid za; have ZB := Lib.hid zb
  have CA := Lib.hid (fun w0 (h : Same w w0) => dright_any va a w0 (ha.same h) za)
  have CB := Lib.hid (fun w0 (h : Same w w0) => dright_any vb b w0 (hb.same h) zb)
  obtain ⟨a1, c1, rfl, hc1, hm1, _, _⟩ := ha
  obtain ⟨a2, c2, rfl, hc2, hm2, _, _⟩ := hb
  have HM1 := Lib.hid hm1; have HM2 := Lib.hid hm2
  unfold maxLen at hm1 hm2
  clear za zb
  have CS := Lib.hid (fun (m : Int) w0 (h : Same w w0) => dscore_any m _ _ a b w0 (HA.out.same h) (HB.out.same h) ZA.out ZB.out)
  have CT := Lib.hid (fun (m : Int) w0 (h : Same w w0) => dscore_any m _ _ b a w0 (HB.out.same h) (HA.out.same h) ZB.out ZA.out)
  have CP := Lib.hid (fun (m : Int) w0 (h : Same w w0) => dscore_any m _ _ a a w0 (HA.out.same h) (HA.out.same h) ZA.out ZA.out)
  have CQ := Lib.hid (fun (m : Int) w0 (h : Same w w0) => dscore_any m _ _ b b w0 (HB.out.same h) (HB.out.same h) ZB.out ZB.out)
  by_cases h1 : 20 < a.length
  · have hd : decide ((20 : Int) < (a.length : Int)) = true := decide_eq_true (by omega)
    have hd2 : decide (20 < a.length) = true := decide_eq_true h1
    clear h1
    go_enter Try.func12, Try.ntmps12
    go_wp2_with fail
    refine (vawake_any w).mono ?_
    rintro e w1 ⟨rfl, hS1⟩
    go_wp2_with fail
    go_ret
    exact ⟨rfl, hS1⟩
  have hd : decide ((20 : Int) < (a.length : Int)) = false := decide_eq_false (by omega)
  have hd2 : decide (20 < a.length) = false := decide_eq_false h1
  by_cases h2 : 20 < b.length
  · have hd3 : decide ((20 : Int) < (b.length : Int)) = true := decide_eq_true (by omega)
    have hd4 : decide (20 < b.length) = true := decide_eq_true h2
    clear h1 h2
    go_enter Try.func12, Try.ntmps12
    go_wp2_with fail
    refine (vawake_any w).mono ?_
    rintro e w1 ⟨rfl, hS1⟩
    go_wp2_with fail
    go_ret
    exact ⟨rfl, hS1⟩
  have hd3 : decide ((20 : Int) < (b.length : Int)) = false := decide_eq_false (by omega)
  have hd4 : decide (20 < b.length) = false := decide_eq_false h2
  cases hva : vecB a with
  | false =>
    rw [hva] at CA
    clear h1 h2 hva
    go_enter Try.func12, Try.ntmps12
    go_wp2_with fail
    refine (vawake_any w).mono ?_
    rintro e w1 ⟨rfl, hS1⟩
    go_wp2_with fail
    refine (CA.out _ hS1).mono ?_
    rintro e w2 ⟨rfl, hS2⟩
    go_wp2_with fail
    go_ret
    exact ⟨rfl, hS1.then hS2⟩
  | true =>
  cases hvb : vecB b with
  | false =>
    rw [hva] at CA
    rw [hvb] at CB
    clear h1 h2 hva hvb
    go_enter Try.func12, Try.ntmps12
    go_wp2_with fail
    refine (vawake_any w).mono ?_
    rintro e w1 ⟨rfl, hS1⟩
    go_wp2_with fail
    refine (CA.out _ hS1).mono ?_
    rintro e w2 ⟨rfl, hS2⟩
    go_wp2_with fail
    refine (CB.out _ (hS1.then hS2)).mono ?_
    rintro e w3 ⟨rfl, hS3⟩
    go_wp2_with fail
    go_ret
    exact ⟨rfl, (hS1.then hS2).then hS3⟩
  | true =>
  rw [hva] at CA
  rw [hvb] at CB
  obtain ⟨hla, hra⟩ := vecB_facts hva
  obtain ⟨hlb, hrb⟩ := vecB_facts hvb
  have e0 : scoreP 0 a b = (scS 0 a b 8, 0) := by unfold scoreP; rw [if_neg (by omega), hva, hvb]; rfl
  have e1 : scoreP 0 b a = (scS 0 a b 8, 0) := by unfold scoreP; rw [if_neg (by omega), hva, hvb, sc0_comm b a]; rfl
  have e2 : scoreP 1 a b = (scS 1 a b 8, 0) := by unfold scoreP; rw [if_neg (by omega), hva, hvb]; rfl
  have e3 : scoreP 1 b a = (scS 1 a b 8, 0) := by unfold scoreP; rw [if_neg (by omega), hva, hvb, sc1_comm b a]; rfl
  have e4 : scoreP 0 a a = (scS 0 a a 8, 0) := by unfold scoreP; rw [if_neg (by omega), hva]; rfl
  have e5 : scoreP 0 b b = (scS 0 b b 8, 0) := by unfold scoreP; rw [if_neg (by omega), hvb]; rfl
  have g1 := sc_range 0 a b hra hrb 8
  have g2 := sc_range 1 a b hra hrb 8
  have g3 := sc_range 0 a a hra hra 8
  have g4 := sc_range 0 b b hrb hrb 8
  have t := sc_two a b 8
  obtain ⟨z1, z2⟩ := sc1_zero a b 8
  have HLA := Lib.hid hla; have HLB := Lib.hid hlb
  generalize scS 0 a b 8 = x at *
  generalize scS 1 a b 8 = d at *
  generalize scS 0 a a 8 = p at *
  generalize scS 0 b b 8 = q at *
  have E0 := Lib.hid e0; have E1 := Lib.hid e1; have E2 := Lib.hid e2; have E3 := Lib.hid e3; have E4 := Lib.hid e4; have E5 := Lib.hid e5
  have Z2 := Lib.hid z2
  have hw1 : IntKind.i64.wrap (2 * x) = 2 * x := wrapS (by omega)
  have hw2 : IntKind.i64.wrap (p + q) = p + q := wrapS (by omega)
  have hw3 : IntKind.i64.wrap (p + q + d) = p + q + d := wrapS (by omega)
  have hd5 : decide (d ≤ 0) = true := decide_eq_true z1
  have hq : (2 * x == p + q + d) = true := by simpa using t
  have hda : (d == 0) = decide (d = 0) := by
    rw [Bool.eq_iff_iff]; simp
  have HT := Lib.hid (And.intro t z1)
  clear hva hvb hra hrb e0 e1 e2 e3 e4 e5 g1 g2 g3 g4 t z1 z2 h1 h2 hla hlb
  go_enter Try.func12, Try.ntmps12
  go_wp2_with fail
  refine (vawake_any w).mono ?_
  rintro e w1 ⟨rfl, hS1⟩
  go_wp2_with fail
  refine (CA.out _ hS1).mono ?_
  rintro e w2 ⟨rfl, hS2⟩
  have hS2 := hS1.then hS2
  go_wp2_with fail
  refine (CB.out _ hS2).mono ?_
  rintro e w3 ⟨rfl, hS3⟩
  have hS3 := hS2.then hS3
  clear hS1 hS2
  go_wp2_with fail
  refine (CS.out 0 _ hS3).mono ?_
  rintro e w4 ⟨rfl, hS4⟩
  have hS4 := hS3.then hS4
  rw [E0.out]
  clear hS3
  go_wp2_with fail
  refine (CT.out 0 _ hS4).mono ?_
  rintro e w5 ⟨rfl, hS5⟩
  have hS5 := hS4.then hS5
  rw [E1.out]
  clear hS4
  go_wp2_with fail
  refine (CS.out 1 _ hS5).mono ?_
  rintro e w6 ⟨rfl, hS6⟩
  have hS6 := hS5.then hS6
  rw [E2.out]
  clear hS5
  go_wp2_with fail
  refine (CT.out 1 _ hS6).mono ?_
  rintro e w7 ⟨rfl, hS7⟩
  have hS7 := hS6.then hS7
  rw [E3.out]
  clear hS6
  go_wp2_with fail
  refine (CP.out 0 _ hS7).mono ?_
  rintro e w8 ⟨rfl, hS8⟩
  have hS8 := hS7.then hS8
  rw [E4.out]
  clear hS7
  go_wp2_with fail
  refine (CQ.out 0 _ hS8).mono ?_
  rintro e w9 ⟨rfl, hS9⟩
  have HS9 := Lib.hid (hS8.then hS9)
  rw [E5.out]
  clear hS8 hS9
  go_wp2_with fail
  go_loopw [17, 18] (fun s i wr => ∃ k : Nat, k ≤ 8 ∧ i = .int .i64 k ∧ s = .bool (sameS a b k) ∧ Same w9 wr) (fun _ i _ => 8 - (intOf i).toNat)
  case atStart => exact ⟨0, by omega, rfl, rfl, Only.refl _ _⟩
  case round =>
    obtain ⟨k, hk, rfl, rfl, hS⟩ := hrel
    obtain ⟨wz, hwz⟩ : ∃ x, x = wr := ⟨_, rfl⟩
    subst hwz
    have HS := Lib.hid hS
    clear hS
    by_cases hlt : k < 8
    · have hka : k < a.length := by have := HLA.out; omega
      have hkb : k < b.length := by have := HLB.out; omega
      have hS' := HS9.out.then HS.out
      obtain ⟨b1, o1, rfl, hca⟩ := (HA.out.same hS').spot (by omega)
      obtain ⟨b2, o2, rfl, hcb⟩ := (HB.out.same hS').spot (by omega)
      have k1 := hca k hka
      have k2 := hcb k hkb
      have hse := sameS_eq a b k hka hkb
      generalize a[k] = u at *
      generalize b[k] = v at *
      have HSE := Lib.hid hse
      have hw6 : IntKind.i64.wrap ((k : Int) + 1) = (k : Int) + 1 := wrapS (by omega)
      have hd8 : decide ((k : Int) < 8) = true := decide_eq_true (by omega)
      have hd9 : decide (k < 8) = true := decide_eq_true hlt
      have hal : (k : Int) < (a.length : Int) := by omega
      have hbl : (k : Int) < (b.length : Int) := by omega
      clear hS' hca hcb hse
      cases hsb : sameS a b k with
      | false =>
        have HE : Hid (sameS a b (k + 1) = false) := Lib.hid (by rw [HSE.out, hsb]; rfl)
        clear hsb
        go_upto_region 15 with fail
        go_quiet (fail)
        rename_i nq
        go_wp2_with fail
        go_roundw
        case rel => exact ⟨k + 1, by omega, by go_num, by rw [HE.out], HS.out.drewN nq⟩
        case measure => simp [intOf]; omega
      | true =>
        by_cases huv : u = v
        · have hb : (u == v) = true := by simpa using huv
          have HE : Hid (sameS a b (k + 1) = true) := Lib.hid (by rw [HSE.out, hsb, huv]; simp)
          clear hsb huv
          go_upto_region 15 with fail
          go_quiet (fail)
          rename_i nq
          go_wp2_with fail
          go_roundw
          case rel => exact ⟨k + 1, by omega, by go_num, by rw [HE.out], HS.out.drewN nq⟩
          case measure => simp [intOf]; omega
        · have hb : (u == v) = false := by simpa using huv
          have HE : Hid (sameS a b (k + 1) = false) := Lib.hid (by rw [HSE.out, hsb]; simpa using huv)
          clear hsb huv
          go_upto_region 15 with fail
          go_quiet (fail)
          rename_i nq
          go_wp2_with fail
          go_roundw
          case rel => exact ⟨k + 1, by omega, by go_num, by rw [HE.out], HS.out.drewN nq⟩
          case measure => simp [intOf]; omega
    · obtain rfl : k = 8 := by omega
      have hd8 : decide (((8 : Nat) : Int) < 8) = false := by decide
      cases hsb : sameS a b 8 with
      | false =>
        have hd0 : (d == 0) = false := by
          have := Z2.out
          rw [hsb] at this
          simp at this
          simpa using this
        clear hsb hda
        go_wp2_with fail
        go_ret
        exact ⟨rfl, HS9.out.then HS.out⟩
      | true =>
        have hd0 : (d == 0) = true := by
          have := Z2.out
          rw [hsb] at this
          simp at this
          simpa using this
        clear hsb hda
        go_wp2_with fail
        go_ret
        exact ⟨rfl, HS9.out.then HS.out⟩
end Go.Proofs.Ytjegohibpojneaa
