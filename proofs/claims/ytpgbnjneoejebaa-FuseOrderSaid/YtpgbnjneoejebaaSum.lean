import Derived.Test.YtpgbnjneoejebaaBoth
import Derived.Test.YtpgbnjneoejebaaRatC
set_option linter.unusedVariables false
set_option linter.unusedSimpArgs false
namespace Go.Proofs.Ytpgbnjneoejebaa
open Go.RowKit

def bM (X : Nat) (xm : Bool) (Y : Nat) (ym : Bool) : Nat := if xm = ym then X + Y else if X < Y then Y - X else X - Y
def bS (X : Nat) (xm : Bool) (Y : Nat) (ym : Bool) : Bool := if xm = ym then xm else if X < Y then ym else xm
theorem both_any (X Y : Nat) (xm ym : Bool) (w : World) (h : X + Y < 18446744073709551616 * 18446744073709551616) :
    Calls Try.prog 90 #[prodV X, .bool xm, prodV Y, .bool ym] w fun e w' => e = .returned (.tuple #[prodV (bM X xm Y ym), .bool (bS X xm Y ym), .bool true]) ∧ Same w w' := by
  unfold bM bS
  by_cases hs : xm = ym
  · subst hs
    rw [if_pos rfl, if_pos rfl]
    exact both_same X Y xm w h
  · obtain rfl : ym = !xm := by cases xm <;> cases ym <;> simp_all
    rw [if_neg hs, if_neg hs]
    exact both_diff X Y xm w (by omega) (by omega)
theorem bM_le (X Y : Nat) (xm ym : Bool) : bM X xm Y ym ≤ X + Y := by unfold bM; split; omega; split <;> omega
/-- The two rationals and the answer's place. -/
def Kp (w W : World) (an bn : Int) (d f : Nat) : Prop := Same w W ∧ W.heap[w.heap.size]? = some (.cells #[.int .i64 an, .int .i64 d] 33 (0, 0)) ∧ W.heap[w.heap.size + 1]? = some (.cells #[.int .i64 bn, .int .i64 f] 33 (0, 0)) ∧ W.heap[w.heap.size + 2]? = some (.cells #[.int .i64 0, .int .i64 0] 33 (0, 0))
theorem Kp.only {S : Nat → Prop} {w W W' : World} {an bn : Int} {d f : Nat} (h : Kp w W an bn d f) (ho : Only S W W') (hS : ∀ k, S k → w.heap.size + 3 ≤ k) : Kp w W' an bn d f :=
  ⟨h.1.trans ho (fun k hk hs => by have := hS k hs; omega), ho.heap h.2.1 (fun hs => by have := hS _ hs; omega), ho.heap h.2.2.1 (fun hs => by have := hS _ hs; omega), ho.heap h.2.2.2 (fun hs => by have := hS _ hs; omega)⟩
theorem Kp.same {w W W' : World} {an bn : Int} {d f : Nat} (h : Kp w W an bn d f) (ho : Same W W') : Kp w W' an bn d f := h.only ho (fun _ h => h.elim)
theorem Kp.size {w W : World} {an bn : Int} {d f : Nat} (h : Kp w W an bn d f) : w.heap.size + 3 ≤ W.heap.size := by have := heap_lt h.2.2.2; omega
abbrev pc (n : Nat) : Obj := .cells #[.int .u64 ((n / 18446744073709551616 : Nat) : Int), .int .u64 ((n % 18446744073709551616 : Nat) : Int)] 132 (0, 0)

def sumM (an ad bn bd : Int) : Nat := bM (an.natAbs * (bd.natAbs / Nat.gcd ad.natAbs bd.natAbs)) (decide (an < 0)) (bn.natAbs * (ad.natAbs / Nat.gcd ad.natAbs bd.natAbs)) (decide (bn < 0))
def sumB (an ad bn bd : Int) : Bool := bS (an.natAbs * (bd.natAbs / Nat.gcd ad.natAbs bd.natAbs)) (decide (an < 0)) (bn.natAbs * (ad.natAbs / Nat.gcd ad.natAbs bd.natAbs)) (decide (bn < 0))
def sumG (an ad bn bd : Int) : Nat := Nat.gcd (Nat.gcd ad.natAbs bd.natAbs) (sumM an ad bn bd % Nat.gcd ad.natAbs bd.natAbs)
def sumE (an ad bn bd : Int) : Nat := ad.natAbs / Nat.gcd ad.natAbs bd.natAbs * (bd.natAbs / sumG an ad bn bd)
def sumZ (an ad bn bd : Int) : Int := sg (sumB an ad bn bd) (sumM an ad bn bd / sumG an ad bn bd)
def sumV (an ad bn bd : Int) : Value :=
  if sumM an ad bn bd = 0 then .tuple #[rat 0 1, .int .i64 0]
  else if fits (sumZ an ad bn bd) ∧ sumE an ad bn bd < 9223372036854775808 then .tuple #[rat (sumZ an ad bn bd) (sumE an ad bn bd), .int .i64 0]
  else .tuple #[rat 0 0, .int .i64 1]

set_option maxRecDepth 100000 in
set_option maxHeartbeats 4000000 in
theorem sum_go (an ad bn bd : Int) (w : World) (ha : i64in an) (hd : i64in ad) (hb : i64in bn) (hbd : i64in bd) (h1 : RatOk an ad) (h2 : RatOk bn bd) :
    Calls Try.prog 64 #[rat an ad, rat bn bd] w fun e w' => e = .returned (sumV an ad bn bd) ∧ Same w w' := by
  obtain ⟨res, hres⟩ : ∃ res, res = sumV an ad bn bd := ⟨_, rfl⟩
  rw [← hres]
  obtain ⟨d, rfl⟩ := Int.eq_ofNat_of_zero_le (show 0 ≤ ad by have := h1.1; omega)
  obtain ⟨f, rfl⟩ := Int.eq_ofNat_of_zero_le (show 0 ≤ bd by have := h2.1; omega)
  have hd63 : d < 9223372036854775808 := by have := hd.2; omega
  have hf63 : f < 9223372036854775808 := by have := hbd.2; omega
  have hd0 : 0 < d := by have := h1.1; omega
  have hf0 : 0 < f := by have := h2.1; omega
  have u1 := wu64 d (by omega)
  have u2 := wu64 f (by omega)
  have c1 := fun w0 => right_any an d w0 ha hd
  have c2 := fun w0 => right_any bn f w0 hb hbd
  rw [decide_eq_true h1] at c1
  rw [decide_eq_true h2] at c2
  have c3 := fun w0 => size_any an w0 ha
  have c4 := fun w0 => size_any bn w0 hb
  have a63 := abs64 an ha
  have b63 := abs64 bn hb
  unfold sumV sumZ sumE sumG sumM sumB at hres
  simp only [Int.natAbs_natCast] at hres
  have cg := fun w0 => divisor_any d f w0 (by omega) (by omega)
  have hgp : 0 < Nat.gcd d f := Nat.gcd_pos_of_pos_left _ hd0
  have hgd : Nat.gcd d f ≤ d := Nat.gcd_le_left _ hd0
  generalize Nat.gcd d f = g at *
  have hqf : f / g ≤ f := Nat.div_le_self _ _
  have hqd : d / g ≤ d := Nat.div_le_self _ _
  have c5 := fun w0 => wide_any an.natAbs (f / g) (by omega) (by omega) w0
  have c6 := fun w0 => wide_any bn.natAbs (d / g) (by omega) (by omega) w0
  have hX : an.natAbs * (f / g) ≤ 9223372036854775808 * 9223372036854775808 := Nat.mul_le_mul a63 (by omega)
  have hY : bn.natAbs * (d / g) ≤ 9223372036854775808 * 9223372036854775808 := Nat.mul_le_mul b63 (by omega)
  have e1 : (f : Int) / (g : Int) = ((f / g : Nat) : Int) := by simp
  have e2 : (d : Int) / (g : Int) = ((d / g : Nat) : Int) := by simp
  have hgn : (g : Int) ≠ 0 := by omega
  generalize hqfe : f / g = qf at *
  generalize hqde : d / g = qd at *
  have v1 := wu64 qf (by omega)
  have v2 := wu64 qd (by omega)
  generalize an.natAbs * qf = X at *
  generalize bn.natAbs * qd = Y at *
  have hXY : X + Y < 18446744073709551616 * 18446744073709551616 := by omega
  have cb := fun w0 => both_any X Y (decide (an < 0)) (decide (bn < 0)) w0 hXY
  have hM := bM_le X Y (decide (an < 0)) (decide (bn < 0))
  generalize bM X (decide (an < 0)) Y (decide (bn < 0)) = M at *
  generalize bS X (decide (an < 0)) Y (decide (bn < 0)) = S at *
  have hM128 : M < 18446744073709551616 * 18446744073709551616 := by omega
  have co := fun w0 => over_any M g w0 hgp (by omega) hM128
  have hrest : M % g < g := Nat.mod_lt _ hgp
  have ck := fun w0 => divisor_any g (M % g) w0 (by omega) (by omega)
  have hkp : 0 < Nat.gcd g (M % g) := Nat.gcd_pos_of_pos_left _ hgp
  have hkg : Nat.gcd g (M % g) ≤ g := Nat.gcd_le_left _ hgp
  generalize Nat.gcd g (M % g) = k at *
  generalize M % g = rs at *
  have cp := fun w0 => over_any M k w0 hkp (by omega) hM128
  have e3 : (f : Int) / (k : Int) = ((f / k : Nat) : Int) := by simp
  have hkn : (k : Int) ≠ 0 := by omega
  have hqk : f / k ≤ f := Nat.div_le_self _ _
  have c7 := fun w0 => wide_any qd (f / k) (by omega) (by omega) w0
  generalize f / k = qk at *
  have v3 := wu64 qk (by omega)
  have hE : qd * qk ≤ 9223372036854775808 * 9223372036854775808 := Nat.mul_le_mul (by omega) (by omega)
  generalize qd * qk = E at *
  have hT : M / k ≤ M := Nat.div_le_self _ _
  generalize M / k = T at *
  have cs := fun w0 => signed_any (T % 18446744073709551616) S w0 (by omega)
  have hgN : ¬ g = 0 := by omega
  have hkN : ¬ k = 0 := by omega
  unfold prodV at cb co cp
  have hWM : M = M / 18446744073709551616 * 18446744073709551616 + M % 18446744073709551616 := by omega
  have hWT : T = T / 18446744073709551616 * 18446744073709551616 + T % 18446744073709551616 := by omega
  have hWE : E = E / 18446744073709551616 * 18446744073709551616 + E % 18446744073709551616 := by omega
  have hTl : T % 18446744073709551616 < 18446744073709551616 := by omega
  generalize X / 18446744073709551616 = xh at *
  generalize X % 18446744073709551616 = xl at *
  generalize Y / 18446744073709551616 = yh at *
  generalize Y % 18446744073709551616 = yl at *
  generalize M / 18446744073709551616 = mh at *
  generalize M % 18446744073709551616 = ml at *
  generalize T / 18446744073709551616 = th at *
  generalize T % 18446744073709551616 = tl at *
  generalize E / 18446744073709551616 = eh at *
  generalize E % 18446744073709551616 = el at *
  generalize M / g / 18446744073709551616 = z1 at *
  generalize M / g % 18446744073709551616 = z2 at *
  have HWM := Lib.hid hWM; have HWT := Lib.hid hWT; have HWE := Lib.hid hWE; have HTL := Lib.hid hTl
  have CR1 := Lib.hid c1; have CR2 := Lib.hid c2; have C3 := Lib.hid c3; have C4 := Lib.hid c4; have C5 := Lib.hid c5; have C6 := Lib.hid c6; have C7 := Lib.hid c7
  have CG := Lib.hid cg; have CB := Lib.hid cb; have CO := Lib.hid co; have CK := Lib.hid ck; have CP := Lib.hid cp; have CS := Lib.hid cs; have HRES := Lib.hid hres
  have HT : Hid (T < 18446744073709551616 * 18446744073709551616) := Lib.hid (by omega)
  have HE : Hid (E < 18446744073709551616 * 18446744073709551616) := Lib.hid (by omega)
  have hb3 := blk3 w (.cells #[.int .i64 an, .int .i64 d] 33) (.cells #[.int .i64 bn, .int .i64 f] 33) (.cells #[.int .i64 0, .int .i64 0] 33)
  obtain ⟨W0, hW0⟩ : ∃ W0, W0 = ((w.alloc (.cells #[.int .i64 an, .int .i64 d] 33)).alloc (.cells #[.int .i64 bn, .int .i64 f] 33)).alloc (.cells #[.int .i64 0, .int .i64 0] 33) := ⟨_, rfl⟩
  have hK0 : Kp w W0 an bn d f := ⟨by rw [hW0]; exact (((Only.refl _ w).alloc _).alloc _).alloc _, by rw [hW0]; exact hb3.1, by rw [hW0]; exact hb3.2.1, by rw [hW0]; exact hb3.2.2⟩
  have HK0 := Lib.hid hK0
  clear hWM hWT hWE hTl c1 c2 c3 c4 c5 c6 c7 cg cb co ck cp cs hres hb3 hK0 a63 b63 hX hY hXY hM hM128 hrest hkp hkg hgp hgd hqf hqd hqk hE hT hd63 hf63 hd0 hf0 h1 h2 hqfe hqde
  go_enter Try.func64, Try.ntmps64
  go_upto_region 1 with fail
  rw [← hW0]
  clear hW0
  obtain ⟨k0, k1, _, _⟩ := pair_facts2 HK0.out.2.1
  obtain ⟨l0, l1, _, _⟩ := pair_facts2 HK0.out.2.2.1
  go_wp2_with fail
  refine (CR1.out _).mono ?_
  rintro e w2 ⟨rfl, hS2⟩
  have n0 := hS2.cell_eq l0 (fun h => h)
  have n1 := hS2.cell_eq l1 (fun h => h)
  go_wp2_with fail
  refine (CR2.out _).mono ?_
  rintro e w3 ⟨rfl, hS3⟩
  go_upto_region 3 with fail
  have HK3 : Hid (Kp w w3 an bn d f) := Lib.hid ((HK0.out.same hS2).same hS3)
  clear k0 k1 l0 l1 n0 n1 hS2 hS3 HK0
  obtain ⟨m0, m1, _, _⟩ := pair_facts2 HK3.out.2.1
  obtain ⟨n0, n1, _, _⟩ := pair_facts2 HK3.out.2.2.1
  go_cut [6] from 20 (fun s6 wx => s6 = .int .u64 (g : Nat) ∧ Kp w wx an bn d f)
  case first =>
    go_wp2_with (go_at_call 36; refine (CG.out _).mono ?_; rintro e w4 ⟨rfl, hS4⟩)
    go_meet
    case rel => exact ⟨rfl, HK3.out.same hS4⟩
  case rest =>
  obtain ⟨rfl, hK4⟩ := hcut
  obtain ⟨W4, hW4⟩ : ∃ x, x = wc := ⟨_, rfl⟩
  subst hW4
  have HK4 := Lib.hid hK4
  clear hK4 m0 m1 n0 n1 HK3
  have hz4 := HK4.out.size
  go_upto_region 5 with fail
  have hb5 := blk2' W4 (.cells #[.int .u64 0, .int .u64 0] 132) (.cells #[.int .u64 0, .int .u64 0] 132)
  obtain ⟨W5, hW5⟩ : ∃ W5, W5 = (W4.alloc (.cells #[.int .u64 0, .int .u64 0] 132)).alloc (.cells #[.int .u64 0, .int .u64 0] 132) := ⟨_, rfl⟩
  have hK5 : Kp w W5 an bn d f := HK4.out.same (by rw [hW5]; exact ((Only.refl _ W4).alloc _).alloc _)
  rw [← hW5] at hb5 ⊢
  have HK5 := Lib.hid hK5; have HB5 := Lib.hid hb5
  have hS : ∀ w', Only (· = W4.heap.size) W5 w' → (Only (· = W4.heap.size) W5 w' ∧ w'.cell? ⟨w.heap.size, 0, none⟩ = some (.int .i64 an) ∧ w'.cell? ⟨w.heap.size + 1, 1, none⟩ = some (.int .i64 f)) := fun w' h => by
    have hk := hK5.only h (fun k e => by omega)
    exact ⟨h, (pair_facts2 hk.2.1).1, (pair_facts2 hk.2.2.1).2.1⟩
  have HS := Lib.hid hS
  obtain ⟨x0, x1, x2, x3⟩ := pair_facts2 hb5.1
  clear hS hb5 hK5 hW5
  go_cut [] from 20 (fun wx => Kp w wx an bn d f ∧ wx.heap[W4.heap.size]? = some (.cells #[.int .u64 xh, .int .u64 xl] 132 (0, 0)) ∧ wx.heap[W4.heap.size + 1]? = some (.cells #[.int .u64 0, .int .u64 0] 132 (0, 0)))
  case first =>
    have q0 : Only (· = W4.heap.size) W5 W5 := Only.refl _ _
    go_region_held3 (fun w' => Only (· = W4.heap.size) W5 w' ∧ w'.cell? ⟨w.heap.size, 0, none⟩ = some (.int .i64 an) ∧ w'.cell? ⟨w.heap.size + 1, 1, none⟩ = some (.int .i64 f))
      (first | exact HS.out _ q0 | exact HS.out _ q0.drew | exact HS.out _ (q0.setCell (fun _ => rfl) _) | exact HS.out _ (q0.drew.setCell (fun _ => rfl) _) | exact HS.out _ (q0.put2 (fun _ => rfl) _ _) | exact HS.out _ (q0.drew.put2 (fun _ => rfl) _ _))
      (first
        | (go_at_call 37; refine (C3.out _).mono ?_; rintro e w6 ⟨rfl, rfl⟩)
        | (go_at_call 69; refine (C5.out _).mono ?_; rintro e w7 ⟨rfl, rfl⟩))
    go_wp2_with fail
    go_meet
    case rel =>
      have hO : Only (· = W4.heap.size) W5 ((W5.setCell ⟨W4.heap.size, 0, none⟩ (.int .u64 xh)).setCell ⟨W4.heap.size, 1, none⟩ (.int .u64 xl)) := q0.put2 (fun _ => rfl) _ _
      exact ⟨HK5.out.only hO.drew (fun k e => by omega), pair_set2 HB5.out.1 _ _, hO.heap HB5.out.2 (by omega)⟩
  case rest =>
  obtain ⟨hK6, hX6, hY6⟩ := hcut
  obtain ⟨W6, hW6⟩ : ∃ x, x = wc := ⟨_, rfl⟩
  subst hW6
  have HK6 := Lib.hid hK6; have HX6 := Lib.hid hX6; have HY6 := Lib.hid hY6
  have hS : ∀ w', Only (· = W4.heap.size + 1) W6 w' → (Only (· = W4.heap.size + 1) W6 w' ∧ w'.cell? ⟨w.heap.size + 1, 0, none⟩ = some (.int .i64 bn) ∧ w'.cell? ⟨w.heap.size, 1, none⟩ = some (.int .i64 d)) := fun w' h => by
    have hk := hK6.only h (fun k e => by omega)
    exact ⟨h, (pair_facts2 hk.2.2.1).1, (pair_facts2 hk.2.1).2.1⟩
  clear HS
  have HS := Lib.hid hS
  clear x0 x1 x2 x3
  obtain ⟨x0, x1, x2, x3⟩ := pair_facts2 hY6
  clear hS hK6 hX6 hY6
  go_upto_region 6 with fail
  go_cut [] from 20 (fun wx => Kp w wx an bn d f ∧ wx.heap[W4.heap.size]? = some (.cells #[.int .u64 xh, .int .u64 xl] 132 (0, 0)) ∧ wx.heap[W4.heap.size + 1]? = some (.cells #[.int .u64 yh, .int .u64 yl] 132 (0, 0)))
  case first =>
    have q0 : Only (· = W4.heap.size + 1) W6 W6 := Only.refl _ _
    go_region_held3 (fun w' => Only (· = W4.heap.size + 1) W6 w' ∧ w'.cell? ⟨w.heap.size + 1, 0, none⟩ = some (.int .i64 bn) ∧ w'.cell? ⟨w.heap.size, 1, none⟩ = some (.int .i64 d))
      (first | exact HS.out _ q0 | exact HS.out _ q0.drew | exact HS.out _ (q0.setCell (fun _ => rfl) _) | exact HS.out _ (q0.drew.setCell (fun _ => rfl) _) | exact HS.out _ (q0.put2 (fun _ => rfl) _ _) | exact HS.out _ (q0.drew.put2 (fun _ => rfl) _ _))
      (first
        | (go_at_call 37; refine (C4.out _).mono ?_; rintro e w6 ⟨rfl, rfl⟩)
        | (go_at_call 69; refine (C6.out _).mono ?_; rintro e w7 ⟨rfl, rfl⟩))
    go_wp2_with fail
    go_meet
    case rel =>
      have hO : Only (· = W4.heap.size + 1) W6 ((W6.setCell ⟨W4.heap.size + 1, 0, none⟩ (.int .u64 yh)).setCell ⟨W4.heap.size + 1, 1, none⟩ (.int .u64 yl)) := q0.put2 (fun _ => rfl) _ _
      exact ⟨HK6.out.only hO.drew (fun k e => by omega), hO.heap HX6.out (by omega), pair_set2 HY6.out _ _⟩
  case rest =>
  obtain ⟨hK7, hX7, hY7⟩ := hcut
  have HK7 := Lib.hid hK7
  clear x0 x1 x2 x3 HS
  obtain ⟨x0, x1, _, _⟩ := pair_facts2 hX7
  obtain ⟨y0, y1, _, _⟩ := pair_facts2 hY7
  obtain ⟨m0, _, _, _⟩ := pair_facts2 hK7.2.1
  obtain ⟨n0, _, _, _⟩ := pair_facts2 hK7.2.2.1
  clear hK7 hX7 hY7 HX6 HY6 HB5 HK5 HK6 C3 C4 C5 C6
  go_upto_region 7 with fail
  go_cut [9, 10] from 20 (fun s9 s10 wx => ∃ gn, s9 = .pointer (some ⟨gn, 0, none⟩) ∧ s10 = .bool S ∧ w.heap.size + 3 ≤ gn ∧ Kp w wx an bn d f ∧ wx.heap[gn]? = some (.cells #[.int .u64 mh, .int .u64 ml] 132 (0, 0)))
  case first =>
    go_wp2_with (go_at_call 90; refine (CB.out _).mono ?_; rintro e w8 ⟨rfl, hS8⟩)
    go_meet
    case rel => exact ⟨w8.heap.size, rfl, rfl, (HK7.out.same hS8).size, (HK7.out.same hS8).same ((Only.refl _ w8).alloc _), blk_new _ _⟩
  case rest =>
  obtain ⟨gn, rfl, rfl, hgn8, hK8, hN8⟩ := hcut
  have HK8 := Lib.hid hK8; have HN8 := Lib.hid hN8; have HGN := Lib.hid hgn8
  obtain ⟨p0, p1, _, _⟩ := pair_facts2 hN8
  clear hK8 hN8 x0 x1 y0 y1 m0 n0 CB HK7
  go_upto_region 8 with fail
  go_cut [13] from 20 (fun s13 wx => s13 = .int .u64 (rs : Nat) ∧ Kp w wx an bn d f ∧ wx.heap[gn]? = some (.cells #[.int .u64 mh, .int .u64 ml] 132 (0, 0)))
  case first =>
    go_wp2_with (go_at_call 91; refine (CO.out _).mono ?_; rintro e w9 ⟨rfl, hS9⟩)
    go_meet
    case rel => exact ⟨rfl, (HK8.out.same hS9).same ((Only.refl _ w9).alloc _), (hS9.then ((Only.refl _ w9).alloc _)).heap HN8.out (fun h => h)⟩
  case rest =>
  obtain ⟨rfl, hK9, hN9⟩ := hcut
  have HK9 := Lib.hid hK9; have HN9 := Lib.hid hN9
  clear hK9 hN9 p0 p1 CO HK8 HN8
  go_upto_region 9 with fail
  go_cut [14] from 20 (fun s14 wx => s14 = .int .u64 (k : Nat) ∧ Kp w wx an bn d f ∧ wx.heap[gn]? = some (.cells #[.int .u64 mh, .int .u64 ml] 132 (0, 0)))
  case first =>
    go_wp2_with (go_at_call 36; refine (CK.out _).mono ?_; rintro e w9 ⟨rfl, hS9⟩)
    go_meet
    case rel => exact ⟨rfl, HK9.out.same hS9, hS9.heap HN9.out (fun h => h)⟩
  case rest =>
  obtain ⟨rfl, hK10, hN10⟩ := hcut
  have HK10 := Lib.hid hK10; have HN10 := Lib.hid hN10
  obtain ⟨p0, p1, _, _⟩ := pair_facts2 hN10
  obtain ⟨r0, r1, r2, r3⟩ := pair_facts2 hK10.2.2.2
  clear hK10 hN10 CK HK9 HN9 CG
  obtain ⟨W10, hW10⟩ : ∃ x, x = wc := ⟨_, rfl⟩
  subst hW10
  go_upto_region 10 with fail
  go_cut [88] from 20 (fun s88 wx => wx = W10 ∧ s88 = .bool (decide (M = 0)))
  case first =>
    have hwm := HWM.out
    by_cases ca : mh = 0
    · by_cases cc : ml = 0
      · have hM : decide (M = 0) = true := decide_eq_true (by omega)
        have HM := Lib.hid hM
        have i1 : (mh : Int) = 0 := by omega
        have i2 : (ml : Int) = 0 := by omega
        clear hM hwm ca cc
        go_wp2
        go_meet
        case rel => exact ⟨rfl, by rw [HM.out]⟩
      · have hM : decide (M = 0) = false := decide_eq_false (by omega)
        have HM := Lib.hid hM
        have i1 : (mh : Int) = 0 := by omega
        have i2 : ((ml : Int) == 0) = false := by simp; omega
        clear hM hwm ca
        go_wp2
        go_meet
        case rel => exact ⟨rfl, by rw [HM.out]⟩
    · have hM : decide (M = 0) = false := decide_eq_false (by omega)
      have HM := Lib.hid hM
      have i1 : ((mh : Int) == 0) = false := by simp; omega
      clear hM hwm
      go_wp2
      go_meet
      case rel => exact ⟨rfl, by rw [HM.out]⟩
  case rest =>
  obtain ⟨hw, rfl⟩ := hcut
  rw [hw]
  clear hw
  by_cases hM0 : M = 0
  · have hr : res = .tuple #[rat 0 1, .int .i64 0] := by rw [HRES.out, if_pos hM0]
    have HR := Lib.hid hr
    rw [decide_eq_true hM0]
    clear hr hM0 HRES
    go_upto_region 11 with fail
    go_cut [5] from 20 (fun s5 wx => s5 = .int .i64 0 ∧ Same w wx ∧ wx.heap[w.heap.size + 2]? = some (.cells #[.int .i64 0, .int .i64 1] 33 (0, 0)))
    case first =>
      go_wp2_with fail
      go_meet
      case rel => exact ⟨rfl, HK10.out.1.put2 (fun h => by omega) _ _, pair_set2 HK10.out.2.2.2 _ _⟩
    case rest =>
      obtain ⟨rfl, hSz, hRz⟩ := hcut
      have HSz := Lib.hid hSz
      have HRz := Lib.hid hRz
      clear hSz hRz
      go_step
      go_step
      (try simp only [Exit.inBlock, Exit.then])
      refine bodyPost_ret (results_ct2 rfl _ _ _ _ _ _ _ rfl HRz.out Try.underlying33 rfl (by kernel_rfl)) rfl ?_
      rw [HR.out]
      exact ⟨rfl, HSz.out⟩
  rw [decide_eq_false hM0]
  have HM0 := Lib.hid hM0
  clear hM0
  go_upto_region 12 with fail
  go_cut [15] from 20 (fun s15 wx => ∃ gt, s15 = .pointer (some ⟨gt, 0, none⟩) ∧ w.heap.size + 3 ≤ gt ∧ Kp w wx an bn d f ∧ wx.heap[gt]? = some (.cells #[.int .u64 th, .int .u64 tl] 132 (0, 0)))
  case first =>
    go_wp2_with (go_at_call 91; refine (CP.out _).mono ?_; rintro e w9 ⟨rfl, hS9⟩)
    go_meet
    case rel => exact ⟨w9.heap.size, rfl, (HK10.out.same hS9).size, (HK10.out.same hS9).same ((Only.refl _ w9).alloc _), blk_new _ _⟩
  case rest =>
  obtain ⟨gt, rfl, hgt, hK12, hT12⟩ := hcut
  obtain ⟨W12, hW12⟩ : ∃ x, x = wc := ⟨_, rfl⟩
  subst hW12
  have HK12 := Lib.hid hK12; have HT12 := Lib.hid hT12
  clear hK12 hT12 p0 p1 r0 r1 r2 r3 CP HK10 HN10
  go_upto_region 14 with fail
  obtain ⟨W13, hW13⟩ : ∃ W13, W13 = W12.alloc (.cells #[.int .u64 0, .int .u64 0] 132) := ⟨_, rfl⟩
  have hK13 : Kp w W13 an bn d f := HK12.out.same (by rw [hW13]; exact (Only.refl _ W12).alloc _)
  have hT13 : W13.heap[gt]? = some (.cells #[.int .u64 th, .int .u64 tl] 132 (0, 0)) := by rw [hW13]; exact blk_old _ HT12.out
  have hD13 : W13.heap[W12.heap.size]? = some (.cells #[.int .u64 0, .int .u64 0] 132 (0, 0)) := by rw [hW13]; exact blk_new _ _
  have hgtD : gt < W12.heap.size := heap_lt HT12.out
  have hz12 := HK12.out.size
  rw [← hW13]
  have HK13 := Lib.hid hK13; have HT13 := Lib.hid hT13; have HD13 := Lib.hid hD13
  have hS : ∀ w', Only (· = W12.heap.size) W13 w' → (Only (· = W12.heap.size) W13 w' ∧ w'.cell? ⟨w.heap.size, 1, none⟩ = some (.int .i64 d) ∧ w'.cell? ⟨w.heap.size + 1, 1, none⟩ = some (.int .i64 f)) := fun w' h => by
    have hk := hK13.only h (fun k e => by omega)
    exact ⟨h, (pair_facts2 hk.2.1).2.1, (pair_facts2 hk.2.2.1).2.1⟩
  have HS := Lib.hid hS
  obtain ⟨x0, x1, x2, x3⟩ := pair_facts2 hD13
  clear hS hK13 hT13 hD13 hW13
  go_cut [] from 20 (fun wx => Kp w wx an bn d f ∧ wx.heap[gt]? = some (.cells #[.int .u64 th, .int .u64 tl] 132 (0, 0)) ∧ wx.heap[W12.heap.size]? = some (.cells #[.int .u64 eh, .int .u64 el] 132 (0, 0)))
  case first =>
    have q0 : Only (· = W12.heap.size) W13 W13 := Only.refl _ _
    go_region_held3 (fun w' => Only (· = W12.heap.size) W13 w' ∧ w'.cell? ⟨w.heap.size, 1, none⟩ = some (.int .i64 d) ∧ w'.cell? ⟨w.heap.size + 1, 1, none⟩ = some (.int .i64 f))
      (first | exact HS.out _ q0 | exact HS.out _ q0.drew | exact HS.out _ (q0.setCell (fun _ => rfl) _) | exact HS.out _ (q0.drew.setCell (fun _ => rfl) _) | exact HS.out _ (q0.put2 (fun _ => rfl) _ _) | exact HS.out _ (q0.drew.put2 (fun _ => rfl) _ _))
      (first
        | (go_at_call 69; refine (C7.out _).mono ?_; rintro e w7 ⟨rfl, rfl⟩))
    go_wp2_with fail
    go_meet
    case rel =>
      have hO : Only (· = W12.heap.size) W13 ((W13.setCell ⟨W12.heap.size, 0, none⟩ (.int .u64 eh)).setCell ⟨W12.heap.size, 1, none⟩ (.int .u64 el)) := q0.put2 (fun _ => rfl) _ _
      exact ⟨HK13.out.only hO.drew (fun k e => by omega), hO.heap HT13.out (by omega), pair_set2 HD13.out _ _⟩
  case rest =>
  obtain ⟨hK14, hT14, hD14⟩ := hcut
  obtain ⟨W14, hW14⟩ : ∃ x, x = wc := ⟨_, rfl⟩
  subst hW14
  have HK14 := Lib.hid hK14
  clear x0 x1 x2 x3 HS HK13 HT13 HD13 HK12 HT12 C7
  obtain ⟨x0, x1, _, _⟩ := pair_facts2 hT14
  obtain ⟨y0, y1, _, _⟩ := pair_facts2 hD14
  obtain ⟨r0, r1, r2, r3⟩ := pair_facts2 hK14.2.2.2
  clear hK14 hT14 hD14
  go_upto_region 15 with fail
  go_cut [18, 19] from 20 (fun s18 s19 wx => wx = W14 ∧ s18 = .int .i64 (backI (sg S tl)) ∧ s19 = .bool (decide (fits (sg S tl))))
  case first =>
    go_wp2_with (go_at_call 68; refine (CS.out _).mono ?_; rintro e w9 ⟨rfl, rfl⟩)
    go_meet
    case rel => exact ⟨rfl, rfl, rfl⟩
  case rest =>
  obtain ⟨hw, rfl, rfl⟩ := hcut
  rw [hw]
  clear hw CS
  have herr : (¬ (fits (sg S T) ∧ E < 9223372036854775808)) → res = .tuple #[rat 0 0, .int .i64 1] := fun h => by rw [HRES.out, if_neg HM0.out, if_neg h]
  have HERR := Lib.hid herr
  clear herr
  by_cases hth : th = 0
  · have hTt : T = tl := by have := HWT.out; omega
    by_cases hf : fits (sg S tl)
    · by_cases heh : eh = 0
      · have hEe : E = el := by have := HWE.out; omega
        by_cases hel : el < 9223372036854775808
        · have hr : res = .tuple #[rat (sg S tl) el, .int .i64 0] := by
            rw [HRES.out, if_neg HM0.out, hTt, hEe, if_pos ⟨hf, hel⟩]
          have HR := Lib.hid hr
          have hbk : backI (sg S tl) = sg S tl := by unfold backI; rw [if_pos hf]
          have hdf := decide_eq_true hf
          have i1 : (th : Int) = 0 := by omega
          have i2 : (eh : Int) = 0 := by omega
          have i3 : decide ((9223372036854775808 : Int) ≤ (el : Int)) = false := decide_eq_false (by omega)
          have i4 := wi64 el hel
          have i5 := ww64 el hel
          clear hr hf hTt hEe hth heh hel HRES HERR
          generalize sg S tl = z at *
          go_upto_region 18 with fail
          go_cut [5] from 20 (fun s5 wx => s5 = .int .i64 0 ∧ Same w wx ∧ wx.heap[w.heap.size + 2]? = some (.cells #[.int .i64 z, .int .i64 el] 33 (0, 0)))
          case first =>
            go_wp2_with fail
            go_meet
            case rel => exact ⟨rfl, HK14.out.1.put2 (fun h => by omega) _ _, pair_set2 HK14.out.2.2.2 _ _⟩
          case rest =>
            obtain ⟨rfl, hSz, hRz⟩ := hcut
            have HSz := Lib.hid hSz
            have HRz := Lib.hid hRz
            clear hSz hRz
            go_step
            go_step
            (try simp only [Exit.inBlock, Exit.then])
            refine bodyPost_ret (results_ct2 rfl _ _ _ _ _ _ _ rfl HRz.out Try.underlying33 rfl (by kernel_rfl)) rfl ?_
            rw [HR.out]
            exact ⟨rfl, HSz.out⟩
        · have hr := HERR.out (fun h => by omega)
          have HR := Lib.hid hr
          have hdf := decide_eq_true hf
          have i1 : (th : Int) = 0 := by omega
          have i2 : (eh : Int) = 0 := by omega
          have i3 : decide ((9223372036854775808 : Int) ≤ (el : Int)) = true := decide_eq_true (by omega)
          clear hr hf hTt hEe hth heh hel HRES HERR
          generalize sg S tl = z at *
          generalize backI z = bz at *
          go_upto_region 17 with fail
          go_cut [5] from 20 (fun s5 wx => s5 = .int .i64 1 ∧ Same w wx ∧ wx.heap[w.heap.size + 2]? = some (.cells #[.int .i64 0, .int .i64 0] 33 (0, 0)))
          case first =>
            go_wp2_with fail
            go_meet
            case rel => exact ⟨rfl, HK14.out.1.put2 (fun h => by omega) _ _, pair_set2 HK14.out.2.2.2 _ _⟩
          case rest =>
            obtain ⟨rfl, hSz, hRz⟩ := hcut
            have HSz := Lib.hid hSz
            have HRz := Lib.hid hRz
            clear hSz hRz
            go_step
            go_step
            (try simp only [Exit.inBlock, Exit.then])
            refine bodyPost_ret (results_ct2 rfl _ _ _ _ _ _ _ rfl HRz.out Try.underlying33 rfl (by kernel_rfl)) rfl ?_
            rw [HR.out]
            exact ⟨rfl, HSz.out⟩
      · have hr := HERR.out (fun h => by have := HWE.out; omega)
        have HR := Lib.hid hr
        have hdf := decide_eq_true hf
        have i1 : (th : Int) = 0 := by omega
        have i2 : ((eh : Int) != 0) = true := by simp; omega
        clear hr hf hTt hth heh HRES HERR
        generalize sg S tl = z at *
        generalize backI z = bz at *
        go_upto_region 17 with fail
        go_cut [5] from 20 (fun s5 wx => s5 = .int .i64 1 ∧ Same w wx ∧ wx.heap[w.heap.size + 2]? = some (.cells #[.int .i64 0, .int .i64 0] 33 (0, 0)))
        case first =>
          go_wp2_with fail
          go_meet
          case rel => exact ⟨rfl, HK14.out.1.put2 (fun h => by omega) _ _, pair_set2 HK14.out.2.2.2 _ _⟩
        case rest =>
          obtain ⟨rfl, hSz, hRz⟩ := hcut
          have HSz := Lib.hid hSz
          have HRz := Lib.hid hRz
          clear hSz hRz
          go_step
          go_step
          (try simp only [Exit.inBlock, Exit.then])
          refine bodyPost_ret (results_ct2 rfl _ _ _ _ _ _ _ rfl HRz.out Try.underlying33 rfl (by kernel_rfl)) rfl ?_
          rw [HR.out]
          exact ⟨rfl, HSz.out⟩
    · have hr := HERR.out (fun h => hf (by rw [← hTt]; exact h.1))
      have HR := Lib.hid hr
      have hdf := decide_eq_false hf
      clear hr hf hTt hth HRES HERR
      generalize sg S tl = z at *
      generalize backI z = bz at *
      go_upto_region 17 with fail
      go_cut [5] from 20 (fun s5 wx => s5 = .int .i64 1 ∧ Same w wx ∧ wx.heap[w.heap.size + 2]? = some (.cells #[.int .i64 0, .int .i64 0] 33 (0, 0)))
      case first =>
        go_wp2_with fail
        go_meet
        case rel => exact ⟨rfl, HK14.out.1.put2 (fun h => by omega) _ _, pair_set2 HK14.out.2.2.2 _ _⟩
      case rest =>
        obtain ⟨rfl, hSz, hRz⟩ := hcut
        have HSz := Lib.hid hSz
        have HRz := Lib.hid hRz
        clear hSz hRz
        go_step
        go_step
        (try simp only [Exit.inBlock, Exit.then])
        refine bodyPost_ret (results_ct2 rfl _ _ _ _ _ _ _ rfl HRz.out Try.underlying33 rfl (by kernel_rfl)) rfl ?_
        rw [HR.out]
        exact ⟨rfl, HSz.out⟩
  · have hr := HERR.out (fun h => not_fits_big (sg S T) (by have := HWT.out; unfold sg; split <;> omega) h.1)
    have HR := Lib.hid hr
    have i1 : ((th : Int) != 0) = true := by simp; omega
    clear hr hth HRES HERR
    by_cases hf : fits (sg S tl)
    · have hdf := decide_eq_true hf
      clear hf
      generalize sg S tl = z at *
      generalize backI z = bz at *
      go_upto_region 17 with fail
      go_cut [5] from 20 (fun s5 wx => s5 = .int .i64 1 ∧ Same w wx ∧ wx.heap[w.heap.size + 2]? = some (.cells #[.int .i64 0, .int .i64 0] 33 (0, 0)))
      case first =>
        go_wp2_with fail
        go_meet
        case rel => exact ⟨rfl, HK14.out.1.put2 (fun h => by omega) _ _, pair_set2 HK14.out.2.2.2 _ _⟩
      case rest =>
        obtain ⟨rfl, hSz, hRz⟩ := hcut
        have HSz := Lib.hid hSz
        have HRz := Lib.hid hRz
        clear hSz hRz
        go_step
        go_step
        (try simp only [Exit.inBlock, Exit.then])
        refine bodyPost_ret (results_ct2 rfl _ _ _ _ _ _ _ rfl HRz.out Try.underlying33 rfl (by kernel_rfl)) rfl ?_
        rw [HR.out]
        exact ⟨rfl, HSz.out⟩
    · have hdf := decide_eq_false hf
      clear hf
      generalize sg S tl = z at *
      generalize backI z = bz at *
      go_upto_region 17 with fail
      go_cut [5] from 20 (fun s5 wx => s5 = .int .i64 1 ∧ Same w wx ∧ wx.heap[w.heap.size + 2]? = some (.cells #[.int .i64 0, .int .i64 0] 33 (0, 0)))
      case first =>
        go_wp2_with fail
        go_meet
        case rel => exact ⟨rfl, HK14.out.1.put2 (fun h => by omega) _ _, pair_set2 HK14.out.2.2.2 _ _⟩
      case rest =>
        obtain ⟨rfl, hSz, hRz⟩ := hcut
        have HSz := Lib.hid hSz
        have HRz := Lib.hid hRz
        clear hSz hRz
        go_step
        go_step
        (try simp only [Exit.inBlock, Exit.then])
        refine bodyPost_ret (results_ct2 rfl _ _ _ _ _ _ _ rfl HRz.out Try.underlying33 rfl (by kernel_rfl)) rfl ?_
        rw [HR.out]
        exact ⟨rfl, HSz.out⟩
end Go.Proofs.Ytpgbnjneoejebaa
