import Derived.Test.YtpgbnjneoejebaaNum
import Derived.Deep.CutRange
import Derived.Deep.RegionHeld3
import Derived.Laws.ResultCell
set_option linter.unusedVariables false
set_option linter.unusedSimpArgs false
namespace Go.Proofs.Ytpgbnjneoejebaa
open Go.RowKit

theorem wu64 (x : Nat) (h : x < 18446744073709551616) : IntKind.u64.wrap (x : Int) = x := by rw [IntKind.wrap_u64]; omega
theorem wi64 (x : Nat) (h : x < 9223372036854775808) : IntKind.i64.wrap (x : Int) = x := by rw [IntKind.wrap_i64]; omega
theorem ww64 (x : Nat) (h : x < 9223372036854775808) : wrap64 (x : Int) = x := by unfold wrap64; omega
theorem abs64 (a : Int) (h : -9223372036854775808 ≤ a ∧ a ≤ 9223372036854775807) : a.natAbs ≤ 9223372036854775808 := by omega
set_option maxRecDepth 100000 in
theorem divisor_any (a b : Nat) (w : World) (ha : a < 18446744073709551616) (hb : b < 18446744073709551616) :
    Calls Try.prog 36 #[.int .u64 a, .int .u64 b] w fun e w' => e = .returned (.int .u64 (Nat.gcd a b : Nat)) ∧ Same w w' := by
  obtain ⟨g, hg⟩ : ∃ g, g = Nat.gcd a b := ⟨_, rfl⟩
  rw [← hg]
  have HG := Lib.hid hg
  clear hg
  go_enter Try.func36, Try.ntmps36
  go_wp2_with fail
  go_loopw [0, 1] (fun x y wr => ∃ p q : Nat, p < 18446744073709551616 ∧ q < 18446744073709551616 ∧ x = .int .u64 p ∧ y = .int .u64 q ∧ g = Nat.gcd p q ∧ Same w wr) (fun _ y _ => (intOf y).toNat)
  case atStart => exact ⟨a, b, ha, hb, rfl, rfl, HG.out, Only.refl _ _⟩
  case round =>
    obtain ⟨p, q, hp, hq, rfl, rfl, hg2, hS⟩ := hrel
    have HG2 := Lib.hid hg2
    clear hg2
    by_cases h0 : 0 < q
    · have h1 : ((q : Int) != 0) = true := by simp; omega
      have h2 : (q : Int) ≠ 0 := by omega
      have hm := Nat.mod_lt p h0
      have e1 : (p : Int).tmod (q : Int) = ((p % q : Nat) : Int) := by rw [Int.tmod_eq_emod_of_nonneg (by omega)]; simp
      go_wp2_with fail
      go_quiet (fail)
      rename_i nq
      go_wp2
      refine ⟨⟨q, p % q, hq, by omega, rfl, by simp, ?_, hS.drewN nq⟩, ?_⟩
      · rw [HG2.out, Nat.gcd_comm, Nat.gcd_rec q p, Nat.gcd_comm]
      · have e2 : ((p : Int) % (q : Int)) = ((p % q : Nat) : Int) := by simp
        rw [e2]; simp [intOf]; exact hm
    · obtain rfl : q = 0 := by omega
      have hgg := HG2.out
      rw [Nat.gcd_zero_right] at hgg
      subst hgg
      go_wp2
      go_ret
      exact ⟨rfl, hS⟩

theorem results_ct2 {P : Program} {fn : Func} {p u : Tmp} {ty : TypeId} (h : fn.results = #[.cell p ty, .tmp u]) (tmps : Array Value) (w : World) (g : Nat) (t : TypeId) (cs : Array Value) (fr : Nat × Nat) (d : TypeDesc)
    (hp : tmps.getD p undef = .pointer (some ⟨g, 0, none⟩)) (hg : w.heap[g]? = some (.cells cs t fr))
    (hu : P.underlying ty = some d) (hd : (match d with | .struct _ | .array _ _ => true | _ => false) = true) (hi : (P.info? ty).map (·.size) = some cs.size) :
    (results fn tmps).run P w = .ok (.tuple #[.agg cs, tmps.getD u undef]) w := by
  rw [results_cell_tmp h, hp]
  simp [asAddr, run_loadVar_row w g t ty cs fr d hg hu hd hi, Result.andThen]
/-- A rational that is one. -/
def RatOk (num den : Int) : Prop := 0 < den ∧ Nat.gcd num.natAbs den.natAbs = 1
instance (num den : Int) : Decidable (RatOk num den) := inferInstanceAs (Decidable (_ ∧ _))
abbrev i64in (a : Int) : Prop := -9223372036854775808 ≤ a ∧ a ≤ 9223372036854775807
abbrev rat (num den : Int) : Value := .agg #[.int .i64 num, .int .i64 den]

set_option maxRecDepth 100000 in
theorem right_any (num den : Int) (w : World) (hn : i64in num) (hd : i64in den) :
    Calls Try.prog 13 #[rat num den] w fun e w' => e = .returned (.bool (decide (RatOk num den))) ∧ Same w w' := by
  by_cases h0 : 0 < den
  · obtain ⟨d, rfl⟩ := Int.eq_ofNat_of_zero_le (show 0 ≤ den by omega)
    have hdec : decide (RatOk num d) = (((Nat.gcd num.natAbs d : Nat) : Int) == 1) := by
      have e : RatOk num d ↔ Nat.gcd num.natAbs d = 1 := by unfold RatOk; rw [Int.natAbs_natCast]; simp; omega
      by_cases h : Nat.gcd num.natAbs d = 1
      · rw [decide_eq_true (e.2 h), h]; rfl
      · rw [decide_eq_false (fun hc => h (e.1 hc))]; simp; omega
    rw [hdec]
    have cs := fun w0 => size_any num w0 hn
    have cd := fun w0 => divisor_any num.natAbs d w0 (by have := hn.1; have := hn.2; omega) (by have := hd.2; omega)
    generalize Nat.gcd num.natAbs d = g at *
    have u1 : IntKind.u64.wrap (d : Int) = (d : Int) := by rw [IntKind.wrap_u64]; have := hd.2; omega
    obtain ⟨W1, hW1⟩ : ∃ W1, W1 = w.alloc (.cells #[.int .i64 num, .int .i64 d] 33) := ⟨_, rfl⟩
    have hb : W1.heap[w.heap.size]? = some (.cells #[.int .i64 num, .int .i64 d] 33 (0, 0)) := by rw [hW1]; exact blk_new _ _
    have hSW : Same w W1 := by rw [hW1]; exact (Only.refl _ w).alloc _
    obtain ⟨m0, m1, m2, m3⟩ := pair_facts2 hb
    have hK : ∀ w', Same W1 w' → (Same W1 w' ∧ w'.cell? ⟨w.heap.size, 0, none⟩ = some (.int .i64 num) ∧ w'.cell? ⟨w.heap.size, 1, none⟩ = some (.int .i64 d)) := fun w' h =>
      ⟨h, h.cell_eq m0 (fun h => h), h.cell_eq m1 (fun h => h)⟩
    have HK := Lib.hid hK; have CS := Lib.hid cs; have CD := Lib.hid cd; have HSW := Lib.hid hSW
    clear hK cs cd hSW hb m0 m1 m2 m3 hdec
    have q0 : Same W1 W1 := Only.refl _ _
    have hd1 : decide (0 < d) = true := decide_eq_true (by omega)
    have hd2 : decide ((0 : Int) < (d : Int)) = true := decide_eq_true h0
    go_enter Try.func13, Try.ntmps13
    go_upto_region 1 with fail
    rw [← hW1]
    clear hW1
    go_region_held3 (fun w' => Same W1 w' ∧ w'.cell? ⟨w.heap.size, 0, none⟩ = some (.int .i64 num) ∧ w'.cell? ⟨w.heap.size, 1, none⟩ = some (.int .i64 d))
      (first | exact HK.out _ (by assumption) | exact HK.out _ (Only.drew (by assumption)))
      (first
        | (go_at_call 37; refine (CS.out _).mono ?_; rintro e w2 ⟨rfl, rfl⟩)
        | (go_at_call 36; refine (CD.out _).mono ?_; rintro e w3 ⟨rfl, hS3⟩; have q1 : Same W1 w3 := Only.then (by first | exact q0 | exact q0.drew | assumption | exact Only.drew (by assumption)) hS3))
    go_wp2
    go_ret
    exact ⟨rfl, HSW.out.then q1⟩
  · have hdec : decide (RatOk num den) = false := decide_eq_false (fun h => h0 h.1)
    rw [hdec]
    clear hdec
    have hd2 : decide ((0 : Int) < den) = false := decide_eq_false h0
    have hb := blk_new w (.cells #[.int .i64 num, .int .i64 den] 33)
    obtain ⟨m0, m1, m2, m3⟩ := pair_facts2 hb
    clear hb m0 m2 m3
    go_enter Try.func13, Try.ntmps13
    go_wp2_with fail
    go_quiet (fail)
    rename_i nq
    go_wp2
    go_ret
    exact ⟨rfl, ((Only.refl _ w).alloc _).drewN nq⟩

/-- A sign and a size's quotient. -/
theorem sg_natAbs (num : Int) (d : Nat) (hd : 0 < d) (hn : i64in num) : fits (sg (decide (num < 0)) (num.natAbs / d)) := by
  have h1 := Nat.div_le_self num.natAbs d
  generalize num.natAbs / d = q at *
  unfold fits sg
  by_cases h : num < 0
  · rw [decide_eq_true h, if_pos rfl]; have := hn.1; omega
  · rw [decide_eq_false h]; simp; have := hn.2; omega
def ratN (num den : Int) : Int := sg (decide (num < 0)) (num.natAbs / Nat.gcd num.natAbs den.natAbs)
def ratD (num den : Int) : Int := (den.natAbs / Nat.gcd num.natAbs den.natAbs : Nat)

set_option maxRecDepth 100000 in
theorem ratio_bad (num den : Int) (w : World) (hn : i64in num) (hd : i64in den) (h0 : den ≤ 0) :
    Calls Try.prog 34 #[.int .i64 num, .int .i64 den] w fun e w' => e = .returned (.tuple #[rat 0 0, .int .i64 1]) ∧ Same w w' := by
  have hb := blk_new w (.cells #[.int .i64 0, .int .i64 0] 33)
  obtain ⟨m0, m1, m2, m3⟩ := pair_facts2 hb
  have HB := Lib.hid hb
  clear hb
  go_enter Try.func34, Try.ntmps34
  go_wp2_with fail
  refine bodyPost_ret (results_ct2 rfl _ _ _ _ _ _ _ rfl HB.out Try.underlying33 rfl (by kernel_rfl)) rfl ?_
  exact ⟨rfl, (Only.refl _ w).alloc _⟩
set_option maxRecDepth 100000 in
theorem ratio_any (num den : Int) (w : World) (hn : i64in num) (hd : i64in den) (h0 : 0 < den) :
    Calls Try.prog 34 #[.int .i64 num, .int .i64 den] w fun e w' => e = .returned (.tuple #[rat (ratN num den) (ratD num den), .int .i64 0]) ∧ Same w w' := by
  obtain ⟨d, rfl⟩ := Int.eq_ofNat_of_zero_le (show 0 ≤ den by omega)
  unfold ratN ratD
  rw [Int.natAbs_natCast]
  have hgp : 0 < Nat.gcd num.natAbs d := Nat.gcd_pos_of_pos_right _ (by omega)
  have hfit := sg_natAbs num _ hgp hn
  have cs := fun w0 => size_any num w0 hn
  have cd := fun w0 => divisor_any num.natAbs d w0 (by have := hn.1; have := hn.2; omega) (by have := hd.2; omega)
  generalize Nat.gcd num.natAbs d = g at *
  have hql : num.natAbs / g ≤ num.natAbs := Nat.div_le_self _ _
  have hdl : d / g ≤ d := Nat.div_le_self _ _
  have cg := fun w0 => signed_any (num.natAbs / g) (decide (num < 0)) w0 (by have := hn.1; have := hn.2; omega)
  have hbk : backI (sg (decide (num < 0)) (num.natAbs / g)) = sg (decide (num < 0)) (num.natAbs / g) := by unfold backI; rw [if_pos hfit]
  rw [hbk] at cg
  have hd63 : d < 9223372036854775808 := by have := hd.2; omega
  have u1 := wu64 d (by omega)
  have hdl2 : d / g < 9223372036854775808 := by omega
  have hnl : num.natAbs / g < 18446744073709551616 := by have := abs64 num hn; omega
  have hg0 : (g : Int) ≠ 0 := by omega
  generalize sg (decide (num < 0)) (num.natAbs / g) = z at *
  generalize hn' : num.natAbs = n at *
  have hq1 : (n : Int) / (g : Int) = ((n / g : Nat) : Int) := by simp
  have hq2 : (d : Int) / (g : Int) = ((d / g : Nat) : Int) := by simp
  generalize n / g = qn at *
  generalize d / g = qd at *
  have u0 := wu64 qn hnl
  have u2 := wi64 qd hdl2
  have u3 := ww64 qd hdl2
  have u4 := wu64 qd (Nat.lt_trans hdl2 (by decide))
  have CS := Lib.hid cs; have CD := Lib.hid cd; have CG := Lib.hid cg
  have hb := blk_new w (.cells #[.int .i64 0, .int .i64 0] 33)
  have HB := Lib.hid hb
  clear cs cd cg hb hbk hfit hql hdl hn' hdl2 hnl hd63
  go_enter Try.func34, Try.ntmps34
  go_wp2_with fail
  refine (CS.out _).mono ?_
  rintro e w1 ⟨rfl, rfl⟩
  go_wp2_with fail
  refine (CD.out _).mono ?_
  rintro e w2 ⟨rfl, hS2⟩
  go_wp2_with fail
  refine (CS.out _).mono ?_
  rintro e w3 ⟨rfl, rfl⟩
  go_wp2_with fail
  refine (CG.out _).mono ?_
  rintro e w4 ⟨rfl, rfl⟩
  have hb2 := hS2.heap HB.out (fun h => h)
  obtain ⟨m0, m1, m2, m3⟩ := pair_facts2 hb2
  have HB2 := Lib.hid hb2
  clear hb2
  go_wp2_with fail
  refine bodyPost_ret (results_ct2 rfl _ _ _ _ _ _ _ rfl (pair_set2 HB2.out _ _) Try.underlying33 rfl (by kernel_rfl)) rfl ?_
  exact ⟨rfl, (((Only.refl _ w).alloc _).then hS2).put2 (fun h => absurd h (by simp)) _ _⟩
end Go.Proofs.Ytpgbnjneoejebaa
