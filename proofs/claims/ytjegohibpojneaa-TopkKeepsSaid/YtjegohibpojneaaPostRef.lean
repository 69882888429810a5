import Derived.Test.YtjegohibpojneaaPostSpec
import Derived.Test.YtjegohibpojneaaPairs
import Derived.Test.YtjegohibpojneaaDocPrint
set_option linter.unusedVariables false
set_option linter.unusedSimpArgs false
namespace Go.Proofs.Ytjegohibpojneaa
open Go.RowKit

def posts64 (l : List (Int × Int)) : Prop := ∀ p ∈ l, i64b p.1 ∧ i64b p.2
theorem posts64_at {l : List (Int × Int)} (h : posts64 l) (k : Nat) (hk : k < l.length) : i64b l[k].1 ∧ i64b l[k].2 := h _ (List.getElem_mem hk)
set_option maxRecDepth 100000 in
set_option maxHeartbeats 1000000 in
theorem rmax_eq (v : Value) (l : List (Int × Int)) (w : World) (hv : SlP w v l) : Calls Try.prog 34 #[v] w fun e w' => e = .returned (.int .i64 (maxP l)) ∧ w' = w := by
  have HV := Lib.hid hv
  obtain ⟨ad, cp, rfl, hcp, hmx⟩ := hv.lit
  unfold maxLen at hmx
  clear hv
  go_enter Try.func34, Try.ntmps34
  go_wp2_with fail
  go_loop [3, 4] (fun m i => ∃ k : Nat, k ≤ l.length ∧ i = .int .i64 k ∧ m = .int .i64 (maxP (l.take k))) (fun _ i => l.length - (intOf i).toNat)
  case atStart => exact ⟨0, by omega, rfl, rfl⟩
  case round =>
    obtain ⟨k, hk, rfl, rfl⟩ := hrel
    by_cases hlt : k < l.length
    · obtain ⟨b, off, rfl, hc⟩ := HV.out.spot (by omega)
      have hck := (hc k hlt).2
      have hst := maxP_snoc (l.take k) l[k]
      rw [List.take_append_getElem hlt] at hst
      generalize l[k] = p at *
      generalize hm : maxP (l.take k) = m at *
      have HST := Lib.hid hst
      have HM := Lib.hid hm
      clear hst hc hm
      by_cases hgt : p.2 > m
      · go_wp2
        go_round
        case rel => exact ⟨k + 1, by omega, by go_num, by rw [HST.out, show max m p.2 = p.2 by omega]⟩
        case measure => simp [intOf]; omega
      · go_wp2
        go_round
        case rel => exact ⟨k + 1, by omega, by go_num, by rw [HST.out, show max m p.2 = m by omega]⟩
        case measure => simp [intOf]; omega
    · obtain rfl : k = l.length := by omega
      rw [List.take_length]
      go_wp2
      go_ret
      exact ⟨rfl, rfl⟩
theorem rmax_any (v : Value) (l : List (Int × Int)) (w : World) (hv : SlP w v l) : Calls Try.prog 34 #[v] w fun e w' => e = .returned (.int .i64 (maxP l)) ∧ Same w w' :=
  (rmax_eq v l w hv).mono fun e w' ⟨h1, h2⟩ => ⟨h1, h2 ▸ Only.refl _ _⟩
set_option maxRecDepth 100000 in
set_option maxHeartbeats 1000000 in
theorem rseek_any (v : Value) (l : List (Int × Int)) (a : Nat) (doc : Int) (w : World) (hv : SlP w v l) (ha : a ≤ l.length) : Calls Try.prog 45 #[v, .int .i64 a, .int .i64 doc] w fun e w' => e = .returned (.int .i64 (seekP l a doc)) ∧ Same w w' := by
  have HV := Lib.hid hv
  obtain ⟨ad, cp, rfl, hcp, hmx⟩ := hv.lit
  unfold maxLen at hmx
  clear hv
  obtain ⟨r, hr⟩ : ∃ r, r = seekP l a doc := ⟨_, rfl⟩
  rw [← hr]
  have HR := Lib.hid hr
  clear hr
  go_enter Try.func45, Try.ntmps45
  go_wp2_with fail
  go_loop [1] (fun i => ∃ k : Nat, k ≤ l.length ∧ i = .int .i64 k ∧ seekP l k doc = r) (fun i => l.length - (intOf i).toNat)
  case atStart => exact ⟨a, ha, rfl, HR.out.symm⟩
  case round =>
    obtain ⟨k, hk, rfl, hs⟩ := hrel
    have HS := Lib.hid hs
    clear hs
    by_cases hlt : k < l.length
    · obtain ⟨b, off, rfl, hc⟩ := HV.out.spot (by omega)
      have hck := (hc k hlt).1
      by_cases hd : l[k].1 < doc
      · have HN := Lib.hid (seekP_step l k doc hlt hd)
        generalize l[k] = p at *
        clear hc
        go_wp2
        go_round
        case rel => exact ⟨k + 1, by omega, by go_num, by rw [← HN.out]; exact HS.out⟩
        case measure => simp [intOf]; omega
      · have HN := Lib.hid (seekP_stop l k doc hlt hd)
        generalize l[k] = p at *
        clear hc
        go_wp2
        go_ret
        exact ⟨by rw [← HS.out, HN.out]; rfl, Only.refl _ _⟩
    · have HN := Lib.hid (seekP_end l k doc (by omega))
      go_wp2
      go_ret
      exact ⟨by rw [← HS.out, HN.out]; rfl, Only.refl _ _⟩
set_option maxRecDepth 100000 in
set_option maxHeartbeats 2000000 in
theorem rright05_any (v : Value) (l : List (Int × Int)) (w : World) (hv : SlP w v l) : Calls Try.prog 31 #[v] w fun e w' => e = .returned (.bool (rightB l)) ∧ Same w w' := by
  have HV := Lib.hid hv
  obtain ⟨ad, cp, rfl, hcp, hmx⟩ := hv.lit
  unfold maxLen at hmx
  clear hv
  go_enter Try.func31, Try.ntmps31
  go_wp2_with fail
  go_loopw [3] (fun i wr => ∃ k : Nat, k ≤ l.length ∧ i = .int .i64 k ∧ rightB (l.take k) = true ∧ Same w wr) (fun i _ => l.length - (intOf i).toNat)
  case atStart => exact ⟨0, by omega, rfl, rfl, Only.refl _ _⟩
  case round =>
    obtain ⟨k, hk, rfl, hg, hS⟩ := hrel
    by_cases hlt : k < l.length
    · obtain ⟨b, off, rfl, hc⟩ := HV.out.spot (by omega)
      have hst := rightB_step l k hlt
      rw [hg, Bool.true_and] at hst
      have hno := fun h => rightB_no l (k + 1) h
      rw [hst] at hno
      have hc0 := hS.cell_eq (hc k hlt).1 (fun h => h)
      have hc1 := hS.cell_eq (hc k hlt).2 (fun h => h)
      have hp0 : k ≠ 0 → wr.cell? ⟨b, off + (k - 1) * 2, none⟩ = some (.int .i64 ((docsP l).getD (k - 1) 0)) := fun h => by
        rw [docsP_get l (k - 1) (by omega)]; exact hS.cell_eq (hc (k - 1) (by omega)).1 (fun h => h)
      generalize l[k] = p at *
      generalize (docsP l).getD (k - 1) 0 = y at *
      have HST := Lib.hid hst; have HNO := Lib.hid hno; have HS := Lib.hid hS
      clear hst hno hS hg hc
      unfold okPost at HNO HST
      by_cases g1 : p.1 < 0
      · have d1 : decide (p.1 < 0) = true := decide_eq_true g1
        have HF := Lib.hid (HNO.out (by rw [show decide (0 ≤ p.1) = false by simp; omega]; rfl))
        clear HST HNO hp0 g1
        go_wp2_with fail
        go_quiet (fail)
        rename_i nq
        go_wp2
        go_ret
        exact ⟨by rw [HF.out]; rfl, HS.out.drewN nq⟩
      have d1 : decide (p.1 < 0) = false := decide_eq_false g1
      by_cases g2 : 2147483647 < p.1
      · have d2 : decide (2147483647 < p.1) = true := decide_eq_true g2
        have HF := Lib.hid (HNO.out (by rw [show decide (p.1 ≤ 2147483647) = false by simp; omega]; simp))
        clear HST HNO hp0 g1 g2
        go_wp2_with fail
        go_quiet (fail)
        rename_i nq
        go_wp2
        go_ret
        exact ⟨by rw [HF.out]; rfl, HS.out.drewN nq⟩
      have d2 : decide (2147483647 < p.1) = false := decide_eq_false g2
      by_cases g3 : p.2 < 1
      · have d3 : decide (p.2 < 1) = true := decide_eq_true g3
        have HF := Lib.hid (HNO.out (by rw [show decide (1 ≤ p.2) = false by simp; omega]; simp))
        clear HST HNO hp0 g1 g2 g3
        go_wp2_with fail
        go_quiet (fail)
        rename_i nq
        go_wp2
        go_ret
        exact ⟨by rw [HF.out]; rfl, HS.out.drewN nq⟩
      have d3 : decide (p.2 < 1) = false := decide_eq_false g3
      by_cases g4 : 65535 < p.2
      · have d4 : decide (65535 < p.2) = true := decide_eq_true g4
        have HF := Lib.hid (HNO.out (by rw [show decide (p.2 ≤ 65535) = false by simp; omega]; simp))
        clear HST HNO hp0 g1 g2 g3 g4
        go_wp2_with fail
        go_quiet (fail)
        rename_i nq
        go_wp2
        go_ret
        exact ⟨by rw [HF.out]; rfl, HS.out.drewN nq⟩
      have d4 : decide (65535 < p.2) = false := decide_eq_false g4
      by_cases g5 : k = 0
      · have hk0 : ¬ 0 < k := by omega
        have hk1 : decide ((0 : Int) < (k : Int)) = false := by simp; omega
        have HF := Lib.hid (HST.out.trans (by rw [show decide (0 ≤ p.1) = true by simp; omega, show decide (p.1 ≤ 2147483647) = true by simp; omega, show decide (1 ≤ p.2) = true by simp; omega, show decide (p.2 ≤ 65535) = true by simp; omega, decide_eq_true g5]; rfl : _ = true))
        clear HST HNO hp0 g1 g2 g3 g4 g5
        go_wp2_with fail
        go_quiet (fail)
        rename_i nq
        go_wp2
        go_roundw
        case rel => exact ⟨k + 1, by omega, by go_num, HF.out, HS.out.drewN nq⟩
        case measure => simp [intOf]; omega
      · have hk0 : 0 < k := by omega
        have hk1 : decide ((0 : Int) < (k : Int)) = true := by simp; omega
        have hc2 := hp0 g5
        have hk2 : (0 : Int) ≤ (k : Int) - 1 := by omega
        have hk3 : (k : Int) - 1 < (l.length : Int) := by omega
        have hk4 : ((k : Int) - 1).toNat = k - 1 := by omega
        by_cases g6 : p.1 ≤ y
        · have d6 : decide (p.1 ≤ y) = true := decide_eq_true g6
          have HF := Lib.hid (HNO.out (by rw [show decide (0 ≤ p.1) = true by simp; omega, show decide (p.1 ≤ 2147483647) = true by simp; omega, show decide (1 ≤ p.2) = true by simp; omega, show decide (p.2 ≤ 65535) = true by simp; omega, decide_eq_false g5, show decide (y < p.1) = false by simp; omega]; rfl))
          clear HST HNO hp0 g1 g2 g3 g4 g5 g6
          go_wp2_with fail
          go_quiet (fail)
          rename_i nq
          go_wp2
          go_ret
          exact ⟨by rw [HF.out]; rfl, HS.out.drewN nq⟩
        · have d6 : decide (p.1 ≤ y) = false := decide_eq_false g6
          have HF := Lib.hid (HST.out.trans (by rw [show decide (0 ≤ p.1) = true by simp; omega, show decide (p.1 ≤ 2147483647) = true by simp; omega, show decide (1 ≤ p.2) = true by simp; omega, show decide (p.2 ≤ 65535) = true by simp; omega, decide_eq_false g5, show decide (y < p.1) = true by simp; omega]; rfl : _ = true))
          clear HST HNO hp0 g1 g2 g3 g4 g5 g6
          go_wp2_with fail
          go_quiet (fail)
          rename_i nq
          go_wp2
          go_roundw
          case rel => exact ⟨k + 1, by omega, by go_num, HF.out, HS.out.drewN nq⟩
          case measure => simp [intOf]; omega
    · obtain rfl : k = l.length := by omega
      rw [List.take_length] at hg
      have HG := Lib.hid hg
      clear hg
      go_wp2
      go_ret
      exact ⟨by rw [HG.out]; rfl, hS⟩
set_option maxRecDepth 100000 in
set_option maxHeartbeats 1000000 in
theorem rsame05_any (v1 v2 : Value) (l1 l2 : List (Int × Int)) (w : World) (h1 : SlP w v1 l1) (h2 : SlP w v2 l2) : Calls Try.prog 36 #[v1, v2] w fun e w' => e = .returned (.bool (decide (l1 = l2))) ∧ Same w w' := by
  have HV1 := Lib.hid h1; have HV2 := Lib.hid h2
  obtain ⟨a1, m1, rfl, hc1, hm1⟩ := h1.lit
  obtain ⟨a2, m2, rfl, hc2, hm2⟩ := h2.lit
  unfold maxLen at hm1 hm2
  obtain ⟨r, hr⟩ : ∃ r, r = decide (l1 = l2) := ⟨_, rfl⟩
  rw [← hr]
  have HR := Lib.hid hr
  clear hr h1 h2
  by_cases g4 : l1.length = l2.length
  rotate_left
  · have hb : ((l1.length : Int) != (l2.length : Int)) = true := by simp; omega
    have : r = false := by rw [HR.out]; exact decide_eq_false (fun h => g4 (by rw [h]))
    subst this
    clear g4
    go_enter Try.func36, Try.ntmps36
    go_wp2_with fail
    go_ret
    exact ⟨rfl, Only.refl _ _⟩
  have hb4 : ((l1.length : Int) != (l2.length : Int)) = false := by simp; omega
  have HL := Lib.hid g4
  clear g4
  go_enter Try.func36, Try.ntmps36
  go_wp2_with fail
  clear hb4
  go_loopw [5] (fun i wr => ∃ k : Nat, k ≤ l1.length ∧ i = .int .i64 k ∧ Same w wr ∧ l1.take k = l2.take k) (fun i _ => l1.length - (intOf i).toNat)
  case atStart => exact ⟨0, by omega, rfl, Only.refl _ _, rfl⟩
  case round =>
    obtain ⟨k, hk, rfl, hS, ht⟩ := hrel
    have HT := Lib.hid ht
    clear ht
    by_cases hlt : k < l1.length
    · have hlt2 : k < l2.length := by have := HL.out; omega
      obtain ⟨b1, o1, rfl, hc1'⟩ := HV1.out.spot (by omega)
      obtain ⟨b2, o2, rfl, hc2'⟩ := HV2.out.spot (by omega)
      have k1 := hS.cell_eq (hc1' k hlt).1 (fun h => h)
      have k2 := hS.cell_eq (hc2' k hlt2).1 (fun h => h)
      have k3 := hS.cell_eq (hc1' k hlt).2 (fun h => h)
      have k4 := hS.cell_eq (hc2' k hlt2).2 (fun h => h)
      clear hc1' hc2'
      by_cases heq : l1[k] = l2[k]
      · have HQ2 := Lib.hid heq
        clear heq
        generalize hx : l1[k] = x at *
        generalize hy : l2[k] = y at *
        obtain ⟨x1, x2⟩ := x
        obtain ⟨y1, y2⟩ := y
        have hb1 : (x1 == y1) = true := by have := HQ2.out; simp at this; simp [this]
        have hb2 : (x2 == y2) = true := by have := HQ2.out; simp at this; simp [this]
        have HXX := Lib.hid hx; have HYY := Lib.hid hy
        clear hx hy
        go_wp2_with fail
        go_quiet (fail)
        rename_i nq
        go_wp2
        refine ⟨⟨k + 1, by omega, by go_num, hS.drewN nq, ?_⟩, by simp [intOf]; omega⟩
        rw [← List.take_append_getElem hlt, ← List.take_append_getElem hlt2, HT.out, HXX.out, HYY.out, HQ2.out]
      · have hne : decide (l1 = l2) = false := decide_eq_false (by intro h; exact heq (by simp only [h]))
        have HN := Lib.hid hne
        have HQ2 := Lib.hid heq
        clear heq hne
        generalize hx : l1[k] = x at *
        generalize hy : l2[k] = y at *
        clear hx hy
        obtain ⟨x1, x2⟩ := x
        obtain ⟨y1, y2⟩ := y
        by_cases h1 : x1 = y1
        · have hb1 : (x1 == y1) = true := by simpa using h1
          have hb2 : (x2 == y2) = false := by have := HQ2.out; simp at this; simp [this h1]
          go_wp2_with fail
          go_quiet (fail)
          rename_i nq
          go_wp2
          go_ret
          rw [HR.out, HN.out]
          exact ⟨rfl, hS.drewN nq⟩
        · have hb1 : (x1 == y1) = false := by simpa using h1
          clear h1
          go_wp2_with fail
          go_quiet (fail)
          rename_i nq
          go_wp2
          go_ret
          rw [HR.out, HN.out]
          exact ⟨rfl, hS.drewN nq⟩
    · obtain rfl : k = l1.length := by omega
      have hq : decide (l1 = l2) = true := decide_eq_true (by have := HT.out; have h2 := HL.out; rw [List.take_length, h2, List.take_length] at this; exact this)
      have HN := Lib.hid hq
      clear hq
      go_wp2
      go_ret
      rw [HR.out, HN.out]
      exact ⟨rfl, hS⟩
end Go.Proofs.Ytjegohibpojneaa
