import Derived.Test.YtpgbnjneoejebaaFuRanks
set_option linter.unusedVariables false
set_option linter.unusedSimpArgs false
namespace Go.Proofs.Ytpgbnjneoejebaa
open Go.RowKit
attribute [local go_sem ↓] Go.wp_at_zero Go.wp_at_succ

theorem vp_ext {x y : VP} (h1 : x.1 = y.1) (h2 : vb x = vb y) (h3 : vc x = vc y) : x = y := by
  refine Prod.ext h1 (Subtype.ext (Rat.ext h2 ?_))
  have : ((x.2.1.den : Nat) : Int) = (y.2.1.den : Nat) := h3
  omega
set_option maxRecDepth 100000 in
set_option maxHeartbeats 2000000 in
/-- Values as the document has them. -/
theorem fof_any (v : Value) (l : List VP) (w : World) (hv : SlV w v l) (hl : l.length ≤ 100000) : Calls Try.prog 12 #[v] w fun e w' => ∃ v', e = .returned v' ∧ Same w w' ∧ w'.ownsRow w.heap.size 82 3 v' l.length (cells3 l) := by
  have HV := Lib.hid hv
  obtain ⟨ad, cp, rfl, hcp, hmx⟩ := hv.lit
  unfold maxLen at hmx
  have hinf : (Try.prog.info? 82).map (fun i => (i.zero, i.size, i.bytes)) = some (some (.agg #[.int .i64 0, .int .i64 0, .int .i64 0]), 3, 24) := by kernel_rfl
  have HINF := Lib.hid hinf
  clear hv hinf
  go_enter Try.func12, Try.ntmps12
  go_wp2_with fail
  go_loopw [3, 4] (fun v i wr => ∃ r : Nat, r ≤ l.length ∧ i = .int .i64 r ∧ Same w wr ∧ wr.ownsRow w.heap.size 82 3 v r (cells3 (l.take r))) (fun _ i _ => l.length - (intOf i).toNat)
  case atStart => exact ⟨0, by omega, rfl, Only.refl _ _, by simp only [List.take_zero]; exact World.ownsRow_nil _ _ _ _⟩
  case round =>
    obtain ⟨r, hr, rfl, hS, hown⟩ := hrel
    have HS := Lib.hid hS; have HW := Lib.hid hown
    clear hS hown
    obtain ⟨w2, hw2⟩ : ∃ x, x = wr := ⟨_, rfl⟩
    subst hw2
    by_cases hlt : r < l.length
    · obtain ⟨b1, o1, rfl, hcell⟩ := HV.out.spot (by omega)
      obtain ⟨k0, k1, k2⟩ := hcell r hlt
      have k0 := HS.out.cell_eq k0 (fun h => h)
      have k1 := HS.out.cell_eq k1 (fun h => h)
      have k2 := HS.out.cell_eq k2 (fun h => h)
      have HX : Hid (l.take (r + 1) = l.take r ++ [l[r]]) := Lib.hid (take_snocI l r hlt)
      generalize l[r] = x at *
      have hd9 : decide (r < l.length) = true := decide_eq_true hlt
      have hw6 : IntKind.i64.wrap ((r : Int) + 1) = (r : Int) + 1 := by rw [IntKind.wrap_i64]; omega
      clear hcell
      go_wp2_with (at_builtin; refine app_one [.int .i64 x.1, .int .i64 (vb x), .int .i64 (vc x)] rfl (.tmp 11) (.tmp 16) 30 rfl w.heap.size 82 (.agg #[.int .i64 0, .int .i64 0, .int .i64 0]) 3 24 Try.underlying30 HINF.out rfl (by decide) _ r _ rfl HW.out rfl ?_ rfl (by intro u hu; simp at hu; rcases hu with rfl | rfl | rfl <;> rfl) (by unfold maxLen; omega) (by omega) HS.out.size; intro v' w3 hown3 hO3)
      have HF : Hid (Same w w3 ∧ w3.ownsRow w.heap.size 82 3 v' (r + 1) (cells3 (l.take (r + 1)))) := Lib.hid (by
        refine ⟨HS.out.trans hO3 (fun i h1 h2 => by have h3 : w.heap.size ≤ i := h2; omega), ?_⟩
        rw [HX.out, cells3_snoc]
        exact hown3)
      clear hown3 hO3 HW HS
      go_wp2_with fail
      go_roundw
      case rel => exact ⟨r + 1, by omega, by go_num, HF.out⟩
      case measure => simp [intOf]; omega
    · obtain rfl : r = l.length := by omega
      rw [List.take_length] at HW
      have hd9 : decide (l.length < l.length) = false := by simp
      go_wp2_with fail
      go_ret
      exact ⟨_, rfl, HS.out, HW.out⟩
set_option maxRecDepth 100000 in
set_option maxHeartbeats 2000000 in
theorem rsame08_any (v1 v2 : Value) (l1 l2 : List VP) (w : World) (h1 : SlV w v1 l1) (h2 : SlV w v2 l2) : Calls Try.prog 11 #[v1, v2] w fun e w' => e = .returned (.bool (decide (l1 = l2))) ∧ Same w w' := by
  have HV1 := Lib.hid h1; have HV2 := Lib.hid h2
  obtain ⟨a1, m1, rfl, hc1, hm1⟩ := h1.lit
  obtain ⟨a2, m2, rfl, hc2, hm2⟩ := h2.lit
  unfold maxLen at hm1 hm2
  obtain ⟨r, hr⟩ : ∃ r, r = decide (l1 = l2) := ⟨_, rfl⟩
  rw [← hr]
  have HR := Lib.hid hr
  clear hr h1 h2
  by_cases g4 : l1.length = l2.length
  rotate_left
  · have hb : ((l1.length : Int) != (l2.length : Int)) = true := by simp; omega
    have : r = false := by rw [HR.out]; exact decide_eq_false (fun h => g4 (by rw [h]))
    subst this
    clear g4
    go_enter Try.func11, Try.ntmps11
    go_wp2_with fail
    go_ret
    exact ⟨rfl, Only.refl _ _⟩
  have hb4 : ((l1.length : Int) != (l2.length : Int)) = false := by simp; omega
  have HL := Lib.hid g4
  clear g4
  go_enter Try.func11, Try.ntmps11
  go_wp2_with fail
  clear hb4
  go_loopw [5] (fun i wr => ∃ k : Nat, k ≤ l1.length ∧ i = .int .i64 k ∧ Same w wr ∧ l1.take k = l2.take k) (fun i _ => l1.length - (intOf i).toNat)
  case atStart => exact ⟨0, by omega, rfl, Only.refl _ _, rfl⟩
  case round =>
    obtain ⟨k, hk, rfl, hS, ht⟩ := hrel
    have HT := Lib.hid ht
    clear ht
    by_cases hlt : k < l1.length
    · have hlt2 : k < l2.length := by have := HL.out; omega
      obtain ⟨b1, o1, rfl, hc1'⟩ := HV1.out.spot (by omega)
      obtain ⟨b2, o2, rfl, hc2'⟩ := HV2.out.spot (by omega)
      obtain ⟨k1, k2, k3⟩ := hc1' k hlt
      obtain ⟨k4, k5, k6⟩ := hc2' k hlt2
      have k1 := hS.cell_eq k1 (fun h => h)
      have k2 := hS.cell_eq k2 (fun h => h)
      have k3 := hS.cell_eq k3 (fun h => h)
      have k4 := hS.cell_eq k4 (fun h => h)
      have k5 := hS.cell_eq k5 (fun h => h)
      have k6 := hS.cell_eq k6 (fun h => h)
      clear hc1' hc2'
      by_cases heq : l1[k] = l2[k]
      · have HQ2 := Lib.hid heq
        have HT2 : Hid (l1.take (k + 1) = l2.take (k + 1)) := Lib.hid (by rw [← List.take_append_getElem hlt, ← List.take_append_getElem hlt2, HT.out, heq])
        rw [← heq] at k4 k5 k6
        clear heq
        generalize l1[k] = x at k1 k2 k3 k4 k5 k6
        go_wp2_with fail
        go_quiet (fail)
        rename_i nq
        go_wp2_with fail
        refine ⟨⟨k + 1, by omega, by go_num, hS.drewN nq, HT2.out⟩, by simp [intOf]; omega⟩
      · have hne : decide (l1 = l2) = false := decide_eq_false (by intro h; exact heq (by simp only [h]))
        have hdif : ¬ (l1[k].1 = l2[k].1 ∧ vb l1[k] = vb l2[k] ∧ vc l1[k] = vc l2[k]) := fun h => heq (vp_ext h.1 h.2.1 h.2.2)
        clear heq
        generalize l1[k] = x at k1 k2 k3 hdif
        generalize l2[k] = y at k4 k5 k6 hdif
        generalize x.1 = x1 at *
        generalize vb x = x2 at *
        generalize vc x = x3 at *
        generalize y.1 = y1 at *
        generalize vb y = y2 at *
        generalize vc y = y3 at *
        by_cases e1 : x1 = y1
        · subst e1
          by_cases e2 : x2 = y2
          · subst e2
            have hb3 : (x3 == y3) = false := by simpa using fun h => hdif ⟨rfl, rfl, h⟩
            clear hdif
            have HN := Lib.hid hne
            clear hne
            go_wp2_with fail
            go_quiet (fail)
            rename_i nq
            go_wp2_with fail
            have : r = false := by rw [HR.out]; exact HN.out
            subst this
            go_ret
            exact ⟨rfl, hS.drewN nq⟩
          · have hb2 : (x2 == y2) = false := by simpa using e2
            clear hdif e2
            have HN := Lib.hid hne
            clear hne
            go_wp2_with fail
            go_quiet (fail)
            rename_i nq
            go_wp2_with fail
            have : r = false := by rw [HR.out]; exact HN.out
            subst this
            go_ret
            exact ⟨rfl, hS.drewN nq⟩
        · have hb1 : (x1 == y1) = false := by simpa using e1
          clear hdif e1
          have HN := Lib.hid hne
          clear hne
          go_wp2_with fail
          go_quiet (fail)
          rename_i nq
          go_wp2_with fail
          have : r = false := by rw [HR.out]; exact HN.out
          subst this
          go_ret
          exact ⟨rfl, hS.drewN nq⟩
    · obtain rfl : k = l1.length := by omega
      have hd9 : decide (l1.length < l1.length) = false := by simp
      have : r = true := by
        rw [HR.out]
        refine decide_eq_true ?_
        have h := HT.out
        rw [List.take_length] at h
        rw [h]
        exact (List.take_of_length_le (by have := HL.out; omega))
      subst this
      go_wp2_with fail
      go_ret
      exact ⟨rfl, hS⟩
end Go.Proofs.Ytpgbnjneoejebaa
