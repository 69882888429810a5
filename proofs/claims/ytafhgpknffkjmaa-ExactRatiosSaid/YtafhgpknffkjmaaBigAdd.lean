import Derived.Test.YtafhgpknffkjmaaBig
import Derived.Deep.CutRange
import Derived.StillTailTactics
set_option linter.unusedVariables false
set_option linter.unusedSimpArgs false
namespace Go.Proofs.Ytafhgpknffkjmaa
open Go.RowKit

set_option maxRecDepth 100000 in
set_option maxHeartbeats 4000000 in
theorem badd_any (r1 r2 : Value) (x y : Int) (w : World) (h1 : Bg w r1 x) (h2 : Bg w r2 y) (hx : (nb x.natAbs).length ≤ 400000) (hy : (nb y.natAbs).length ≤ 400000) :
    Calls Try.prog 48 #[r1, r2] w fun e w' => ∃ r, e = .returned r ∧ Same w w' ∧ Bg w' r (x + y) := by
  obtain ⟨s1, rfl, hs1⟩ := h1
  obtain ⟨s2, rfl, hs2⟩ := h2
  obtain ⟨a1, c1, rfl, hc1, hm1⟩ := hs1.lit
  obtain ⟨a2, c2, rfl, hc2, hm2⟩ := hs2.lit
  have hb3 := blk3 w (.cells #[.slice a1 (nb x.natAbs).length c1, .bool (decide (x < 0))] 76) (.cells #[.slice a2 (nb y.natAbs).length c2, .bool (decide (y < 0))] 76) (.cells #[.slice none 0 0, .bool false] 76)
  have HB3 := Lib.hid hb3; have HS1 := Lib.hid hs1; have HS2 := Lib.hid hs2
  clear hb3 hs1 hs2
  by_cases hsame : (x < 0 ↔ y < 0)
  · have hdec : decide (y < 0) = decide (x < 0) := decide_eq_decide.2 hsame.symm
    have hsum : x.natAbs + y.natAbs = (x + y).natAbs := by omega
    have hsg : decide (x < 0) = decide (x + y < 0) := decide_eq_decide.2 (by omega)
    have ct := fun w0 hS0 => plus_any _ _ (nb x.natAbs) (nb y.natAbs) w0 (HS1.out.same hS0) (HS2.out.same hS0) (by omega) (by omega)
    rw [bv_nb, bv_nb, hsum] at ct
    have CT := Lib.hid ct; have HSG := Lib.hid hsg
    rw [hdec] at HB3 ⊢
    clear ct hsg hsum hdec hsame
    generalize decide (x < 0) = p at *
    have hpp : (p == p) = true := by cases p <;> rfl
    obtain ⟨W3, hW3⟩ : ∃ W3, W3 = ((w.alloc (.cells #[.slice a1 (nb x.natAbs).length c1, .bool p] 76)).alloc (.cells #[.slice a2 (nb y.natAbs).length c2, .bool p] 76)).alloc (.cells #[.slice none 0 0, .bool false] 76) := ⟨_, rfl⟩
    have hSW : Same w W3 := by rw [hW3]; exact (((Only.refl _ w).alloc _).alloc _).alloc _
    have hsz : W3.heap.size = w.heap.size + 3 := by rw [hW3, World.size_alloc, World.size_alloc, World.size_alloc]
    rw [← hW3] at HB3
    have HSW := Lib.hid hSW; have HSZ := Lib.hid hsz
    go_enter Try.func48, Try.ntmps48
    go_upto_region 2 with fail
    rw [← hW3]
    clear hW3 hSW hsz
    have q0 : Only (· = w.heap.size + 2) W3 W3 := Only.refl _ _
    obtain ⟨m0, m1, m2, m3⟩ := pair_facts2 HB3.out.1
    obtain ⟨n0, n1, n2, n3⟩ := pair_facts2 HB3.out.2.1
    have hK : ∀ w', Only (· = w.heap.size + 2) W3 w' → (Only (· = w.heap.size + 2) W3 w' ∧ w'.cell? ⟨w.heap.size, 0, none⟩ = some (.slice a1 (nb x.natAbs).length c1) ∧ w'.cell? ⟨w.heap.size, 1, none⟩ = some (.bool p) ∧ w'.cell? ⟨w.heap.size + 1, 0, none⟩ = some (.slice a2 (nb y.natAbs).length c2)) := fun w' h =>
      ⟨h, h.cell_eq m0 (by omega), h.cell_eq m1 (by omega), h.cell_eq n0 (by omega)⟩
    have HK := Lib.hid hK
    clear hK m0 m1 m2 m3 n0 n1 n2 n3
    go_region_held3 (fun w' => Only (· = w.heap.size + 2) W3 w' ∧ w'.cell? ⟨w.heap.size, 0, none⟩ = some (.slice a1 (nb x.natAbs).length c1) ∧ w'.cell? ⟨w.heap.size, 1, none⟩ = some (.bool p) ∧ w'.cell? ⟨w.heap.size + 1, 0, none⟩ = some (.slice a2 (nb y.natAbs).length c2))
      (first | exact HK.out _ (by assumption) | exact HK.out _ (Only.drew (by assumption)) | exact HK.out _ (Only.put2 q1 (fun _ => rfl) _ _))
      (first
        | (go_at_call 77; refine (CT.out _ (by first | exact HSW.out | exact HSW.out.drew)).mono ?_; rintro e w4 ⟨v4, rfl, hS4, hV4, hF4⟩; obtain ⟨a4, c4, rfl, hc4, hm4⟩ := hV4.lit; have HV4 := Lib.hid hV4; have HF4 := Lib.hid hF4; clear hV4 hF4; have q2 : Same W3 w4 := Only.then (by first | exact Only.refl _ _ | exact Only.drew (Only.refl _ _)) hS4; have q1 : Only (· = w.heap.size + 2) W3 w4 := q2.mono (fun _ _ h => h.elim); have hb4 := q2.heap HB3.out.2.2 (fun h => h); obtain ⟨o0, o1, o2, o3⟩ := pair_facts2 hb4; have HB4 := Lib.hid hb4; have Q2 := Lib.hid q2; clear hb4 q2))
    go_wp2_with fail
    (try simp only [Exit.inBlock, Exit.then])
    refine bodyPost_ret (results_cell_row rfl _ _ _ _ _ _ _ rfl (pair_set2 HB4.out _ _) Try.underlying76 rfl (by kernel_rfl)) rfl ?_
    refine ⟨_, rfl, (HSW.out.then Q2.out).put2 (fun h => by omega) _ _, _, by first | (rw [← HSG.out]; done) | (rw [← HSG.out]; rfl), ?_⟩
    exact HV4.out.put HF4.out (by have := HSZ.out; first | omega | (rw [World.size_drew]; omega) | (simp; omega)) ((Only.refl (· = w.heap.size + 2) w4).put2 (fun _ => rfl) _ _)
  · obtain ⟨p, hp⟩ : ∃ p, p = decide (x < 0) := ⟨_, rfl⟩
    obtain ⟨q, hq⟩ : ∃ q, q = decide (y < 0) := ⟨_, rfl⟩
    have hpq : q = !p := by rw [hp, hq]; by_cases h : x < 0 <;> simp [h] <;> omega
    rw [← hp, ← hq] at HB3 ⊢
    have cl := fun w0 hS0 => less_any _ _ x.natAbs y.natAbs w0 (HS1.out.same hS0) (HS2.out.same hS0) (by omega) (by omega)
    have CL := Lib.hid cl
    clear cl
    obtain ⟨W3, hW3⟩ : ∃ W3, W3 = ((w.alloc (.cells #[.slice a1 (nb x.natAbs).length c1, .bool p] 76)).alloc (.cells #[.slice a2 (nb y.natAbs).length c2, .bool q] 76)).alloc (.cells #[.slice none 0 0, .bool false] 76) := ⟨_, rfl⟩
    have hSW : Same w W3 := by rw [hW3]; exact (((Only.refl _ w).alloc _).alloc _).alloc _
    have hsz : W3.heap.size = w.heap.size + 3 := by rw [hW3, World.size_alloc, World.size_alloc, World.size_alloc]
    rw [← hW3] at HB3
    have HSW := Lib.hid hSW; have HSZ := Lib.hid hsz; have HP := Lib.hid hp; have HQ := Lib.hid hq; have HS := Lib.hid hsame
    subst hpq
    have hpp : (p == !p) = false := by cases p <;> rfl
    clear hSW hsz hp hq hsame
    obtain ⟨m0, m1, m2, m3⟩ := pair_facts2 HB3.out.1
    obtain ⟨n0, n1, n2, n3⟩ := pair_facts2 HB3.out.2.1
    by_cases hlt : x.natAbs < y.natAbs
    · have hl := decide_eq_true hlt
      have hsub : y.natAbs - x.natAbs = (x + y).natAbs := by have := HS.out; omega
      have hsg : (!p) = decide (x + y < 0) := by rw [HQ.out]; exact decide_eq_decide.2 (by have := HS.out; omega)
      rw [hl] at CL
      have HSG := Lib.hid hsg; have HL := Lib.hid hlt
      clear hsg hl hlt
      have ct := fun w0 hS0 => minus_any _ _ (nb y.natAbs) (nb x.natAbs) w0 (HS2.out.same hS0) (HS1.out.same hS0) (by omega) (nb_len_mono (by have := HL.out; omega)) (by rw [bv_nb, bv_nb]; have := HL.out; omega)
      rw [bv_nb, bv_nb, hsub] at ct
      have CT := Lib.hid ct
      clear ct hsub
      go_enter Try.func48, Try.ntmps48
      go_upto_region 4 with ((first | rw [← hW3]); go_at_call 78; refine (CL.out _ HSW.out).mono ?_; rintro e w3 ⟨rfl, hS3⟩)
      have q0 : Only (· = w.heap.size + 2) w3 w3 := Only.refl _ _
      have hSw3 := HSW.out.then hS3
      have k0 := hS3.cell_eq m0 (fun h => h)
      have k1 := hS3.cell_eq n1 (fun h => h)
      have k2 := hS3.cell_eq n0 (fun h => h)
      have hK : ∀ w', Only (· = w.heap.size + 2) w3 w' → (Only (· = w.heap.size + 2) w3 w' ∧ w'.cell? ⟨w.heap.size, 0, none⟩ = some (.slice a1 (nb x.natAbs).length c1) ∧ w'.cell? ⟨w.heap.size + 1, 1, none⟩ = some (.bool (!p)) ∧ w'.cell? ⟨w.heap.size + 1, 0, none⟩ = some (.slice a2 (nb y.natAbs).length c2)) := fun w' h =>
        ⟨h, h.cell_eq k0 (by omega), h.cell_eq k1 (by omega), h.cell_eq k2 (by omega)⟩
      have HK := Lib.hid hK; have HSw3 := Lib.hid hSw3; have hb30 := hS3.heap HB3.out.2.2 (fun h => h); have HB30 := Lib.hid hb30
      have hsz3 := hS3.size
      have HSZ3 := Lib.hid hsz3
      clear hK k0 k1 k2 m0 m1 m2 m3 n0 n1 n2 n3 hSw3 hb30 hsz3
      go_region_held3 (fun w' => Only (· = w.heap.size + 2) w3 w' ∧ w'.cell? ⟨w.heap.size, 0, none⟩ = some (.slice a1 (nb x.natAbs).length c1) ∧ w'.cell? ⟨w.heap.size + 1, 1, none⟩ = some (.bool (!p)) ∧ w'.cell? ⟨w.heap.size + 1, 0, none⟩ = some (.slice a2 (nb y.natAbs).length c2))
        (first | exact HK.out _ q0 | exact HK.out _ q0.drew | exact HK.out _ q1 | exact HK.out _ q1.drew | exact HK.out _ (Only.put2 q1 (fun _ => rfl) _ _))
        (first
          | (go_at_call 79; refine (CT.out _ (by first | exact HSw3.out | exact HSw3.out.drew)).mono ?_; rintro e w4 ⟨v4, rfl, hS4, hV4, hF4⟩; obtain ⟨a4, c4, rfl, hc4, hm4⟩ := hV4.lit; have HV4 := Lib.hid hV4; have HF4 := Lib.hid hF4; clear hV4 hF4; have q2 : Same w3 w4 := Only.then (by first | exact Only.refl _ _ | exact Only.drew (Only.refl _ _)) hS4; have q1 : Only (· = w.heap.size + 2) w3 w4 := q2.mono (fun _ _ h => h.elim); have hb4 := q2.heap HB30.out (fun h => h); obtain ⟨o0, o1, o2, o3⟩ := pair_facts2 hb4; have HB4 := Lib.hid hb4; have Q2 := Lib.hid q2; clear hb4 q2))
      go_wp2_with fail
      (try simp only [Exit.inBlock, Exit.then])
      refine bodyPost_ret (results_cell_row rfl _ _ _ _ _ _ _ rfl (pair_set2 HB4.out _ _) Try.underlying76 rfl (by kernel_rfl)) rfl ?_
      refine ⟨_, rfl, (HSw3.out.then Q2.out).put2 (fun h => by omega) _ _, _, by first | (rw [← HSG.out]; done) | (rw [← HSG.out]; rfl), ?_⟩
      exact HV4.out.put HF4.out (by have := HSZ.out; have := HSZ3.out; first | omega | (rw [World.size_drew]; omega) | (simp; omega)) ((Only.refl (· = w.heap.size + 2) w4).put2 (fun _ => rfl) _ _)
    · have hl := decide_eq_false hlt
      have hsub : x.natAbs - y.natAbs = (x + y).natAbs := by have := HS.out; omega
      have hsg : (p && decide (0 < (nb (x + y).natAbs).length)) = decide (x + y < 0) := by
        rw [HP.out, decide_eq_decide.2 (nb_len_pos (n := (x + y).natAbs)), ← Bool.decide_and]
        exact decide_eq_decide.2 (by have := HS.out; omega)
      have hsl : (nb (x + y).natAbs).length ≤ 800000 := by have := nb_len_mono (m := (x + y).natAbs) (n := x.natAbs) (by have := HS.out; omega); omega
      rw [hl] at CL
      have HSG := Lib.hid hsg; have HL := Lib.hid hlt
      clear hsg hl hlt
      have ct := fun w0 hS0 => minus_any _ _ (nb x.natAbs) (nb y.natAbs) w0 (HS1.out.same hS0) (HS2.out.same hS0) (by omega) (nb_len_mono (by have := HL.out; omega)) (by rw [bv_nb, bv_nb]; have := HL.out; omega)
      rw [bv_nb, bv_nb, hsub] at ct
      have CT := Lib.hid ct
      clear ct hsub
      have hz : ¬ 0 < (nb (x + y).natAbs).length ∨ 0 < (nb (x + y).natAbs).length := by omega
      cases p
      all_goals rcases hz with hz | hz
      all_goals
        simp only [Bool.not_true, Bool.not_false] at hW3 n1 ⊢
        subst hW3
        have hsgn := HSG.out
        simp only [hz, decide_true, decide_false, Bool.and_false, Bool.and_true, Bool.false_and, Bool.true_and] at hsgn
        have HSGN := Lib.hid hsgn
        clear hsgn HSG
        go_enter Try.func48, Try.ntmps48
        go_wp2_with (first
          | (go_at_call 78; refine (CL.out _ HSW.out).mono ?_; rintro e w3 ⟨rfl, hS3⟩; have k0 := hS3.cell_eq m0 (fun h => h); have k1 := hS3.cell_eq m1 (fun h => h); have k2 := hS3.cell_eq n0 (fun h => h); have HS3 := Lib.hid hS3)
          | (go_at_call 79; refine (CT.out _ (HSW.out.then HS3.out)).mono ?_; rintro e w4 ⟨v4, rfl, hS4, hV4, hF4⟩; obtain ⟨a4, c4, rfl, hc4, hm4⟩ := hV4.lit; have HV4 := Lib.hid hV4; have HF4 := Lib.hid hF4; clear hV4 hF4; have p1 := hS4.cell_eq k1 (fun h => h); have HS4 := Lib.hid hS4; obtain ⟨o0, o1, o2, o3⟩ := pair_facts2 (hS4.heap (HS3.out.heap HB3.out.2.2 (fun h => h)) (fun h => h))))
        have HSx : Hid (Same w w4) := Lib.hid ((HSW.out.then HS3.out).then HS4.out)
        have hb4 := HS4.out.heap (HS3.out.heap HB3.out.2.2 (fun h => h)) (fun h => h)
        have HB4 := Lib.hid hb4
        clear hb4
        (try simp only [Exit.inBlock, Exit.then])
        refine bodyPost_ret (results_cell_row rfl _ _ _ _ _ _ _ rfl (pair_set2 HB4.out _ _) Try.underlying76 rfl (by kernel_rfl)) rfl ?_
        refine ⟨_, rfl, HSx.out.put2 (fun h => by omega) _ _, _, by first | (rw [← HSGN.out]; done) | (rw [← HSGN.out]; rfl), ?_⟩
        exact HV4.out.put HF4.out (by have := HSZ.out; have := HS3.out.size; omega) ((Only.refl (· = w.heap.size + 2) w4).put2 (fun _ => rfl) _ _)
end Go.Proofs.Ytafhgpknffkjmaa
