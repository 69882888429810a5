import Derived.Test.YtjegohibpojneaaDenseScore
set_option linter.unusedVariables false
set_option linter.unusedSimpArgs false
namespace Go.Proofs.Ytjegohibpojneaa
open Go.RowKit
attribute [local go_sem ↓] Go.wp_at_zero Go.wp_at_succ

set_option maxRecDepth 100000 in
set_option maxHeartbeats 8000000 in
/-- ref07.Score of any two vectors. -/
theorem vscore_any (m : Int) (va vb : Value) (a b : List Int) (w : World) (ha : Sl w (.int .i64) va a) (hb : Sl w (.int .i64) vb b) (hla : ∀ x ∈ a, i64b x) (hlb : ∀ x ∈ b, i64b x) :
    Calls Try.prog 72 #[.int .i64 m, va, vb] w fun e w' => e = .returned (.tuple #[.int .i64 (scoreP m a b).1, .int .i64 (scoreP m a b).2]) ∧ Same w w' := by
  by_cases h0 : m < 0 ∨ 1 < m
  · have hs : scoreP m a b = (0, 1) := by unfold scoreP; rw [if_pos h0]
    rw [hs]
    have hd : (m == 0) = false := by simp; omega
    have hd2 : (m == 1) = false := by simp; omega
    have hd3 : (m != 0) = true := by simp; omega
    have hd4 : (m != 1) = true := by simp; omega
    have hn0 : ¬ m = 0 := by omega
    have hn1 : ¬ m = 1 := by omega
    clear h0
    go_enter Try.func72, Try.ntmps72
    go_wp2_with fail
    go_ret2
    exact ⟨rfl, Only.refl _ _⟩
  have hm01 : m = 0 ∨ m = 1 := by omega
  have ca := fun w0 (h : Same w w0) => vright_any va a w0 (ha.same h) hla
  have cb := fun w0 (h : Same w w0) => vright_any vb b w0 (hb.same h) hlb
  have HA := Lib.hid ha; have HB := Lib.hid hb
  obtain ⟨a1, c1, rfl, hc1, hm1, _, _⟩ := ha
  obtain ⟨a2, c2, rfl, hc2, hm2, _, _⟩ := hb
  unfold maxLen at hm1 hm2
  cases va : vecB a with
  | false =>
    have hs : scoreP m a b = (0, 2) := by unfold scoreP; rw [if_neg (by omega), va]; rfl
    rw [hs]
    rw [va] at ca
    have CA := Lib.hid ca
    clear ca cb va hs h0
    rcases hm01 with rfl | rfl
    all_goals
     go_enter Try.func72, Try.ntmps72
     go_wp2_with fail
     refine (CA.out _ (Only.refl _ _)).mono ?_
     rintro e w1 ⟨rfl, hS1⟩
     go_wp2_with fail
     go_ret2
     exact ⟨rfl, hS1⟩
  | true =>
  rw [va] at ca
  cases vb : vecB b with
  | false =>
    have hs : scoreP m a b = (0, 2) := by unfold scoreP; rw [if_neg (by omega), va, vb]; rfl
    rw [hs]
    rw [vb] at cb
    have CA := Lib.hid ca; have CB := Lib.hid cb
    clear ca cb va vb hs h0
    rcases hm01 with rfl | rfl
    all_goals
     go_enter Try.func72, Try.ntmps72
     go_wp2_with fail
     refine (CA.out _ (Only.refl _ _)).mono ?_
     rintro e w1 ⟨rfl, hS1⟩
     go_wp2_with fail
     refine (CB.out _ hS1).mono ?_
     rintro e w2 ⟨rfl, hS2⟩
     go_wp2_with fail
     go_ret2
     exact ⟨rfl, hS1.then hS2⟩
  | true =>
  rw [vb] at cb
  have hs : scoreP m a b = (scS m a b 8, 0) := by unfold scoreP; rw [if_neg (by omega), va, vb]; rfl
  rw [hs]
  obtain ⟨hl1, hr1⟩ := vecB_facts va
  obtain ⟨hl2, hr2⟩ := vecB_facts vb
  have CA := Lib.hid ca; have CB := Lib.hid cb
  have HR := Lib.hid (sc_range m a b hr1 hr2)
  have HR1 := Lib.hid hr1; have HR2 := Lib.hid hr2; have HL1 := Lib.hid hl1; have HL2 := Lib.hid hl2
  clear ca cb va vb hs hr1 hr2
  rw [hl1, hl2]
  rw [hl1] at CA HA hc1
  rw [hl2] at CB HB hc2
  clear hl1 hl2 h0
  rcases hm01 with rfl | rfl
  · go_enter Try.func72, Try.ntmps72
    go_wp2_with fail
    refine (CA.out _ (Only.refl _ _)).mono ?_
    rintro e w1 ⟨rfl, hS1⟩
    have HS1 := Lib.hid hS1
    clear hS1 CA
    go_wp2_with fail
    refine (CB.out _ HS1.out).mono ?_
    rintro e w2 ⟨rfl, hS2⟩
    have HS2 := Lib.hid (HS1.out.then hS2)
    clear hS2 CB HS1
    go_wp2_with fail
    go_loopw [8, 9] (fun n i wr => ∃ k : Nat, k ≤ 8 ∧ i = .int .i64 k ∧ n = .int .i64 (scS 0 a b k) ∧ Same w wr) (fun _ i _ => 8 - (intOf i).toNat)
    case atStart => exact ⟨0, by omega, rfl, rfl, HS2.out⟩
    case round =>
      obtain ⟨k, hk, rfl, rfl, hS⟩ := hrel
      obtain ⟨w3, hw3⟩ : ∃ x, x = wr := ⟨_, rfl⟩
      subst hw3
      have HS := Lib.hid hS
      clear hS
      by_cases hlt : k < 8
      · have hd8 : decide ((k : Int) < 8) = true := decide_eq_true (by omega)
        have hd9 : decide (k < 8) = true := decide_eq_true hlt
        have hsa := HA.out.same HS.out
        have hsb := HB.out.same HS.out
        obtain ⟨b1, o1, rfl, hca⟩ := hsa.spot (by have := HL1.out; omega)
        obtain ⟨b2, o2, rfl, hcb⟩ := hsb.spot (by have := HL2.out; omega)
        have hka : k < a.length := by have := HL1.out; omega
        have hkb : k < b.length := by have := HL2.out; omega
        have k1 := hca k hka
        have k2 := hcb k hkb
        have hx := HR1.out a[k] (List.getElem_mem hka)
        have hy := HR2.out b[k] (List.getElem_mem hkb)
        have hse := scS_eq 0 a b k hka hkb
        have hrg := HR.out k
        generalize a[k] = x at *
        generalize b[k] = y at *
        have HSE := Lib.hid hse
        have q0 : Same w3 w3 := Only.refl _ _
        have hkI : (k : Int) < 8 := by omega
        have hKK : ∀ w', Same w3 w' → (w'.cell? ⟨b1, o1 + k, none⟩ = some (.int .i64 x) ∧ w'.cell? ⟨b2, o2 + k, none⟩ = some (.int .i64 y)) := fun w' h => ⟨h.cell_eq k1 (fun h => h), h.cell_eq k2 (fun h => h)⟩
        have HK := Lib.hid hKK
        have hbr := br_range 0 x y hx hy
        generalize scS 0 a b k = n at *
        generalize hv : brP 0 x y = v at *
        have HV := Lib.hid hv
        have hw5 : IntKind.i64.wrap (n + v) = n + v := wrapS (by omega)
        have hw6 : IntKind.i64.wrap ((k : Int) + 1) = (k : Int) + 1 := wrapS (by omega)
        clear hsa hsb hca hcb hse hKK hka hkb hv
        have hv0 : v = x * y := HV.out.symm
        rw [hv0] at hw5 hbr
        have hxy : IntKind.i64.wrap (x * y) = x * y := wrapS (by omega)
        have HE : Hid (scS 0 a b (k + 1) = n + x * y) := Lib.hid (by rw [HSE.out, hv0])
        have g1 := k1; have g2 := k2
        clear hv0 hbr HV HSE HK q0
        go_upto_region 10 with fail
        go_quiet (fail)
        rename_i nq
        go_wp2_with fail
        go_roundw
        case rel => exact ⟨k + 1, by omega, by go_num, by rw [HE.out], HS.out.drewN nq⟩
        case measure => simp [intOf]; omega
      · obtain rfl : k = 8 := by omega
        go_wp2_with fail
        go_ret2
        exact ⟨rfl, HS.out⟩
  · go_enter Try.func72, Try.ntmps72
    go_wp2_with fail
    refine (CA.out _ (Only.refl _ _)).mono ?_
    rintro e w1 ⟨rfl, hS1⟩
    have HS1 := Lib.hid hS1
    clear hS1 CA
    go_wp2_with fail
    refine (CB.out _ HS1.out).mono ?_
    rintro e w2 ⟨rfl, hS2⟩
    have HS2 := Lib.hid (HS1.out.then hS2)
    clear hS2 CB HS1
    go_wp2_with fail
    go_loopw [8, 9] (fun n i wr => ∃ k : Nat, k ≤ 8 ∧ i = .int .i64 k ∧ n = .int .i64 (scS 1 a b k) ∧ Same w wr) (fun _ i _ => 8 - (intOf i).toNat)
    case atStart => exact ⟨0, by omega, rfl, rfl, HS2.out⟩
    case round =>
      obtain ⟨k, hk, rfl, rfl, hS⟩ := hrel
      obtain ⟨w3, hw3⟩ : ∃ x, x = wr := ⟨_, rfl⟩
      subst hw3
      have HS := Lib.hid hS
      clear hS
      by_cases hlt : k < 8
      · have hd8 : decide ((k : Int) < 8) = true := decide_eq_true (by omega)
        have hd9 : decide (k < 8) = true := decide_eq_true hlt
        have hsa := HA.out.same HS.out
        have hsb := HB.out.same HS.out
        obtain ⟨b1, o1, rfl, hca⟩ := hsa.spot (by have := HL1.out; omega)
        obtain ⟨b2, o2, rfl, hcb⟩ := hsb.spot (by have := HL2.out; omega)
        have hka : k < a.length := by have := HL1.out; omega
        have hkb : k < b.length := by have := HL2.out; omega
        have k1 := hca k hka
        have k2 := hcb k hkb
        have hx := HR1.out a[k] (List.getElem_mem hka)
        have hy := HR2.out b[k] (List.getElem_mem hkb)
        have hse := scS_eq 1 a b k hka hkb
        have hrg := HR.out k
        generalize a[k] = x at *
        generalize b[k] = y at *
        have HSE := Lib.hid hse
        have q0 : Same w3 w3 := Only.refl _ _
        have hkI : (k : Int) < 8 := by omega
        have hKK : ∀ w', Same w3 w' → (w'.cell? ⟨b1, o1 + k, none⟩ = some (.int .i64 x) ∧ w'.cell? ⟨b2, o2 + k, none⟩ = some (.int .i64 y)) := fun w' h => ⟨h.cell_eq k1 (fun h => h), h.cell_eq k2 (fun h => h)⟩
        have HK := Lib.hid hKK
        have hbr := br_range 1 x y hx hy
        generalize scS 1 a b k = n at *
        generalize hv : brP 1 x y = v at *
        have HV := Lib.hid hv
        have hw5 : IntKind.i64.wrap (n + v) = n + v := wrapS (by omega)
        have hw6 : IntKind.i64.wrap ((k : Int) + 1) = (k : Int) + 1 := wrapS (by omega)
        clear hsa hsb hca hcb hse hKK hka hkb hv
        have hv0 : v = -((x - y) * (x - y)) := by rw [← Int.neg_mul]; exact HV.out.symm
        have hxy : IntKind.i64.wrap (x - y) = x - y := wrapS (by omega)
        have HE : Hid (scS 1 a b (k + 1) = n - (x - y) * (x - y)) := Lib.hid (by rw [HSE.out, hv0]; omega)
        rw [hv0] at hbr hw5
        have hsq : IntKind.i64.wrap ((x - y) * (x - y)) = (x - y) * (x - y) := wrapS (by omega)
        have hsb : IntKind.i64.wrap (n - (x - y) * (x - y)) = n - (x - y) * (x - y) := wrapS (by omega)
        have g1 := k1; have g2 := k2
        clear hv0 hbr HV HSE HK q0 hw5
        go_upto_region 11 with fail
        go_quiet (fail)
        rename_i nq
        go_wp2_with fail
        go_roundw
        case rel => exact ⟨k + 1, by omega, by go_num, by rw [HE.out], HS.out.drewN nq⟩
        case measure => simp [intOf]; omega
      · obtain rfl : k = 8 := by omega
        go_wp2_with fail
        go_ret2
        exact ⟨rfl, HS.out⟩
end Go.Proofs.Ytjegohibpojneaa
