import Derived.Test.YtjegohibpojneaaTopAwake
import Derived.Test.YtjegohibpojneaaTopOrderP
import Derived.Deep.CutRange
set_option linter.unusedVariables false
set_option linter.unusedSimpArgs false
namespace Go.Proofs.Ytjegohibpojneaa
open Go.RowKit
attribute [local go_sem ↓] Go.wp_at_zero Go.wp_at_succ

set_option maxRecDepth 100000 in
set_option maxHeartbeats 16000000 in
theorem topkOrder_walk (K M : Int) (v0 : Value) (l : List (Int × Int)) (w : World) (hK : -9223372036854775808 ≤ K ∧ K ≤ 9223372036854775807) (hM : -9223372036854775808 ≤ M ∧ M ≤ 9223372036854775807) (h0 : SlP w v0 l) :
    Calls Try.prog 9 #[.int .i64 K, .int .i64 M, v0] w fun e w' => e = .returned (.bool true) ∧ Same w w' := by
  have H0 := Lib.hid h0; have HKR := Lib.hid hK; have HMR := Lib.hid hM
  obtain ⟨ad, cp, rfl, hcp, hmx⟩ := h0.lit
  unfold maxLen at hmx
  clear h0 hK hM
  go_enter Try.func9, Try.ntmps9
  go_wp2_with fail
  refine (tawake_any _).mono ?_
  rintro e w1 ⟨rfl, hS1⟩
  have HS1 := Lib.hid hS1
  clear hS1
  by_cases hl : 200 < l.length
  · have hld : decide ((200 : Int) < (l.length : Int)) = true := decide_eq_true (by omega)
    go_wp2_with fail
    go_ret
    exact ⟨rfl, HS1.out⟩
  have hld : decide ((200 : Int) < (l.length : Int)) = false := decide_eq_false (by omega)
  have hldn : decide (200 < l.length) = false := decide_eq_false hl
  by_cases hk0 : K < 0
  · have hd1 : decide (K < 0) = true := decide_eq_true hk0
    go_wp2_with fail
    go_ret
    exact ⟨rfl, HS1.out⟩
  have hd1 : decide (K < 0) = false := decide_eq_false hk0
  by_cases hkm : M < K
  · have hd2 : decide (M < K) = true := decide_eq_true hkm
    go_wp2_with fail
    go_ret
    exact ⟨rfl, HS1.out⟩
  have hd2 : decide (M < K) = false := decide_eq_false hkm
  have hinf : (Try.prog.info? 89).map (fun i => (i.zero, i.size, i.bytes)) = some (some (.agg #[.int .i64 0, .int .i64 0]), 2, 16) := by kernel_rfl
  have HINF := Lib.hid hinf
  have hwl : IntKind.i64.wrap ((l.length : Int) - 1) = (l.length : Int) - 1 := by rw [IntKind.wrap_i64]; omega
  clear hinf
  have hll : l.length ≤ 200 := by omega
  have HK0 : Hid (0 ≤ K) := Lib.hid (by omega)
  clear hl hk0 hldn
  have HKM := Lib.hid hkm
  clear hkm
  go_wp2_with fail
  go_loopw [7, 8] (fun v i wr => ∃ r : Nat, r ≤ l.length ∧ i = .int .i64 ((r : Int) - 1) ∧ Same w1 wr ∧ wr.ownsRow w1.heap.size 89 2 v (l.length - r) (cells2 (l.drop r).reverse)) (fun _ i _ => (intOf i + 1).toNat)
  case atStart => exact ⟨l.length, by omega, rfl, Only.refl _ _, by rw [Nat.sub_self, List.drop_length]; exact World.ownsRow_nil _ _ _ _⟩
  case round =>
    obtain ⟨r, hr, rfl, hS, hown⟩ := hrel
    obtain ⟨w2, hw2⟩ : ∃ x, x = wr := ⟨_, rfl⟩
    subst hw2
    have HS := Lib.hid hS; have HW := Lib.hid hown
    clear hS hown
    cases r with
    | succ q =>
      have e1 : (((q + 1 : Nat) : Int) - 1) = (q : Int) := by omega
      rw [e1]
      have hq : q < l.length := by omega
      have hsl := H0.out.same (HS1.out.then HS.out)
      obtain ⟨b1, o1, rfl, hcell⟩ := hsl.spot (by omega)
      have k1 := (hcell q hq).1
      have k2 := (hcell q hq).2
      obtain ⟨x, hx⟩ : ∃ x, x = l[q] := ⟨_, rfl⟩
      rw [← hx] at k1 k2
      have HX : Hid ((l.drop q).reverse = (l.drop (q + 1)).reverse ++ [x]) := Lib.hid (by rw [List.drop_eq_getElem_cons hq, List.reverse_cons, hx])
      have hwq : IntKind.i64.wrap ((q : Int) - 1) = (q : Int) - 1 := by rw [IntKind.wrap_i64]; omega
      clear hsl hcell hx e1
      go_wp2_with (at_builtin; refine app_one [.int .i64 x.1, .int .i64 x.2] rfl (.tmp 36) (.tmp 41) 85 rfl w1.heap.size 89 (.agg #[.int .i64 0, .int .i64 0]) 2 16 Try.underlying85 HINF.out rfl (by decide) _ (l.length - (q + 1)) _ rfl HW.out rfl ?_ rfl (by intro u hu; simp at hu; rcases hu with rfl | rfl <;> rfl) (by unfold maxLen; omega) (by omega) HS.out.size; intro v' w3 hown3 hO3)
      have HF : Hid (Same w1 w3 ∧ w3.ownsRow w1.heap.size 89 2 v' (l.length - q) (cells2 (l.drop q).reverse)) := Lib.hid (by
        refine ⟨HS.out.trans hO3 (fun i h1 h2 => by have h3 : w1.heap.size ≤ i := h2; omega), ?_⟩
        rw [HX.out, cells2_snoc, show l.length - q = l.length - (q + 1) + 1 by omega]
        exact hown3)
      clear hown3 hO3 HW HS
      go_wp2_with fail
      go_roundw
      case rel => exact ⟨q, by omega, rfl, HF.out⟩
      case measure => simp [intOf]
    | zero =>
      have hd : decide ((0 : Int) ≤ ((0 : Nat) : Int) - 1) = false := by decide
      rw [List.drop_zero] at HW
      have HTU := Lib.hid (own_slp HW.out)
      rw [Nat.sub_zero] at HW
      have hsl2 := H0.out.same (HS1.out.then HS.out)
      have cA := fun w0 (h : Same w2 w0) => tbest_any K _ l w0 (hsl2.same h) (by omega) HKR.out
      have cB := fun w0 (h : Same w2 w0) => tbest_any K _ l.reverse w0 (HTU.out.same h) (by simp; omega) HKR.out
      have cC := fun w0 (h : Same w2 w0) => tbest_any M _ l w0 (hsl2.same h) (by omega) HMR.out
      have hrev : bestP K l.reverse = bestP K l := bestP_perm K (List.reverse_perm l)
      rw [hrev] at cB
      obtain ⟨sa, sc, hsa, hsc0, hal, hcl, htk, hct, hso⟩ : ∃ sa sc : List (Int × Int), sa = bestP K l ∧ sc = bestP M l ∧ sa.length = min K.toNat l.length ∧ sc.length = min M.toNat l.length ∧ sc.take sa.length = sa ∧ (0 < sa.length → l.countP (fun x => betP x (lastT sa)) < sa.length) ∧ ∀ (i : Nat) (h : i + 1 < sc.length), betP sc[i + 1] sc[i] = false :=
        ⟨bestP K l, bestP M l, rfl, rfl, bestP_len K l, bestP_len M l, bestP_take K M l HKM.out, best_count K l, best_sorted M l⟩
      rw [← hsa] at cA cB
      rw [← hsc0] at cC
      have CA := Lib.hid cA; have CB := Lib.hid cB; have CC := Lib.hid cC
      clear cA cB cC hrev hsl2 HTU HW hsa hsc0
      have HAL := Lib.hid hal; have HCL := Lib.hid hcl; have HTK := Lib.hid htk; have HCT := Lib.hid hct; have HSO := Lib.hid hso
      clear hal hcl htk hct hso
      go_wp2_with fail
      refine (CA.out _ (Only.refl _ _)).mono ?_
      rintro e w3 ⟨va, rfl, hS3, hwa⟩
      have HS3 := Lib.hid hS3; have HA3 := Lib.hid (own_slp hwa)
      clear hS3 hwa CA
      go_wp2_with fail
      refine (CB.out _ HS3.out).mono ?_
      rintro e w4 ⟨vb, rfl, hS4, hwb⟩
      have HS4 := Lib.hid (HS3.out.then hS4); have HA4 := Lib.hid (HA3.out.same hS4); have HB4 := Lib.hid (own_slp hwb)
      clear hS4 hwb CB HS3 HA3
      go_wp2_with fail
      refine (CC.out _ HS4.out).mono ?_
      rintro e w5 ⟨vc, rfl, hS5, hwc⟩
      have HS5 := Lib.hid ((HS1.out.then HS.out).then (HS4.out.then hS5)); have HA5 := Lib.hid (HA4.out.same hS5); have HB5 := Lib.hid (HB4.out.same hS5); have HC5 := Lib.hid (own_slp hwc)
      clear hS5 hwc CC HS4 HA4 HB4
      obtain ⟨aa, ca, rfl, hca, hma⟩ := HA5.out.lit
      obtain ⟨ac, cc, rfl, hcc, hmc⟩ := HC5.out.lit
      have hle : sa.length ≤ sc.length := by have := HAL.out; have := HCL.out; have := HKM.out; omega
      have hmin : sa.length = min K.toNat l.length := HAL.out
      have hsc : SlP w5 (.slice ac sa.length cc) sa := by
        have := slp_low HC5.out sa.length hle
        rw [HTK.out] at this
        exact this
      have HSC := Lib.hid hsc
      have cs1 : ∀ w0, Same w5 w0 → Calls Try.prog 57 #[.slice aa sa.length ca, vb] w0 fun e w' => e = .returned (.bool true) ∧ Same w0 w' := fun w0 h => by
        have := rsame04_any _ _ sa sa w0 (HA5.out.same h) (HB5.out.same h)
        rw [decide_eq_true rfl] at this
        exact this
      have cs2 : ∀ w0, Same w5 w0 → Calls Try.prog 57 #[.slice aa sa.length ca, .slice ac sa.length cc] w0 fun e w' => e = .returned (.bool true) ∧ Same w0 w' := fun w0 h => by
        have := rsame04_any _ _ sa sa w0 (HA5.out.same h) (HSC.out.same h)
        rw [decide_eq_true rfl] at this
        exact this
      have CS1 := Lib.hid cs1; have CS2 := Lib.hid cs2
      have hb5 : decide (sc.length < sa.length) = false := decide_eq_false (by omega)
      have hb6 : decide ((sc.length : Int) < (sa.length : Int)) = false := decide_eq_false (by omega)
      have hac : sa.length ≤ cc := by omega
      have hminI : (sa.length : Int) = if K < (l.length : Int) then K else (l.length : Int) := by
        have := HK0.out
        split <;> omega
      have HMI := Lib.hid hminI
      clear cs1 cs2 hsc hmin HKM hminI
      go_wp2_with fail
      refine (CS1.out _ (Only.refl _ _)).mono ?_
      rintro e w6 ⟨rfl, hS6⟩
      have HS6 := Lib.hid hS6
      clear hS6 CS1
      have hbm : min K (l.length : Int) = (sa.length : Int) := by
        have h1 := HMI.out
        rw [h1]; split <;> omega
      have hbb : ((sa.length : Int) == (sa.length : Int)) = true := beq_self_eq_true _
      go_wp2_with fail
      refine (CS2.out _ HS6.out).mono ?_
      rintro e w7 ⟨rfl, hS7⟩
      have HS7 := Lib.hid ((HS5.out.then HS6.out).then hS7)
      have hvc : SlP w7 (.slice ac sc.length cc) sc := HC5.out.same (HS6.out.then hS7)
      have hva : SlP w7 (.slice aa sa.length ca) sa := HA5.out.same (HS6.out.then hS7)
      have HVC := Lib.hid hvc; have HVA := Lib.hid hva
      clear hS7 hvc hva CS2 hbm hbb HMI HS6 HC5 HA5 HB5 HSC HS5 hb5 hb6
      go_wp2_with fail
      go_loopw [12] (fun i wr => ∃ j : Nat, j ≤ sc.length ∧ i = .int .i64 j ∧ Same w7 wr) (fun i _ => sc.length - (intOf i).toNat)
      case atStart => exact ⟨0, by omega, rfl, Only.refl _ _⟩
      case round =>
        obtain ⟨j, hj, rfl, hS8⟩ := hrel
        obtain ⟨w8, hw8⟩ : ∃ x, x = wr := ⟨_, rfl⟩
        subst hw8
        have HS8 := Lib.hid hS8
        clear hS8
        have hsl : sc.length ≤ 200 := by have := HCL.out; omega
        have hw1 : IntKind.i64.wrap ((j : Int) + 1) = (j : Int) + 1 := by rw [IntKind.wrap_i64]; omega
        by_cases hlt : j + 1 < sc.length
        · have hd3 : decide ((j : Int) + 1 < (sc.length : Int)) = true := decide_eq_true (by omega)
          have hvc := HVC.out.same HS8.out
          obtain ⟨bc, oc, rfl, hcell⟩ := hvc.spot (by omega)
          have k1 := (hcell (j + 1) hlt).1
          have k2 := (hcell (j + 1) hlt).2
          have k3 := (hcell j (by omega)).1
          have k4 := (hcell j (by omega)).2
          have hb := HSO.out j hlt
          have cb := fun w0 => better_any sc[j + 1] sc[j] w0
          rw [hb] at cb
          obtain ⟨y, hy⟩ : ∃ y, y = sc[j + 1] := ⟨_, rfl⟩
          obtain ⟨z, hz⟩ : ∃ z, z = sc[j] := ⟨_, rfl⟩
          rw [← hy] at k1 k2 cb
          rw [← hz] at k3 k4 cb
          unfold pairV at cb
          have CB := Lib.hid cb
          have hi1 : (0 : Int) ≤ (j : Int) + 1 ∧ (j : Int) + 1 < (sc.length : Int) := by omega
          have hi2 : ((j : Int) + 1).toNat = j + 1 := by omega
          have hjc : j < sc.length := by omega
          have q0 : Same w8 w8 := Only.refl _ _
          have hKK : ∀ w', Same w8 w' → (w'.cell? ⟨bc, oc + (j + 1) * 2, none⟩ = some (.int .i64 y.1) ∧ w'.cell? ⟨bc, oc + (j + 1) * 2 + 1, none⟩ = some (.int .i64 y.2) ∧ w'.cell? ⟨bc, oc + j * 2, none⟩ = some (.int .i64 z.1) ∧ w'.cell? ⟨bc, oc + j * 2 + 1, none⟩ = some (.int .i64 z.2)) := fun w' h => ⟨h.cell_eq k1 (fun h => h), h.cell_eq k2 (fun h => h), h.cell_eq k3 (fun h => h), h.cell_eq k4 (fun h => h)⟩
          have HK := Lib.hid hKK
          clear hvc hcell hb cb hy hz hKK k1 k2 k3 k4
          go_upto_region 16 with fail
          go_region_held3 (fun w' => w'.cell? ⟨bc, oc + (j + 1) * 2, none⟩ = some (.int .i64 y.1) ∧ w'.cell? ⟨bc, oc + (j + 1) * 2 + 1, none⟩ = some (.int .i64 y.2) ∧ w'.cell? ⟨bc, oc + j * 2, none⟩ = some (.int .i64 z.1) ∧ w'.cell? ⟨bc, oc + j * 2 + 1, none⟩ = some (.int .i64 z.2))
            (first | exact HK.out _ q0 | exact HK.out _ q0.drew)
            (first | ((go_at_call 51; refine (CB.out _).mono ?_; rintro e w9 ⟨rfl, hS9⟩; have q0 := Only.then (by first | exact q0 | exact q0.drew) hS9; clear hS9)))
          all_goals
            go_wp2_with fail
            go_roundw
            case rel => exact ⟨j + 1, by omega, by go_num, by first | exact HS8.out.then q0 | exact HS8.out.then q0.drew⟩
            case measure => simp [intOf]; omega
        · have hd3 : decide ((j : Int) + 1 < (sc.length : Int)) = false := decide_eq_false (by omega)
          have hS80 := (HS7.out.then HS8.out)
          have HS80 := Lib.hid hS80
          clear hS80
          have hd5 : decide ((sc.length : Int) ≤ (j : Int) + 1) = true := decide_eq_true (by omega)
          by_cases ha0 : sa.length = 0
          · have hd6 : decide (0 < sa.length) = false := decide_eq_false (by omega)
            have hd7 : decide ((0 : Int) < (sa.length : Int)) = false := decide_eq_false (by omega)
            have hmx1 : max 1 (sa.length : Int) = 1 := by omega
            clear ha0
            go_wp2_with fail
            go_loopw [13, 14] (fun n i wr => n = .int .i64 0 ∧ i = .int .i64 0 ∧ wr = w8) (fun _ _ _ => 0)
            case atStart => exact ⟨rfl, rfl, rfl⟩
            case round =>
              obtain ⟨rfl, rfl, rfl⟩ := hrel
              by_cases hl0 : l.length = 0
              · have hd8 : decide ((0 : Int) < (l.length : Int)) = false := decide_eq_false (by omega)
                have hd9 : decide (0 < l.length) = false := decide_eq_false (by omega)
                clear hl0
                go_wp2_with fail
                go_ret
                exact ⟨rfl, HS80.out⟩
              · have hd8 : decide ((0 : Int) < (l.length : Int)) = true := decide_eq_true (by omega)
                have hd9 : decide (0 < l.length) = true := decide_eq_true (by omega)
                clear hl0
                go_wp2_with fail
                go_ret
                exact ⟨rfl, HS80.out⟩
          · obtain ⟨p, hp0⟩ : ∃ p, sa.length = p + 1 := ⟨sa.length - 1, by omega⟩
            have hd6 : decide (0 < sa.length) = true := decide_eq_true (by omega)
            have hd7 : decide ((0 : Int) < (sa.length : Int)) = true := decide_eq_true (by omega)
            have hmx1 : max 1 (sa.length : Int) = (sa.length : Int) := by omega
            have hct := HCT.out (by omega)
            have hsal : sa.length ≤ 200 := by have := HAL.out; omega
            obtain ⟨ba, oa, rfl, hca⟩ := HVA.out.spot (by omega)
            have hpc : p < sa.length := by omega
            have hz : lastT sa = sa[p] := by
              have e : sa.length - 1 = p := by omega
              unfold lastT
              rw [e]
              exact hp_eq sa p hpc
            have c3 := HS8.out.cell_eq (hca p hpc).1 (fun h => h)
            have c4 := HS8.out.cell_eq (hca p hpc).2 (fun h => h)
            rw [← hz] at c3 c4
            have hw3 : IntKind.i64.wrap ((sa.length : Int) - 1) = (p : Int) := by rw [IntKind.wrap_i64]; omega
            generalize lastT sa = z at *
            have HCT2 := Lib.hid hct; have C3 := Lib.hid c3; have C4 := Lib.hid c4
            clear ha0 hp0 hct hca hz c3 c4 HCT
            go_wp2_with fail
            go_loopw [13, 14] (fun n i wr => ∃ q : Nat, q ≤ l.length ∧ i = .int .i64 q ∧ n = .int .i64 ((l.take q).countP (fun x => betP x z)) ∧ Same w8 wr) (fun _ i _ => l.length - (intOf i).toNat)
            case atStart => exact ⟨0, by omega, rfl, by rfl, Only.refl _ _⟩
            case round =>
              obtain ⟨j, hj, rfl, rfl, hS9⟩ := hrel
              obtain ⟨w9, hw9⟩ : ∃ x, x = wr := ⟨_, rfl⟩
              subst hw9
              have HS9 := Lib.hid hS9
              have c3 := hS9.cell_eq C3.out (fun h => h)
              have c4 := hS9.cell_eq C4.out (fun h => h)
              clear hS9
              by_cases hlt : j < l.length
              · have hd8 : decide ((j : Int) < (l.length : Int)) = true := decide_eq_true (by omega)
                have hd9 : decide (j < l.length) = true := decide_eq_true hlt
                have hsl0 := H0.out.same (HS80.out.then HS9.out)
                obtain ⟨b1, o1, rfl, hcell⟩ := hsl0.spot (by omega)
                have c1 := (hcell j hlt).1
                have c2 := (hcell j hlt).2
                obtain ⟨y, hy⟩ : ∃ y, y = l[j] := ⟨_, rfl⟩
                rw [← hy] at c1 c2
                have HT : Hid (l.take (j + 1) = l.take j ++ [y]) := Lib.hid (by rw [← List.take_append_getElem hlt, ← hy])
                have hcl2 : (l.take j).countP (fun x => betP x z) ≤ 200 := by
                  have := List.countP_le_length (p := fun x => betP x z) (l := l.take j)
                  rw [List.length_take] at this
                  omega
                have cb := fun w0 => better_any y z w0
                have q0 : Same w9 w9 := Only.refl _ _
                have hKK : ∀ w', Same w9 w' → (w'.cell? ⟨b1, o1 + j * 2, none⟩ = some (.int .i64 y.1) ∧ w'.cell? ⟨b1, o1 + j * 2 + 1, none⟩ = some (.int .i64 y.2) ∧ w'.cell? ⟨ba, oa + p * 2, none⟩ = some (.int .i64 z.1) ∧ w'.cell? ⟨ba, oa + p * 2 + 1, none⟩ = some (.int .i64 z.2)) := fun w' h => ⟨h.cell_eq c1 (fun h => h), h.cell_eq c2 (fun h => h), h.cell_eq c3 (fun h => h), h.cell_eq c4 (fun h => h)⟩
                have HK := Lib.hid hKK
                unfold pairV at cb
                have hw4 : IntKind.i64.wrap ((j : Int) + 1) = (j : Int) + 1 := by rw [IntKind.wrap_i64]; omega
                obtain ⟨n, hn⟩ : ∃ n, n = (l.take j).countP (fun x => betP x z) := ⟨_, rfl⟩
                rw [← hn] at hcl2 ⊢
                have HN := Lib.hid hn
                have hw5 : IntKind.i64.wrap ((n : Int) + 1) = (n : Int) + 1 := by rw [IntKind.wrap_i64]; omega
                clear hsl0 hcell hy hKK c1 c2 c3 c4 hn
                cases hb : betP y z with
                | true =>
                  rw [hb] at cb
                  have CB := Lib.hid cb; have HB := Lib.hid hb
                  clear cb hb
                  go_upto_region 22 with fail
                  go_region_held3 (fun w' => w'.cell? ⟨b1, o1 + j * 2, none⟩ = some (.int .i64 y.1) ∧ w'.cell? ⟨b1, o1 + j * 2 + 1, none⟩ = some (.int .i64 y.2) ∧ w'.cell? ⟨ba, oa + p * 2, none⟩ = some (.int .i64 z.1) ∧ w'.cell? ⟨ba, oa + p * 2 + 1, none⟩ = some (.int .i64 z.2))
                    (first | exact HK.out _ q0 | exact HK.out _ q0.drew)
                    (first | ((go_at_call 51; refine (CB.out _).mono ?_; rintro e w10 ⟨rfl, hS10⟩; have q0 := Only.then (by first | exact q0 | exact q0.drew) hS10; clear hS10)))
                  all_goals
                    go_wp2_with fail
                    go_roundw
                    case rel => exact ⟨j + 1, by omega, by go_num, by rw [HT.out, List.countP_append, ← HN.out]; simp [HB.out], by first | exact HS9.out.then q0 | exact HS9.out.then q0.drew⟩
                    case measure => simp [intOf]; omega
                | false =>
                  rw [hb] at cb
                  have CB := Lib.hid cb; have HB := Lib.hid hb
                  clear cb hb
                  go_upto_region 22 with fail
                  go_region_held3 (fun w' => w'.cell? ⟨b1, o1 + j * 2, none⟩ = some (.int .i64 y.1) ∧ w'.cell? ⟨b1, o1 + j * 2 + 1, none⟩ = some (.int .i64 y.2) ∧ w'.cell? ⟨ba, oa + p * 2, none⟩ = some (.int .i64 z.1) ∧ w'.cell? ⟨ba, oa + p * 2 + 1, none⟩ = some (.int .i64 z.2))
                    (first | exact HK.out _ q0 | exact HK.out _ q0.drew)
                    (first | ((go_at_call 51; refine (CB.out _).mono ?_; rintro e w10 ⟨rfl, hS10⟩; have q0 := Only.then (by first | exact q0 | exact q0.drew) hS10; clear hS10)))
                  all_goals
                    go_wp2_with fail
                    go_roundw
                    case rel => exact ⟨j + 1, by omega, by go_num, by rw [HT.out, List.countP_append, ← HN.out]; simp [HB.out], by first | exact HS9.out.then q0 | exact HS9.out.then q0.drew⟩
                    case measure => simp [intOf]; omega
              · have hd8 : decide ((j : Int) < (l.length : Int)) = false := decide_eq_false (by omega)
                have hd9 : decide (j < l.length) = false := decide_eq_false hlt
                have hn : l.take j = l := List.take_of_length_le (by omega)
                rw [hn]
                have hlt9 : decide (((l.countP (fun x => betP x z) : Nat) : Int) < (sa.length : Int)) = true := decide_eq_true (by have := HCT2.out; omega)
                have hlt10 : decide (l.countP (fun x => betP x z) < sa.length) = true := decide_eq_true HCT2.out
                generalize l.countP (fun x => betP x z) = n at *
                clear hn c3 c4
                go_wp2_with fail
                go_ret
                exact ⟨rfl, HS80.out.then HS9.out⟩
end Go.Proofs.Ytjegohibpojneaa
