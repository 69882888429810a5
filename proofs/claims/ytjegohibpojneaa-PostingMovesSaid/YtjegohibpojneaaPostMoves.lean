import Derived.Test.YtjegohibpojneaaPostAwake
import Derived.Test.YtjegohibpojneaaPostActs
import Derived.BigQuiet
set_option linter.unusedVariables false
set_option linter.unusedSimpArgs false
namespace Go.Proofs.Ytjegohibpojneaa
open Go.RowKit
attribute [local go_sem ↓] Go.wp_at_zero Go.wp_at_succ

theorem atP_out (l : List (Int × Int)) (a : Nat) (h : l.length ≤ a) : atP l a = (0, 0) := by
  unfold atP
  rw [List.getD_eq_getElem?_getD, List.getElem?_eq_none h]
  rfl
set_option maxRecDepth 100000 in
set_option maxHeartbeats 8000000 in
theorem postMoves_walk (v0 : Value) (l : List (Int × Int)) (v1 : Value) (acts : List (Bool × Int)) (d2 : Int) (w : World) (h0 : SlP w v0 l) (hp : ∀ p ∈ l, (-9223372036854775808 ≤ p.1 ∧ p.1 ≤ 9223372036854775807) ∧ (-9223372036854775808 ≤ p.2 ∧ p.2 ≤ 9223372036854775807))
    (h1 : SlA w v1 acts) (ha : ∀ p ∈ acts, -9223372036854775808 ≤ p.2 ∧ p.2 ≤ 9223372036854775807) (hd : (Lit.int .i64 d2).wf = true) :
    Calls Try.prog 6 #[v0, v1, .int .i64 d2] w fun e w' => e = .returned (.bool true) ∧ Same w w' := by
  have hd2 := bounds_i64 hd
  have H0 := Lib.hid h0; have HA := Lib.hid h1; have HAB := Lib.hid ha
  obtain ⟨ad, cp, rfl, hcp, hmx⟩ := h0.lit
  obtain ⟨ad1, cp1, rfl, hcp1, hmx1⟩ := h1.lit
  unfold maxLen at hmx hmx1
  clear h0 h1 hp ha hd
  go_enter Try.func6, Try.ntmps6
  go_wp2_with fail
  refine (pawake_any _).mono ?_
  rintro e w1 ⟨rfl, hS1⟩
  have HS1 := Lib.hid hS1
  clear hS1
  by_cases hl : 300 < l.length
  · have hld : (300 : Int) < (l.length : Int) := by omega
    go_wp2_with fail
    go_ret
    exact ⟨rfl, HS1.out⟩
  have hld : ¬ (300 : Int) < (l.length : Int) := by omega
  by_cases hs2 : 100 < acts.length
  · have hsd : (100 : Int) < (acts.length : Int) := by omega
    go_wp2_with fail
    go_ret
    exact ⟨rfl, HS1.out⟩
  have hsd : ¬ (100 : Int) < (acts.length : Int) := by omega
  have cr := fun w0 hv => rright05_any (.slice ad l.length cp) l w0 hv
  obtain ⟨rb, hrb⟩ : ∃ x, x = rightB l := ⟨_, rfl⟩
  rw [← hrb] at cr
  have CR := Lib.hid cr; have HRB := Lib.hid hrb
  clear cr hrb
  cases rb with
  | false =>
    go_wp2_with fail
    refine (CR.out _ (H0.out.same HS1.out)).mono ?_
    rintro e w2 ⟨rfl, hS2⟩
    go_wp2_with fail
    go_ret
    exact ⟨rfl, HS1.out.then hS2⟩
  | true =>
    go_wp2_with fail
    refine (CR.out _ (H0.out.same HS1.out)).mono ?_
    rintro e w2 ⟨rfl, hS2⟩
    have HS2 := Lib.hid (HS1.out.then hS2)
    clear hS2 HS1 CR
    go_wp2_with fail
    refine (build_any _ l _ (H0.out.same HS2.out) (by omega)).mono ?_
    rintro e w3 ⟨hS3, ⟨hr, b, rfl, hL⟩ | ⟨hr, rfl⟩⟩
    rotate_left
    · rw [← HRB.out] at hr; cases hr
    have HS3 := Lib.hid (HS2.out.then hS3); have HL := Lib.hid hL.low; have HR := Lib.hid ((rightB_iff l).1 hr)
    have hz3 := HS3.out.size
    clear hS3 HS2 hL hr HRB
    go_wp2_with fail
    refine (cursor05_any b w3.heap.size l _ HL.out (Nat.le_refl _)).mono ?_
    rintro e w4 ⟨rfl, hS4, hC4⟩
    obtain ⟨c, hc⟩ : ∃ c, c = w3.heap.size := ⟨_, rfl⟩
    rw [← hc] at hC4 ⊢
    have hcw : w.heap.size ≤ c := by omega
    have HC4 := Lib.hid hC4
    have HF4 := Lib.hid ((HS3.out.then hS4).mono (S' := fun g => w.heap.size ≤ g) (fun k _ h => h.elim))
    clear hS4 hC4 hc HS3 HL hz3
    go_wp2_with fail
    go_loopw [10, 11] (fun at_ i wr => ∃ (k a : Nat), k ≤ acts.length ∧ i = .int .i64 k ∧ at_ = .int .i64 a ∧ Only (fun g => w.heap.size ≤ g) w wr ∧ CurAt wr c b a l c) (fun _ i _ => acts.length - (intOf i).toNat)
    case atStart => exact ⟨0, 0, by omega, rfl, rfl, HF4.out, HC4.out⟩
    case round =>
      obtain ⟨k, a, hk, rfl, rfl, hF, hC⟩ := hrel
      have HF := Lib.hid hF; have HC := Lib.hid hC
      have hale : a ≤ l.length := hC.2.1
      clear hF hC HF4 HC4
      by_cases hkl : k < acts.length
      · obtain ⟨ab, aoff, hea, hcc⟩ := HA.out.spot (by omega)
        subst hea
        have habw : ab < w.heap.size := by have := World.block_lt_of_cell? w _ (hcc k hkl).1; simpa using this
        have hk0 := HF.out.cell_eq (hcc k hkl).1 (fun h => by omega)
        cases hact : acts[k].1 with
        | true =>
          rw [hact] at hk0
          go_wp2_with fail
          refine (next05_any c b a _ l _ HC.out (by omega)).mono ?_
          rintro e w5 ⟨rfl, hO5, hC5⟩
          by_cases hmn : (l.length : Int) < (a : Int) + 1
          · rw [show min (a + 1) l.length = l.length by omega] at hC5
            have HCx := Lib.hid hC5
            have HFx := Lib.hid (HF.out.same (hO5.mono (S' := fun g => w.heap.size ≤ g) (fun g _ h => by have h2 : g = c := h; omega)))
            clear hO5 hC5 HF HC hk0
            go_upto_region 18 with fail
            clear hmn
            go_wp2_with fail
            refine (at05_any c b l.length _ l _ HCx.out (by omega)).mono ?_
            rintro e w6 ⟨rfl, hS6⟩
            have hle : l.length ≤ l.length := HCx.out.2.1
            have hin : ¬ l.length < l.length := by omega
            have hat : atP l l.length = (0, 0) := atP_out l l.length (by omega)
            rw [hat, decide_eq_false hin]
            unfold pairV
            have hi1 : decide ((l.length : Int) < (l.length : Int)) = false := decide_eq_false (by omega)
            have hB := blk_new w6 (.cells #[.int .i64 0, .int .i64 0] 77)
            have hSa : Same w6 (w6.alloc (.cells #[.int .i64 0, .int .i64 0] 77)) := (Only.refl _ w6).alloc _
            have hF6 := (HFx.out.then hS6).then hSa
            have hC6 := (HCx.out.same hS6).same hSa
            go_upto_region 19 with fail
            generalize w6.alloc (.cells #[.int .i64 0, .int .i64 0] 77) = W6 at *
            obtain ⟨m0, m1, _, _⟩ := two_facts hB
            have HC6 := Lib.hid hC6; have HF6 := Lib.hid hF6
            clear hB hSa hF6 hC6 hS6 hat
            go_quiet (fail)
            rename_i nq
            have HCq := Lib.hid (HC6.out.same ((Only.refl (fun _ => False) W6).drewN nq)); have HFq := Lib.hid (HF6.out.drewN nq)
            generalize W6.drewN nq = Wq at *
            clear m0 m1 HC6 HF6 HCx HFx
            have hk0 := HFq.out.cell_eq (hcc k hkl).2 (fun h => by omega)
            have hv := SlP.only H0.out HFq.out (fun g h => h)
            have HV := Lib.hid hv
            have hdk := HAB.out acts[k] (List.getElem_mem hkl)
            generalize acts[k].2 = dk at *
            clear hv
            go_wp2_with fail
            refine (cblock_any c b l.length _ l dk _ HCq.out HR.out (by omega) hdk).mono ?_
            rintro e w8 ⟨rfl, hS8⟩
            have hk1 := hS8.cell_eq hk0 (fun h => h)
            go_wp2_with fail
            refine (rblock_any _ l dk _ (HV.out.same hS8) (by omega)).mono ?_
            rintro e w9 ⟨rfl, hS9⟩
            generalize blockP l dk = bp at *
            have HC9 := Lib.hid ((HCq.out.same hS8).same hS9); have HF9 := Lib.hid ((HFq.out.then hS8).then hS9)
            clear hS8 hS9 hk0 hk1
            go_wp2_with fail
            go_roundw
            case rel => exact ⟨k + 1, l.length, by omega, by go_num, rfl, HF9.out, HC9.out⟩
            case measure => simp [intOf]; omega
          · rw [show min (a + 1) l.length = a + 1 by omega] at hC5
            obtain ⟨a', ha'⟩ : ∃ x, x = a + 1 := ⟨_, rfl⟩
            rw [← ha'] at hC5
            have HCx := Lib.hid hC5
            have HFx := Lib.hid (HF.out.same (hO5.mono (S' := fun g => w.heap.size ≤ g) (fun g _ h => by have h2 : g = c := h; omega)))
            have HV0 : Hid ((a : Int) + 1 = (a' : Int)) := Lib.hid (by omega)
            clear hO5 hC5 HF HC hk0 ha'
            go_upto_region 18 with fail
            rw [HV0.out]
            clear HV0 hmn
            go_wp2_with fail
            refine (at05_any c b a' _ l _ HCx.out (by omega)).mono ?_
            rintro e w6 ⟨rfl, hS6⟩
            have hle : a' ≤ l.length := HCx.out.2.1
            by_cases hin : a' < l.length
            · have hat : atP l a' = l[a'] := by unfold atP; rw [List.getD_eq_getElem?_getD, List.getElem?_eq_getElem hin]; rfl
              rw [hat, decide_eq_true hin]
              unfold pairV
              obtain ⟨pb, poff, hpa, hpc⟩ := H0.out.spot (by omega)
              subst hpa
              have hi1 : decide ((a' : Int) < (l.length : Int)) = true := decide_eq_true (by omega)
              have hp0 := (hpc a' hin).1
              have hp1 := (hpc a' hin).2
              generalize l[a'] = p at *
              have hB := blk_new w6 (.cells #[.int .i64 p.1, .int .i64 p.2] 77)
              have hSa : Same w6 (w6.alloc (.cells #[.int .i64 p.1, .int .i64 p.2] 77)) := (Only.refl _ w6).alloc _
              have hF6 := (HFx.out.then hS6).then hSa
              have hC6 := (HCx.out.same hS6).same hSa
              go_upto_region 19 with fail
              generalize w6.alloc (.cells #[.int .i64 p.1, .int .i64 p.2] 77) = W6 at *
              have j0 := hF6.cell_eq hp0 (fun h => by have := World.block_lt_of_cell? w _ hp0; simp at this; omega)
              have j1 := hF6.cell_eq hp1 (fun h => by have := World.block_lt_of_cell? w _ hp1; simp at this; omega)
              obtain ⟨m0, m1, _, _⟩ := two_facts hB
              have HC6 := Lib.hid hC6; have HF6 := Lib.hid hF6
              clear hp0 hp1 hpc hB hSa hF6 hC6 hS6 hat
              go_quiet (fail)
              rename_i nq
              have HCq := Lib.hid (HC6.out.same ((Only.refl (fun _ => False) W6).drewN nq)); have HFq := Lib.hid (HF6.out.drewN nq)
              generalize W6.drewN nq = Wq at *
              clear j0 j1 m0 m1 HC6 HF6 HCx HFx
              have hk0 := HFq.out.cell_eq (hcc k hkl).2 (fun h => by omega)
              have hv := SlP.only H0.out HFq.out (fun g h => h)
              have HV := Lib.hid hv
              have hdk := HAB.out acts[k] (List.getElem_mem hkl)
              generalize acts[k].2 = dk at *
              clear hv
              go_wp2_with fail
              refine (cblock_any c b a' _ l dk _ HCq.out HR.out (by omega) hdk).mono ?_
              rintro e w8 ⟨rfl, hS8⟩
              have hk1 := hS8.cell_eq hk0 (fun h => h)
              go_wp2_with fail
              refine (rblock_any _ l dk _ (HV.out.same hS8) (by omega)).mono ?_
              rintro e w9 ⟨rfl, hS9⟩
              generalize blockP l dk = bp at *
              have HC9 := Lib.hid ((HCq.out.same hS8).same hS9); have HF9 := Lib.hid ((HFq.out.then hS8).then hS9)
              clear hS8 hS9 hk0 hk1
              go_wp2_with fail
              go_roundw
              case rel => exact ⟨k + 1, a', by omega, by go_num, rfl, HF9.out, HC9.out⟩
              case measure => simp [intOf]; omega
            · have hat : atP l a' = (0, 0) := atP_out l a' (by omega)
              rw [hat, decide_eq_false hin]
              unfold pairV
              have hi1 : decide ((a' : Int) < (l.length : Int)) = false := decide_eq_false (by omega)
              have hB := blk_new w6 (.cells #[.int .i64 0, .int .i64 0] 77)
              have hSa : Same w6 (w6.alloc (.cells #[.int .i64 0, .int .i64 0] 77)) := (Only.refl _ w6).alloc _
              have hF6 := (HFx.out.then hS6).then hSa
              have hC6 := (HCx.out.same hS6).same hSa
              go_upto_region 19 with fail
              generalize w6.alloc (.cells #[.int .i64 0, .int .i64 0] 77) = W6 at *
              obtain ⟨m0, m1, _, _⟩ := two_facts hB
              have HC6 := Lib.hid hC6; have HF6 := Lib.hid hF6
              clear hB hSa hF6 hC6 hS6 hat
              go_quiet (fail)
              rename_i nq
              have HCq := Lib.hid (HC6.out.same ((Only.refl (fun _ => False) W6).drewN nq)); have HFq := Lib.hid (HF6.out.drewN nq)
              generalize W6.drewN nq = Wq at *
              clear m0 m1 HC6 HF6 HCx HFx
              have hk0 := HFq.out.cell_eq (hcc k hkl).2 (fun h => by omega)
              have hv := SlP.only H0.out HFq.out (fun g h => h)
              have HV := Lib.hid hv
              have hdk := HAB.out acts[k] (List.getElem_mem hkl)
              generalize acts[k].2 = dk at *
              clear hv
              go_wp2_with fail
              refine (cblock_any c b a' _ l dk _ HCq.out HR.out (by omega) hdk).mono ?_
              rintro e w8 ⟨rfl, hS8⟩
              have hk1 := hS8.cell_eq hk0 (fun h => h)
              go_wp2_with fail
              refine (rblock_any _ l dk _ (HV.out.same hS8) (by omega)).mono ?_
              rintro e w9 ⟨rfl, hS9⟩
              generalize blockP l dk = bp at *
              have HC9 := Lib.hid ((HCq.out.same hS8).same hS9); have HF9 := Lib.hid ((HFq.out.then hS8).then hS9)
              clear hS8 hS9 hk0 hk1
              go_wp2_with fail
              go_roundw
              case rel => exact ⟨k + 1, a', by omega, by go_num, rfl, HF9.out, HC9.out⟩
              case measure => simp [intOf]; omega
        | false =>
          rw [hact] at hk0
          have hk2 := HF.out.cell_eq (hcc k hkl).2 (fun h => by omega)
          have hdk := HAB.out acts[k] (List.getElem_mem hkl)
          have hsv := SlP.only H0.out HF.out (fun g h => h)
          have HSV := Lib.hid hsv
          clear hsv
          go_wp2_with fail
          refine (seek05_any c b a _ l acts[k].2 _ HC.out HR.out (by omega) hdk).mono ?_
          rintro e w5 ⟨rfl, hO5, hC5⟩
          have hk3 := hO5.cell_eq hk2 (fun h => by have h2 : ab = c := h; omega)
          have hfa : Only (fun g => w.heap.size ≤ g) _ w5 := hO5.mono (S' := fun g => w.heap.size ≤ g) (fun g _ h => by have h2 : g = c := h; omega)
          go_wp2_with fail
          refine (rseek_any _ l a acts[k].2 _ (SlP.only H0.out (HF.out.same hfa) (fun g h => h)) hale).mono ?_
          rintro e w6' ⟨rfl, hS6'⟩
          have HCx := Lib.hid (hC5.same hS6')
          have HFx := Lib.hid ((HF.out.same hfa).then hS6')
          generalize seekP l a acts[k].2 = a' at *
          clear hO5 hC5 HF HC hk0 hk2 hk3 hfa hS6' HSV hdk
          go_upto_region 18 with fail
          go_wp2_with fail
          refine (at05_any c b a' _ l _ HCx.out (by omega)).mono ?_
          rintro e w6 ⟨rfl, hS6⟩
          have hle : a' ≤ l.length := HCx.out.2.1
          by_cases hin : a' < l.length
          · have hat : atP l a' = l[a'] := by unfold atP; rw [List.getD_eq_getElem?_getD, List.getElem?_eq_getElem hin]; rfl
            rw [hat, decide_eq_true hin]
            unfold pairV
            obtain ⟨pb, poff, hpa, hpc⟩ := H0.out.spot (by omega)
            subst hpa
            have hi1 : decide ((a' : Int) < (l.length : Int)) = true := decide_eq_true (by omega)
            have hp0 := (hpc a' hin).1
            have hp1 := (hpc a' hin).2
            generalize l[a'] = p at *
            have hB := blk_new w6 (.cells #[.int .i64 p.1, .int .i64 p.2] 77)
            have hSa : Same w6 (w6.alloc (.cells #[.int .i64 p.1, .int .i64 p.2] 77)) := (Only.refl _ w6).alloc _
            have hF6 := (HFx.out.then hS6).then hSa
            have hC6 := (HCx.out.same hS6).same hSa
            go_upto_region 19 with fail
            generalize w6.alloc (.cells #[.int .i64 p.1, .int .i64 p.2] 77) = W6 at *
            have j0 := hF6.cell_eq hp0 (fun h => by have := World.block_lt_of_cell? w _ hp0; simp at this; omega)
            have j1 := hF6.cell_eq hp1 (fun h => by have := World.block_lt_of_cell? w _ hp1; simp at this; omega)
            obtain ⟨m0, m1, _, _⟩ := two_facts hB
            have HC6 := Lib.hid hC6; have HF6 := Lib.hid hF6
            clear hp0 hp1 hpc hB hSa hF6 hC6 hS6 hat
            go_quiet (fail)
            rename_i nq
            have HCq := Lib.hid (HC6.out.same ((Only.refl (fun _ => False) W6).drewN nq)); have HFq := Lib.hid (HF6.out.drewN nq)
            generalize W6.drewN nq = Wq at *
            clear j0 j1 m0 m1 HC6 HF6 HCx HFx
            have hk0 := HFq.out.cell_eq (hcc k hkl).2 (fun h => by omega)
            have hv := SlP.only H0.out HFq.out (fun g h => h)
            have HV := Lib.hid hv
            have hdk := HAB.out acts[k] (List.getElem_mem hkl)
            generalize acts[k].2 = dk at *
            clear hv
            go_wp2_with fail
            refine (cblock_any c b a' _ l dk _ HCq.out HR.out (by omega) hdk).mono ?_
            rintro e w8 ⟨rfl, hS8⟩
            have hk1 := hS8.cell_eq hk0 (fun h => h)
            go_wp2_with fail
            refine (rblock_any _ l dk _ (HV.out.same hS8) (by omega)).mono ?_
            rintro e w9 ⟨rfl, hS9⟩
            generalize blockP l dk = bp at *
            have HC9 := Lib.hid ((HCq.out.same hS8).same hS9); have HF9 := Lib.hid ((HFq.out.then hS8).then hS9)
            clear hS8 hS9 hk0 hk1
            go_wp2_with fail
            go_roundw
            case rel => exact ⟨k + 1, a', by omega, by go_num, rfl, HF9.out, HC9.out⟩
            case measure => simp [intOf]; omega
          · have hat : atP l a' = (0, 0) := atP_out l a' (by omega)
            rw [hat, decide_eq_false hin]
            unfold pairV
            have hi1 : decide ((a' : Int) < (l.length : Int)) = false := decide_eq_false (by omega)
            have hB := blk_new w6 (.cells #[.int .i64 0, .int .i64 0] 77)
            have hSa : Same w6 (w6.alloc (.cells #[.int .i64 0, .int .i64 0] 77)) := (Only.refl _ w6).alloc _
            have hF6 := (HFx.out.then hS6).then hSa
            have hC6 := (HCx.out.same hS6).same hSa
            go_upto_region 19 with fail
            generalize w6.alloc (.cells #[.int .i64 0, .int .i64 0] 77) = W6 at *
            obtain ⟨m0, m1, _, _⟩ := two_facts hB
            have HC6 := Lib.hid hC6; have HF6 := Lib.hid hF6
            clear hB hSa hF6 hC6 hS6 hat
            go_quiet (fail)
            rename_i nq
            have HCq := Lib.hid (HC6.out.same ((Only.refl (fun _ => False) W6).drewN nq)); have HFq := Lib.hid (HF6.out.drewN nq)
            generalize W6.drewN nq = Wq at *
            clear m0 m1 HC6 HF6 HCx HFx
            have hk0 := HFq.out.cell_eq (hcc k hkl).2 (fun h => by omega)
            have hv := SlP.only H0.out HFq.out (fun g h => h)
            have HV := Lib.hid hv
            have hdk := HAB.out acts[k] (List.getElem_mem hkl)
            generalize acts[k].2 = dk at *
            clear hv
            go_wp2_with fail
            refine (cblock_any c b a' _ l dk _ HCq.out HR.out (by omega) hdk).mono ?_
            rintro e w8 ⟨rfl, hS8⟩
            have hk1 := hS8.cell_eq hk0 (fun h => h)
            go_wp2_with fail
            refine (rblock_any _ l dk _ (HV.out.same hS8) (by omega)).mono ?_
            rintro e w9 ⟨rfl, hS9⟩
            generalize blockP l dk = bp at *
            have HC9 := Lib.hid ((HCq.out.same hS8).same hS9); have HF9 := Lib.hid ((HFq.out.then hS8).then hS9)
            clear hS8 hS9 hk0 hk1
            go_wp2_with fail
            go_roundw
            case rel => exact ⟨k + 1, a', by omega, by go_num, rfl, HF9.out, HC9.out⟩
            case measure => simp [intOf]; omega
      · obtain rfl : k = acts.length := by omega
        have HV := Lib.hid (SlP.only H0.out HF.out (fun g h => h))
        go_wp2_with fail
        refine (cursor05_any b c l _ HC.out.2.2.2 (Nat.le_of_lt (heap_lt HC.out.1))).mono ?_
        rintro e w5 ⟨rfl, hS5, hC5⟩
        go_wp2_with fail
        refine (cblock_any _ b 0 _ l d2 _ hC5 HR.out (by omega) hd2).mono ?_
        rintro e w6 ⟨rfl, hS6⟩
        go_wp2_with fail
        refine (rblock_any _ l d2 _ (HV.out.same (hS5.then hS6)) (by omega)).mono ?_
        rintro e w7 ⟨rfl, hS7⟩
        generalize blockP l d2 = bp at *
        have HF7 := Lib.hid (((HF.out.then hS5).then hS6).then hS7)
        clear hS5 hS6 hS7 hC5
        go_wp2_with fail
        go_ret
        exact ⟨rfl, (Only.refl (fun _ => False) w).trans HF7.out (fun g h1 h2 => by omega)⟩
end Go.Proofs.Ytjegohibpojneaa
