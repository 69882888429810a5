import Derived.Test.YtjegohibpojneaaFun
import Derived.Test.YtjegohibpojneaaMap
import Derived.Test.YtjegohibpojneaaDocSpec
import Derived.Deep.Cut
import Derived.Deep.CutRange
import Derived.Deep.CutBlock
set_option linter.unusedVariables false
set_option linter.unusedSimpArgs false
namespace Go.Proofs.Ytjegohibpojneaa
open Go.RowKit

abbrev i64b (a : Int) : Prop := -9223372036854775808 ≤ a ∧ a ≤ 9223372036854775807
def numBad (x : Int) : Bool := decide (x < -127) || decide (127 < x)
theorem vec_any (l : List Int) : (!l.any numBad) = l.all fun x => decide (-127 ≤ x) && decide (x ≤ 127) := by
  rw [Bool.eq_iff_iff]
  simp [numBad, List.any_eq, List.all_eq]
theorem dright1_any (x : Int) (w : World) (hx : i64b x) : Calls Try.prog 128 #[.int .i64 x] w fun e w' => e = .returned (.bool (numBad x)) ∧ Same w w' := by
  unfold numBad
  by_cases h1 : x < -127
  · rw [decide_eq_true h1]
    go_enter Try.func128, Try.ntmps128
    go_wp2
    go_ret
    exact ⟨rfl, Only.refl _ _⟩
  · by_cases h2 : 127 < x
    · rw [decide_eq_false h1, decide_eq_true h2]
      go_enter Try.func128, Try.ntmps128
      go_wp2
      go_ret
      exact ⟨rfl, Only.refl _ _⟩
    · rw [decide_eq_false h1, decide_eq_false h2]
      go_enter Try.func128, Try.ntmps128
      go_wp2
      go_ret
      exact ⟨rfl, Only.refl _ _⟩
theorem enters_dright1 (args : Array Value) (w : World) : (callFunc 128 args).run Try.prog w = .ok (.enter 128 args) w := by kernel_rfl
set_option maxRecDepth 100000 in
theorem dright_any (v : Value) (l : List Int) (w : World) (hv : Sl w (.int .i64) v l) (hl : ∀ x ∈ l, i64b x) :
    Calls Try.prog 77 #[v] w fun e w' => e = .returned (.bool (vecB l)) ∧ Same w w' := by
  have c := conI_any v l 128 numBad w hv enters_dright1 (fun x w1 hx => dright1_any x w1 (hl x hx))
  have C := Lib.hid c
  have hvb : vecB l = (decide (l.length = 8) && !l.any numBad) := by unfold vecB; rw [vec_any]
  have HVB := Lib.hid hvb
  obtain ⟨ad, cp, rfl, hc, hm, _, _⟩ := hv
  unfold maxLen at hm
  obtain ⟨r0, hr0⟩ : ∃ r0, r0 = l.any numBad := ⟨_, rfl⟩
  have HR0 := Lib.hid hr0
  clear c hl hvb hr0
  by_cases h8 : l.length = 8
  · have HL := Lib.hid h8
    have h8' : ((l.length : Int) == 8) = true := by simp; omega
    clear h8
    go_enter Try.func77, Try.ntmps77
    go_wp2_with fail
    refine C.out.mono ?_
    rw [← HR0.out]
    rintro e w1 ⟨rfl, hS⟩
    go_wp2_with fail
    go_ret
    rw [HVB.out, ← HR0.out, decide_eq_true HL.out]
    exact ⟨by cases r0 <;> rfl, hS⟩
  · have HL := Lib.hid h8
    have h8' : ((l.length : Int) == 8) = false := by simp; omega
    clear h8
    go_enter Try.func77, Try.ntmps77
    go_wp2_with fail
    go_ret
    rw [HVB.out, decide_eq_false HL.out]
    exact ⟨rfl, Only.refl _ _⟩
theorem term_any (t : Int × Int) (w : World) (h1 : i64b t.1) (h2 : i64b t.2) : Calls Try.prog 95 #[pairV t] w fun e w' => e = .returned (.bool (termBad t)) ∧ Same w w' := by
  obtain ⟨x, y⟩ := t
  unfold termBad
  simp only at h1 h2 ⊢
  by_cases g1 : x < 0
  · rw [decide_eq_true g1]
    go_enter Try.func95, Try.ntmps95
    go_wp2
    go_ret
    exact ⟨rfl, (Only.refl _ _).alloc _⟩
  · by_cases g2 : 1048575 < x
    · rw [decide_eq_false g1, decide_eq_true g2]
      go_enter Try.func95, Try.ntmps95
      go_wp2
      go_ret
      exact ⟨rfl, (Only.refl _ _).alloc _⟩
    · by_cases g3 : y < 1
      · rw [decide_eq_false g1, decide_eq_false g2, decide_eq_true g3]
        go_enter Try.func95, Try.ntmps95
        go_wp2
        go_ret
        exact ⟨rfl, (Only.refl _ _).alloc _⟩
      · by_cases g4 : 65535 < y
        all_goals
          rw [decide_eq_false g1, decide_eq_false g2, decide_eq_false g3]
          first | rw [decide_eq_true g4] | rw [decide_eq_false g4]
          go_enter Try.func95, Try.ntmps95
          go_wp2
          go_ret
          exact ⟨rfl, (Only.refl _ _).alloc _⟩
theorem enters_term (args : Array Value) (w : World) : (callFunc 95 args).run Try.prog w = .ok (.enter 95 args) w := by kernel_rfl

/-- A change by value. -/
def ChgV (w : World) (v : Value) (c : Chg) : Prop :=
  ∃ s1 s2, v = .agg #[.int .i64 c.doc, s1, s2, .int .i64 c.tags, .bool c.gone] ∧ SlP w s1 c.terms ∧ Sl w (.int .i64) s2 c.v
/-- Its numbers are Go's, its rows not too long. -/
def ChgI (c : Chg) : Prop := i64b c.doc ∧ i64b c.tags ∧ (∀ t ∈ c.terms, i64b t.1 ∧ i64b t.2) ∧ (∀ x ∈ c.v, i64b x) ∧ c.terms.length ≤ 1000000 ∧ c.v.length ≤ 1000000
theorem ChgV.same {w w' : World} {v : Value} {c : Chg} (h : ChgV w v c) (hS : Same w w') : ChgV w' v c := by
  obtain ⟨s1, s2, rfl, h1, h2⟩ := h
  exact ⟨s1, s2, rfl, h1.same hS, h2.same hS⟩
set_option maxRecDepth 100000 in
set_option maxHeartbeats 2000000 in
theorem right_any (v : Value) (c : Chg) (w : World) (hv : ChgV w v c) (hi : ChgI c) :
    Calls Try.prog 24 #[v] w fun e w' => e = .returned (.int .i64 (rightD c)) ∧ Same w w' := by
  obtain ⟨s1, s2, rfl, h1, h2⟩ := hv
  have H1 := Lib.hid h1; have H2 := Lib.hid h2; have HI := Lib.hid hi
  obtain ⟨a1, c1, rfl, hc1, hm1⟩ := h1.lit
  obtain ⟨a2, c2, rfl, hc2, hm2, _, _⟩ := h2
  clear h1 hi
  have hmm := @run_makeMap Try.prog
  go_enter Try.func24, Try.ntmps24
  go_upto_region 4 with fail
  obtain ⟨W0, hW0⟩ : ∃ W0, W0 = (w.alloc (.cells #[.int .i64 c.doc, .slice a1 c.terms.length c1, .slice a2 c.v.length c2, .int .i64 c.tags, .bool c.gone] 27)).alloc (.map #[] 0) := ⟨_, rfl⟩
  have hS0 : Same w W0 := by rw [hW0]; exact ((Only.refl _ w).alloc _).alloc _
  have hB0 : W0.heap[w.heap.size]? = some (.cells #[.int .i64 c.doc, .slice a1 c.terms.length c1, .slice a2 c.v.length c2, .int .i64 c.tags, .bool c.gone] 27 (0, 0)) := by rw [hW0]; exact blk_old _ (blk_new _ _)
  have hM0 : MpI Try.prog 3 W0 (w.heap.size + 1) 0 (fun _ => none) := by
    have := MpI.made Try.prog 3 (w.alloc (.cells #[.int .i64 c.doc, .slice a1 c.terms.length c1, .slice a2 c.v.length c2, .int .i64 c.tags, .bool c.gone] 27))
    rw [World.size_alloc] at this
    rw [hW0]; exact this
  have hg0 := hM0.lt
  rw [← hW0]
  have HS0 := Lib.hid hS0; have HB0 := Lib.hid hB0; have HM0 := Lib.hid hM0
  have q0 := blk_cells hB0 0; have q1 := blk_cells hB0 1; have q2 := blk_cells hB0 2; have q3 := blk_cells hB0 3; have q4 := blk_cells hB0 4
  simp only [List.getElem?_toArray, List.getElem?_cons_zero, List.getElem?_cons_succ] at q0 q1 q2 q3 q4
  clear hS0 hB0 hM0 hW0 hmm
  unfold maxLen at hm1 hm2
  have hlen := HI.out.2.2.2.2.1
  go_wp2_with fail
  obtain ⟨ks, hks⟩ : ∃ ks, ks = c.terms.map (·.1) := ⟨_, rfl⟩
  have hkl : ks.length = c.terms.length := by rw [hks]; simp
  have HKL := Lib.hid hkl; have HKS := Lib.hid hks
  clear hkl hks
  go_loopw [5, 6, 15] (fun tw so i wr => ∃ k : Nat, k ≤ c.terms.length ∧ i = .int .i64 k ∧ tw = .bool (decide (¬ (ks.take k).Nodup)) ∧ so = .bool (decide ((ks.take k).Pairwise (· < ·))) ∧ Only (· = w.heap.size + 1) W0 wr ∧ MpI Try.prog 3 wr (w.heap.size + 1) k (fun y => if y ∈ ks.take k then some (.bool true) else none)) (fun _ _ i _ => c.terms.length - (intOf i).toNat)
  case atStart => exact ⟨0, by omega, rfl, by simp, by simp, Only.refl _ _, by simpa using HM0.out⟩
  case round =>
    obtain ⟨k, hk, rfl, htw, hso, hO, hM⟩ := hrel
    obtain ⟨bt, hbt⟩ : ∃ b, b = decide (¬ (ks.take k).Nodup) := ⟨_, rfl⟩
    obtain ⟨bs, hbs⟩ : ∃ b, b = decide ((ks.take k).Pairwise (· < ·)) := ⟨_, rfl⟩
    rw [← hbt] at htw
    rw [← hbs] at hso
    subst htw
    subst hso
    have HBT := Lib.hid hbt; have HBS := Lib.hid hbs; have HM := Lib.hid hM
    clear hbt hbs hM
    obtain ⟨wr0, hwr⟩ : ∃ x, x = wr := ⟨_, rfl⟩
    subst hwr
    have t0 := hO.cell_eq q0 (by omega); have t1 := hO.cell_eq q1 (by omega); have t2 := hO.cell_eq q2 (by omega); have t3 := hO.cell_eq q3 (by omega); have t4 := hO.cell_eq q4 (by omega)
    by_cases hlt : k < c.terms.length
    · have hkk : k < ks.length := by have := HKL.out; omega
      have hxe : ks[k] = c.terms[k].1 := by simp [HKS.out]
      obtain ⟨b, off, rfl, hcc⟩ := H1.out.spot (by omega)
      have hck := hO.cell_eq (HS0.out.cell_eq (hcc k hlt).1 (fun h => h)) (by have := World.block_lt_of_cell? w _ (hcc k hlt).1; simp at this; omega)
      have hck2 := hO.cell_eq (HS0.out.cell_eq (hcc k hlt).2 (fun h => h)) (by have := World.block_lt_of_cell? w _ (hcc k hlt).1; simp at this; omega)
      have hpr : 0 < k → wr0.cell? ⟨b, off + (k - 1) * 2, none⟩ = some (.int .i64 c.terms[k - 1].1) := fun h0 => hO.cell_eq (HS0.out.cell_eq (hcc (k - 1) (by omega)).1 (fun h => h)) (by have := World.block_lt_of_cell? w _ (hcc k hlt).1; simp at this; omega)
      have hxr := (HI.out.2.2.1 c.terms[k] (List.getElem_mem hlt)).1
      have hpw := pw_step ks k hkk
      have hnd := nd_step ks k hkk
      have hyd : 0 < k → ks.getD (k - 1) 0 = c.terms[k - 1].1 := fun h0 => by rw [List.getD_eq_getElem?_getD, List.getElem?_eq_getElem (by omega)]; simp [HKS.out]
      rw [hxe] at hpw hnd
      have hst : ∀ y, (if y = c.terms[k].1 then some (Value.bool true) else if y ∈ ks.take k then some (.bool true) else none) = (if y ∈ ks.take (k + 1) then some (Value.bool true) else none) := by
        intro y
        rw [take_snocI ks k hkk, hxe]
        by_cases h1 : y = c.terms[k].1 <;> by_cases h2 : y ∈ ks.take k <;> simp [h1, h2]
      generalize hxx : c.terms[k].1 = x at *
      generalize hyy : c.terms[k].2 = y at *
      have HPW := Lib.hid hpw; have HND := Lib.hid hnd; have HYD := Lib.hid hyd; have HST := Lib.hid hst; have HPR := Lib.hid hpr
      clear hpw hnd hyd hst hpr hcc hxe hxx hyy
      go_upto_region 7 with fail
      obtain ⟨W1, hW1⟩ : ∃ W1, W1 = wr0.alloc (.cells #[.int .i64 x, .int .i64 y] 142) := ⟨_, rfl⟩
      have hO1 : Only (· = w.heap.size + 1) W0 W1 := by rw [hW1]; exact hO.alloc _
      have hA1 : Same wr0 W1 := by rw [hW1]; exact (Only.refl _ wr0).alloc _
      have hM1 := HM.out.same hA1
      have hB1 : W1.heap[wr0.heap.size]? = some (.cells #[.int .i64 x, .int .i64 y] 142 (0, 0)) := by rw [hW1]; exact blk_new _ _
      have hlk := hM1.run_look (e := 4) (t := 163) Try.underlying3 Try.underlying163 (z := .bool false) (by kernel_rfl) x (wf_i64 hxr)
      have hsz1 := hB1 |> heap_lt
      rw [← hW1]
      have HO1 := Lib.hid hO1; have HA1 := Lib.hid hA1; have HM1 := Lib.hid hM1; have HB1 := Lib.hid hB1
      replace t1 := hA1.cell_eq t1 (fun h => h)
      replace hck := hA1.cell_eq hck (fun h => h)
      have hpr1 : 0 < k → W1.cell? ⟨b, off + (k - 1) * 2, none⟩ = some (.int .i64 c.terms[k - 1].1) := fun h0 => HA1.out.cell_eq (HPR.out h0) (fun h => h)
      have HPR1 := Lib.hid hpr1
      obtain ⟨e0, e1, _, _⟩ := two_facts hB1
      clear hO1 hA1 hM1 hB1 hW1 hpr1 t0 t2 t3 t4 q0 q1 q2 q3 q4 hck2
      obtain ⟨bm, hbm⟩ : ∃ b, b = decide (x ∈ ks.take k) := ⟨_, rfl⟩
      have hlk2 : (if x ∈ ks.take k then some (Value.bool true) else none).getD (.bool false) = .bool bm := by rw [hbm]; by_cases h : x ∈ ks.take k <;> simp [h]
      rw [hlk2] at hlk
      have HBM := Lib.hid hbm
      clear hbm hlk2
      go_cut [5] from 16 to 48 (fun s5 wx => s5 = .bool (bt || bm) ∧ wx = W1)
      case first =>
        cases bt
        all_goals
          go_wp2_with fail
          go_meet
          case rel => exact ⟨by simp, rfl⟩
      case rest =>
      obtain ⟨rfl, hw⟩ := hcut
      rw [hw]
      clear hw hlk
      go_upto_region 8 with fail
      obtain ⟨bn, hbn⟩ : ∃ b, b = decide ((ks.take (k + 1)).Pairwise (· < ·)) := ⟨_, rfl⟩
      rw [← HBS.out, ← hbn] at HPW
      have HBN := Lib.hid hbn
      clear hbn
      go_cut [6] from 16 to 48 (fun s6 wx => s6 = .bool bn ∧ Same W1 wx)
      case first =>
        cases bs
        · obtain rfl : bn = false := by have := HPW.out; simpa using this
          clear HPW
          go_wp2_with fail
          go_quiet (fail)
          go_wp2_with fail
          go_meet
          case rel => exact ⟨rfl, (Only.refl _ W1).drewN _⟩
        · by_cases hk0 : k = 0
          · subst hk0
            obtain rfl : bn = true := by have := HPW.out; simpa using this
            clear HPW
            go_wp2_with fail
            go_quiet (fail)
            go_wp2_with fail
            go_meet
            case rel => exact ⟨rfl, (Only.refl _ W1).drewN _⟩
          · have hk1 : 0 < k := by omega
            have hbe : bn = decide (c.terms[k - 1].1 < x) := by have := HPW.out; rw [HYD.out hk1, decide_eq_false hk0] at this; simpa using this
            have hpc := HPR1.out hk1
            have w1 : IntKind.i64.wrap ((k : Int) - 1) = ((k - 1 : Nat) : Int) := by rw [IntKind.wrap_i64]; omega
            have k0 : ((k : Int) == 0) = false := by simp; omega
            generalize c.terms[k - 1].1 = z at *
            subst hbe
            clear HPW
            go_wp2_with fail
            go_quiet (fail)
            go_wp2_with fail
            go_meet
            case rel => exact ⟨rfl, (Only.refl _ W1).drewN _⟩
      case rest =>
      obtain ⟨rfl, hSx⟩ := hcut
      obtain ⟨W2, hw2⟩ : ∃ x, x = wc := ⟨_, rfl⟩
      subst hw2
      have hM2 := HM1.out.same hSx
      have hO2 := HO1.out.then hSx
      obtain ⟨f0, f1, _, _⟩ := two_facts (hSx.heap HB1.out (fun h => h))
      have HM2 := Lib.hid hM2; have HO2 := Lib.hid hO2
      have hkm : k < maxLen := by unfold maxLen; omega
      have hwf := wf_i64 hxr
      clear hM2 hO2 hSx e0 e1 t1 hck HPR HPR1 HB1 HA1
      go_wp2_with (at_mapUpdate; refine mpi_put _ rfl (.tmp 45) (.tmp 47) (.const (.bool true)) 163 rfl 3 4 Try.underlying3 Try.underlying163 (w.heap.size + 1) k _ rfl HM2.out hkm x (.bool true) rfl rfl hwf ?_; intro w9 hM9 hO9)
      go_roundw
      case rel =>
        refine ⟨k + 1, by omega, by go_num, ?_, ?_, HO2.out.same hO9, ?_⟩
        · rw [HND.out, ← HBT.out, ← HBM.out]
        · rw [HBN.out]
        · have := hM9
          rw [funext HST.out] at this
          exact this
      case measure => simp [intOf]; omega
    · obtain rfl : k = c.terms.length := by omega
      have hbt := HBT.out
      have hbs := HBS.out
      rw [List.take_of_length_le (by have := HKL.out; omega)] at hbt hbs
      have HBT2 := Lib.hid hbt; have HBS2 := Lib.hid hbs
      clear hbt hbs HBT HBS HM HM0 hg0
      have HS1 : Hid (Same w wr0) := Lib.hid (HS0.out.trans hO (fun k hk h => by omega))
      have HB1 := Lib.hid (hO.heap HB0.out (by omega))
      clear HS0 HB0 q0 q1 q2 q3 q4 hO
      go_upto_region 11 with fail
      obtain ⟨p0, p1, p2, p3, p4⟩ : wr0.cell? ⟨w.heap.size, 0, none⟩ = some (.int .i64 c.doc) ∧ wr0.cell? ⟨w.heap.size, 1, none⟩ = some (.slice a1 c.terms.length c1) ∧ wr0.cell? ⟨w.heap.size, 2, none⟩ = some (.slice a2 c.v.length c2) ∧ wr0.cell? ⟨w.heap.size, 3, none⟩ = some (.int .i64 c.tags) ∧ wr0.cell? ⟨w.heap.size, 4, none⟩ = some (.bool c.gone) :=
        ⟨blk_cells HB1.out 0, blk_cells HB1.out 1, blk_cells HB1.out 2, blk_cells HB1.out 3, blk_cells HB1.out 4⟩
      have hrd : rightD c = (if rangeB c = true then 1 else if 64 < c.terms.length then 3 else if bt = true then 9 else if bs = false ∨ (c.gone = true ∧ emptyB c = false) ∨ (c.gone = false ∧ vecB c.v = false) then 2 else 0) := by
        unfold rightD
        rw [HBT2.out, HBS2.out, HKS.out]
        simp only [decide_eq_true_iff, decide_eq_false_iff_not]
      have HRD := Lib.hid hrd
      obtain ⟨be, hbe⟩ : ∃ b, b = emptyB c := ⟨_, rfl⟩
      have HBE := Lib.hid hbe
      have hdoc := HI.out.1
      have htag := HI.out.2.1
      have hln0 : c.terms.isEmpty = decide (c.terms.length = 0) := by cases c.terms <;> simp
      have hlv0 : c.v.isEmpty = decide (c.v.length = 0) := by cases c.v <;> simp
      have HE1 := Lib.hid hln0; have HE2 := Lib.hid hlv0
      clear hrd hbe hln0 hlv0 HBT2 HBS2
      go_cut [9] from 16 (fun s9 wx => s9 = .bool be ∧ wx = wr0)
      case first =>
        by_cases g1 : c.terms.length = 0
        · by_cases g2 : c.v.length = 0
          · by_cases g3 : c.tags = 0
            · obtain rfl : be = true := by rw [HBE.out]; unfold emptyB; rw [HE1.out, HE2.out, g1, g2, g3]; rfl
              have i1 : ((c.terms.length : Int) == 0) = true := beq_iff_eq.2 (by omega)
              have i2 : ((c.v.length : Int) == 0) = true := beq_iff_eq.2 (by omega)
              have i3 : (c.tags == 0) = true := beq_iff_eq.2 (by omega)
              clear g1 g2 g3
              go_wp2_with fail
              go_meet
              case rel => exact ⟨rfl, rfl⟩
            · obtain rfl : be = false := by rw [HBE.out]; unfold emptyB; rw [decide_eq_false g3, Bool.and_false]
              have i1 : ((c.terms.length : Int) == 0) = true := beq_iff_eq.2 (by omega)
              have i2 : ((c.v.length : Int) == 0) = true := beq_iff_eq.2 (by omega)
              have i3 : (c.tags == 0) = false := beq_eq_false_iff_ne.2 (by omega)
              clear g1 g2 g3
              go_wp2_with fail
              go_meet
              case rel => exact ⟨rfl, rfl⟩
          · obtain rfl : be = false := by rw [HBE.out]; unfold emptyB; rw [HE2.out, decide_eq_false g2, Bool.and_false]; rfl
            have i1 : ((c.terms.length : Int) == 0) = true := beq_iff_eq.2 (by omega)
            have i2 : ((c.v.length : Int) == 0) = false := beq_eq_false_iff_ne.2 (by omega)
            clear g1 g2
            go_wp2_with fail
            go_meet
            case rel => exact ⟨rfl, rfl⟩
        · obtain rfl : be = false := by rw [HBE.out]; unfold emptyB; rw [HE1.out, decide_eq_false g1]; rfl
          have i1 : ((c.terms.length : Int) == 0) = false := beq_eq_false_iff_ne.2 (by omega)
          clear g1
          go_wp2_with fail
          go_meet
          case rel => exact ⟨rfl, rfl⟩
      case rest =>
      obtain ⟨rfl, hw⟩ := hcut
      rw [hw]
      clear hw HE1 HE2
      go_upto_region 12 with fail
      obtain ⟨br, hbr⟩ : ∃ b, b = rangeB c := ⟨_, rfl⟩
      have HBR := Lib.hid hbr
      clear hbr
      go_cut [67] from 68 (fun s67 wx => s67 = .bool br ∧ Same wr0 wx)
      case first =>
        by_cases g1 : c.doc < 0
        · obtain rfl : br = true := by rw [HBR.out]; unfold rangeB; rw [decide_eq_true g1]; rfl
          go_wp2_with fail
          go_meet
          case rel => exact ⟨rfl, Only.refl _ _⟩
        · by_cases g2 : 2147483647 < c.doc
          · obtain rfl : br = true := by rw [HBR.out]; unfold rangeB; rw [decide_eq_true g2, Bool.or_true]; rfl
            go_wp2_with fail
            go_meet
            case rel => exact ⟨rfl, Only.refl _ _⟩
          · by_cases g3 : c.tags < 0
            · obtain rfl : br = true := by rw [HBR.out]; unfold rangeB; rw [decide_eq_true g3, Bool.or_true]; rfl
              go_wp2_with fail
              go_meet
              case rel => exact ⟨rfl, Only.refl _ _⟩
            · by_cases g4 : 255 < c.tags
              · obtain rfl : br = true := by rw [HBR.out]; unfold rangeB; rw [decide_eq_true g4, Bool.or_true]; rfl
                go_wp2_with fail
                go_meet
                case rel => exact ⟨rfl, Only.refl _ _⟩
              · have hbt : br = c.terms.any termBad := by rw [HBR.out]; unfold rangeB; rw [decide_eq_false g1, decide_eq_false g2, decide_eq_false g3, decide_eq_false g4]; rfl
                have cc := conT_any (.slice a1 c.terms.length c1) c.terms 95 termBad wr0 (H1.out.same HS1.out) enters_term (fun x w1 hx => term_any x w1 (HI.out.2.2.1 x hx).1 (HI.out.2.2.1 x hx).2)
                rw [← hbt] at cc
                have CC := Lib.hid cc
                clear hbt cc
                go_wp2_with fail
                refine CC.out.mono ?_
                rintro e w5 ⟨rfl, hS5⟩
                go_wp2_with fail
                go_meet
                case rel => exact ⟨rfl, hS5⟩
      case rest =>
      obtain ⟨rfl, hSx⟩ := hcut
      obtain ⟨W5, hw5⟩ : ∃ x, x = wc := ⟨_, rfl⟩
      subst hw5
      have HS5 := Lib.hid (HS1.out.then hSx)
      replace p1 := hSx.cell_eq p1 (fun h => h)
      replace p2 := hSx.cell_eq p2 (fun h => h)
      replace p4 := hSx.cell_eq p4 (fun h => h)
      rw [← HBR.out, ← HBE.out] at HRD
      clear hSx HS1 HB1 HBR HBE p0 p3
      cases br
      rotate_left
      · have hr : rightD c = 1 := HRD.out
        have HR := Lib.hid hr
        clear hr
        go_wp2_with fail
        go_ret
        rw [HR.out]
        exact ⟨rfl, HS5.out⟩
      by_cases g2 : 64 < c.terms.length
      · have hr : rightD c = 3 := by rw [HRD.out, if_neg (by decide), if_pos g2]
        have HR := Lib.hid hr
        clear hr
        go_wp2_with fail
        go_ret
        rw [HR.out]
        exact ⟨rfl, HS5.out⟩
      cases bt
      rotate_left
      · have hr : rightD c = 9 := by rw [HRD.out, if_neg (by decide), if_neg g2, if_pos rfl]
        have HR := Lib.hid hr
        clear hr
        go_wp2_with fail
        go_ret
        rw [HR.out]
        exact ⟨rfl, HS5.out⟩
      cases bs
      · have hr : rightD c = 2 := by rw [HRD.out, if_neg (by decide), if_neg g2, if_neg (by decide), if_pos (.inl rfl)]
        have HR := Lib.hid hr
        clear hr
        go_wp2_with fail
        go_ret
        rw [HR.out]
        exact ⟨rfl, HS5.out⟩
      obtain ⟨bg, hbg⟩ : ∃ b, b = c.gone := ⟨_, rfl⟩
      rw [← hbg] at p4 HRD
      have HBG := Lib.hid hbg
      clear hbg
      cases bg
      rotate_left
      · cases be
        · have hr : rightD c = 2 := by rw [HRD.out, if_neg (by decide), if_neg g2, if_neg (by decide), if_pos (.inr (.inl ⟨rfl, rfl⟩))]
          have HR := Lib.hid hr
          clear hr
          go_wp2_with fail
          go_ret
          rw [HR.out]
          exact ⟨rfl, HS5.out⟩
        · have hr : rightD c = 0 := by rw [HRD.out, if_neg (by decide), if_neg g2, if_neg (by decide), if_neg (by simp)]
          have HR := Lib.hid hr
          clear hr
          go_wp2_with fail
          go_ret
          rw [HR.out]
          exact ⟨rfl, HS5.out⟩
      obtain ⟨bv, hbv⟩ : ∃ b, b = vecB c.v := ⟨_, rfl⟩
      have cd := dright_any (.slice a2 c.v.length c2) c.v W5 (H2.out.same HS5.out) HI.out.2.2.2.1
      rw [← hbv] at cd HRD
      have CD := Lib.hid cd
      clear hbv cd
      cases bv
      · have hr : rightD c = 2 := by rw [HRD.out, if_neg (by decide), if_neg g2, if_neg (by decide), if_pos (.inr (.inr ⟨rfl, rfl⟩))]
        have HR := Lib.hid hr
        clear hr
        go_wp2_with fail
        refine CD.out.mono ?_
        rintro e w6 ⟨rfl, hS6⟩
        go_wp2_with fail
        go_ret
        rw [HR.out]
        exact ⟨rfl, HS5.out.then hS6⟩
      · have hr : rightD c = 0 := by rw [HRD.out, if_neg (by decide), if_neg g2, if_neg (by decide), if_neg (by simp)]
        have HR := Lib.hid hr
        clear hr
        go_wp2_with fail
        refine CD.out.mono ?_
        rintro e w6 ⟨rfl, hS6⟩
        go_wp2_with fail
        go_ret
        rw [HR.out]
        exact ⟨rfl, HS5.out.then hS6⟩
end Go.Proofs.Ytjegohibpojneaa
