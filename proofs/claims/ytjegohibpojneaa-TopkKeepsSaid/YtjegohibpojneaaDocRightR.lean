import Derived.Test.YtjegohibpojneaaDocRight
set_option linter.unusedVariables false
set_option linter.unusedSimpArgs false
namespace Go.Proofs.Ytjegohibpojneaa
open Go.RowKit

theorem Sl.spot {α : Type} {w : World} {enc : α → Value} {ad : Option Addr} {n c : Nat} {l : List α} (h : Sl w enc (.slice ad n c) l) (h0 : 0 < l.length) : ∃ b off, ad = some ⟨b, off, none⟩ ∧ ∀ i (h : i < l.length), w.cell? ⟨b, off + i, none⟩ = some (enc l[i]) := by
  obtain ⟨ad', c', e, _, _, _, h4⟩ := h
  simp only [Value.slice.injEq] at e
  obtain ⟨rfl, _, rfl⟩ := e
  exact h4 h0
set_option maxRecDepth 100000 in
theorem vright_any (v : Value) (l : List Int) (w : World) (hv : Sl w (.int .i64) v l) (hl : ∀ x ∈ l, i64b x) :
    Calls Try.prog 78 #[v] w fun e w' => e = .returned (.bool (vecB l)) ∧ Same w w' := by
  have H := Lib.hid hv
  obtain ⟨ad, cp, rfl, hc, hm, _, _⟩ := hv
  unfold maxLen at hm
  obtain ⟨r0, hr0⟩ : ∃ r0, r0 = vecB l := ⟨_, rfl⟩
  rw [← hr0]
  have hvb : r0 = (decide (l.length = 8) && !l.any numBad) := by rw [hr0]; unfold vecB; rw [vec_any]
  have HVB := Lib.hid hvb; have HL := Lib.hid hl
  clear hr0 hvb hl
  go_enter Try.func78, Try.ntmps78
  go_wp2_with fail
  go_loopw [3] (fun i wr => ∃ k : Nat, k ≤ l.length ∧ i = .int .i64 k ∧ Same w wr ∧ (l.take k).any numBad = false) (fun i _ => l.length - (intOf i).toNat)
  case atStart => exact ⟨0, by omega, rfl, Only.refl _ _, rfl⟩
  case round =>
    obtain ⟨k, hk, rfl, hS, hno⟩ := hrel
    have HNO := Lib.hid hno
    clear hno
    by_cases hlt : k < l.length
    · obtain ⟨b, off, rfl, hcc⟩ := H.out.spot (by omega)
      have hck := hS.cell_eq (hcc k hlt) (fun h => h)
      have hxr := HL.out l[k] (List.getElem_mem hlt)
      have hst := take_snocI l k hlt
      have hany : numBad l[k] = true → l.any numBad = true := fun h => List.any_eq_true.2 ⟨l[k], List.getElem_mem hlt, h⟩
      generalize l[k] = x at *
      have HST := Lib.hid hst; have HANY := Lib.hid hany
      clear hst hany hcc
      by_cases g1 : x < -127
      · have hr : r0 = false := by rw [HVB.out, HANY.out (by unfold numBad; rw [decide_eq_true g1]; rfl)]; simp
        subst hr
        go_wp2_with fail
        go_ret
        exact ⟨rfl, hS⟩
      · by_cases g2 : 127 < x
        · have hr : r0 = false := by rw [HVB.out, HANY.out (by unfold numBad; rw [decide_eq_true g2]; simp)]; simp
          subst hr
          go_wp2_with fail
          go_ret
          exact ⟨rfl, hS⟩
        · have hnb : numBad x = false := by unfold numBad; rw [decide_eq_false g1, decide_eq_false g2]; rfl
          have HNB := Lib.hid hnb
          clear hnb
          go_wp2_with fail
          go_roundw
          case rel => exact ⟨k + 1, by omega, by go_num, hS, by rw [HST.out, List.any_append, HNO.out, List.any_cons, HNB.out]; rfl⟩
          case measure => simp [intOf]; omega
    · obtain rfl : k = l.length := by omega
      have hr : r0 = decide (l.length = 8) := by have := HNO.out; rw [List.take_length] at this; rw [HVB.out, this]; simp
      have HR := Lib.hid hr
      clear hr
      by_cases h8 : l.length = 8
      · have HL8 := Lib.hid h8
        have h8' : ((l.length : Int) == 8) = true := beq_iff_eq.2 (by omega)
        clear h8
        go_wp2_with fail
        go_ret
        exact ⟨by rw [HR.out, decide_eq_true HL8.out]; rfl, hS⟩
      · have HL8 := Lib.hid h8
        have h8' : ((l.length : Int) == 8) = false := beq_eq_false_iff_ne.2 (by omega)
        clear h8
        go_wp2_with fail
        go_ret
        exact ⟨by rw [HR.out, decide_eq_false HL8.out]; rfl, hS⟩

theorem rangeB_terms {c : Chg} {t : Int × Int} (ht : t ∈ c.terms) (hb : termBad t = true) : rangeB c = true := by
  unfold rangeB
  rw [List.any_eq_true.2 ⟨t, ht, hb⟩, Bool.or_true]
theorem not_nodup_of {l : List Int} {i k : Nat} (hk : k < i) (hi : i < l.length) (h : l[k] = l[i]) : ¬ l.Nodup := by
  intro hn
  have := (List.pairwise_iff_getElem.1 hn) k i (by omega) hi hk
  exact this h
set_option maxRecDepth 100000 in
set_option maxHeartbeats 4000000 in
theorem rright10_any (v : Value) (c : Chg) (w : World) (hv : ChgV w v c) (hi : ChgI c) :
    Calls Try.prog 25 #[v] w fun e w' => e = .returned (.int .i64 (rightD c)) ∧ Same w w' := by
  obtain ⟨s1, s2, rfl, h1, h2⟩ := hv
  have H1 := Lib.hid h1; have H2 := Lib.hid h2; have HI := Lib.hid hi
  obtain ⟨a1, c1, rfl, hc1, hm1⟩ := h1.lit
  obtain ⟨a2, c2, rfl, hc2, hm2, _, _⟩ := h2
  clear h1 hi
  unfold maxLen at hm1 hm2
  have hlen := HI.out.2.2.2.2.1
  obtain ⟨ks, hks⟩ : ∃ ks, ks = c.terms.map (·.1) := ⟨_, rfl⟩
  have hkl : ks.length = c.terms.length := by rw [hks]; simp
  have HKL := Lib.hid hkl; have HKS := Lib.hid hks
  have hrd : rightD c = (if rangeB c = true then 1 else if 64 < c.terms.length then 3 else if ¬ ks.Nodup then 9 else if ¬ ks.Pairwise (· < ·) ∨ (c.gone = true ∧ emptyB c = false) ∨ (c.gone = false ∧ vecB c.v = false) then 2 else 0) := by rw [hks]; rfl
  obtain ⟨rr, hrr⟩ : ∃ r, r = rightD c := ⟨_, rfl⟩
  rw [← hrr] at hrd ⊢
  have HRD := Lib.hid hrd
  clear hkl hks hrd hrr
  have hdoc := HI.out.1
  have htag := HI.out.2.1
  go_enter Try.func25, Try.ntmps25
  go_upto_region 1 with fail
  obtain ⟨W0, hW0⟩ : ∃ W0, W0 = w.alloc (.cells #[.int .i64 c.doc, .slice a1 c.terms.length c1, .slice a2 c.v.length c2, .int .i64 c.tags, .bool c.gone] 36) := ⟨_, rfl⟩
  have hS0 : Same w W0 := by rw [hW0]; exact (Only.refl _ w).alloc _
  have hB0 : W0.heap[w.heap.size]? = some (.cells #[.int .i64 c.doc, .slice a1 c.terms.length c1, .slice a2 c.v.length c2, .int .i64 c.tags, .bool c.gone] 36 (0, 0)) := by rw [hW0]; exact blk_new _ _
  rw [← hW0]
  have HS0 := Lib.hid hS0; have HB0 := Lib.hid hB0
  have q0 := blk_cells hB0 0; have q1 := blk_cells hB0 1; have q2 := blk_cells hB0 2; have q3 := blk_cells hB0 3; have q4 := blk_cells hB0 4
  simp only [List.getElem?_toArray, List.getElem?_cons_zero, List.getElem?_cons_succ] at q0 q1 q2 q3 q4
  clear hS0 hB0 hW0
  by_cases g1 : c.doc < 0
  · obtain rfl : rr = 1 := by rw [HRD.out, if_pos (by unfold rangeB; rw [decide_eq_true g1]; rfl)]
    go_wp2_with fail
    go_ret
    exact ⟨rfl, HS0.out⟩
  by_cases g2 : 2147483647 < c.doc
  · obtain rfl : rr = 1 := by rw [HRD.out, if_pos (by unfold rangeB; rw [decide_eq_true g2, Bool.or_true]; rfl)]
    go_wp2_with fail
    go_ret
    exact ⟨rfl, HS0.out⟩
  by_cases g3 : c.tags < 0
  · obtain rfl : rr = 1 := by rw [HRD.out, if_pos (by unfold rangeB; rw [decide_eq_true g3, Bool.or_true]; rfl)]
    go_wp2_with fail
    go_ret
    exact ⟨rfl, HS0.out⟩
  by_cases g4 : 255 < c.tags
  · obtain rfl : rr = 1 := by rw [HRD.out, if_pos (by unfold rangeB; rw [decide_eq_true g4, Bool.or_true]; rfl)]
    go_wp2_with fail
    go_ret
    exact ⟨rfl, HS0.out⟩
  have hbt : rangeB c = c.terms.any termBad := by unfold rangeB; rw [decide_eq_false g1, decide_eq_false g2, decide_eq_false g3, decide_eq_false g4]; rfl
  have HBT := Lib.hid hbt
  clear hbt
  go_wp2_with fail
  go_loopw [3] (fun i wr => ∃ k : Nat, k ≤ c.terms.length ∧ i = .int .i64 k ∧ Same W0 wr ∧ (c.terms.take k).any termBad = false) (fun i _ => c.terms.length - (intOf i).toNat)
  case atStart => exact ⟨0, by omega, rfl, Only.refl _ _, rfl⟩
  case round =>
    obtain ⟨k, hk, rfl, hS, hno⟩ := hrel
    have HNO := Lib.hid hno
    clear hno
    obtain ⟨wr0, hwr⟩ : ∃ x, x = wr := ⟨_, rfl⟩
    subst hwr
    have t1 := hS.cell_eq q1 (fun h => h)
    by_cases hlt : k < c.terms.length
    · obtain ⟨b, off, rfl, hcc⟩ := H1.out.spot (by omega)
      have hck := hS.cell_eq (HS0.out.cell_eq (hcc k hlt).1 (fun h => h)) (fun h => h)
      have hck2 := hS.cell_eq (HS0.out.cell_eq (hcc k hlt).2 (fun h => h)) (fun h => h)
      have hxr := HI.out.2.2.1 c.terms[k] (List.getElem_mem hlt)
      have hst : c.terms.take (k + 1) = c.terms.take k ++ [c.terms[k]] := (List.take_append_getElem hlt).symm
      have hany : termBad c.terms[k] = true → rr = 1 := fun h => by rw [HRD.out, if_pos (rangeB_terms (List.getElem_mem hlt) h)]
      generalize c.terms[k] = tk at *
      obtain ⟨x, y⟩ := tk
      simp only at hck hck2 hxr
      have HST := Lib.hid hst; have HANY := Lib.hid hany
      obtain ⟨hx1, hx2⟩ := hxr
      clear hst hany hcc q0 q1 q2 q3 q4
      by_cases f1 : x < 0
      · obtain rfl : rr = 1 := HANY.out (by unfold termBad; rw [decide_eq_true f1]; rfl)
        go_wp2_with fail
        go_ret
        exact ⟨rfl, (HS0.out.then hS).alloc _⟩
      by_cases f2 : 1048575 < x
      · obtain rfl : rr = 1 := HANY.out (by unfold termBad; rw [decide_eq_true f2, Bool.or_true]; rfl)
        go_wp2_with fail
        go_ret
        exact ⟨rfl, (HS0.out.then hS).alloc _⟩
      by_cases f3 : y < 1
      · obtain rfl : rr = 1 := HANY.out (by unfold termBad; rw [decide_eq_true f3, Bool.or_true]; rfl)
        go_wp2_with fail
        go_ret
        exact ⟨rfl, (HS0.out.then hS).alloc _⟩
      by_cases f4 : 65535 < y
      · obtain rfl : rr = 1 := HANY.out (by unfold termBad; rw [decide_eq_true f4, Bool.or_true])
        go_wp2_with fail
        go_ret
        exact ⟨rfl, (HS0.out.then hS).alloc _⟩
      have hnb : termBad (x, y) = false := by unfold termBad; rw [decide_eq_false f1, decide_eq_false f2, decide_eq_false f3, decide_eq_false f4]; rfl
      have HNB := Lib.hid hnb
      clear hnb
      go_wp2_with fail
      go_roundw
      case rel => exact ⟨k + 1, by omega, by go_num, hS.alloc _, by rw [HST.out, List.any_append, HNO.out, List.any_cons, HNB.out]; rfl⟩
      case measure => simp [intOf]; omega
    · obtain rfl : k = c.terms.length := by omega
      have hrb : rangeB c = false := by have := HNO.out; rw [List.take_length] at this; rw [HBT.out, this]
      have hrd2 := HRD.out
      rw [hrb, if_neg (by decide)] at hrd2
      have HRD2 := Lib.hid hrd2
      clear hrb hrd2 HRD HBT HNO
      have HS1 := Lib.hid (HS0.out.then hS)
      have HB1 := Lib.hid (hS.heap HB0.out (fun h => h))
      clear HS0 HB0 q0 q1 q2 q3 q4 hS
      obtain ⟨p1, p2, p3, p4⟩ : wr0.cell? ⟨w.heap.size, 1, none⟩ = some (.slice a1 c.terms.length c1) ∧ wr0.cell? ⟨w.heap.size, 2, none⟩ = some (.slice a2 c.v.length c2) ∧ wr0.cell? ⟨w.heap.size, 3, none⟩ = some (.int .i64 c.tags) ∧ wr0.cell? ⟨w.heap.size, 4, none⟩ = some (.bool c.gone) :=
        ⟨blk_cells HB1.out 1, blk_cells HB1.out 2, blk_cells HB1.out 3, blk_cells HB1.out 4⟩
      by_cases g5 : 64 < c.terms.length
      · obtain rfl : rr = 3 := by rw [HRD2.out, if_pos g5]
        go_wp2_with fail
        go_ret
        exact ⟨rfl, HS1.out⟩
      have hrd3 := HRD2.out
      rw [if_neg g5] at hrd3
      have HRD3 := Lib.hid hrd3
      clear hrd3 HRD2 g1 g2
      go_wp2_with fail
      go_loopw [5, 6] (fun so i wr => ∃ k : Nat, k ≤ c.terms.length ∧ i = .int .i64 k ∧ Same wr0 wr ∧ so = .bool (decide ((ks.take k).Pairwise (· < ·))) ∧ (ks.take k).Nodup) (fun _ i _ => c.terms.length - (intOf i).toNat)
      case atStart => exact ⟨0, by omega, rfl, Only.refl _ _, by simp, by simp⟩
      case round =>
        obtain ⟨i, hk, rfl, hS, rfl, hnd⟩ := hrel
        have HND := Lib.hid hnd
        clear hnd
        obtain ⟨bs, hbs⟩ : ∃ b, b = decide ((ks.take i).Pairwise (· < ·)) := ⟨_, rfl⟩
        rw [← hbs]
        have HBS := Lib.hid hbs
        clear hbs
        obtain ⟨wr1, hwr⟩ : ∃ x, x = wr := ⟨_, rfl⟩
        subst hwr
        replace p1 := hS.cell_eq p1 (fun h => h)
        replace p2 := hS.cell_eq p2 (fun h => h)
        replace p3 := hS.cell_eq p3 (fun h => h)
        replace p4 := hS.cell_eq p4 (fun h => h)
        by_cases hlt : i < c.terms.length
        · have hki : i < ks.length := by have := HKL.out; omega
          obtain ⟨b, off, rfl, hcc⟩ := H1.out.spot (by omega)
          have hci := hS.cell_eq (HS1.out.cell_eq (hcc i hlt).1 (fun h => h)) (fun h => h)
          have hxe : ks[i] = c.terms[i].1 := by simp [HKS.out]
          rw [← hxe] at hci
          have hcc2 : ∀ j (h : j < ks.length), wr1.cell? ⟨b, off + j * 2, none⟩ = some (.int .i64 ks[j]) := fun j h => by
            have hj : j < c.terms.length := by have := HKL.out; omega
            have e : ks[j] = c.terms[j].1 := by simp [HKS.out]
            rw [e]
            exact hS.cell_eq (HS1.out.cell_eq (hcc j hj).1 (fun h => h)) (fun h => h)
          have HCC := Lib.hid hcc2
          clear hcc2 hcc hxe
          obtain ⟨x, hx⟩ : ∃ x, x = ks[i] := ⟨_, rfl⟩
          rw [← hx] at hci
          have HX := Lib.hid hx
          clear hx
          go_wp2_with fail
          go_loopw [5, 7] (fun so j wr => ∃ k : Nat, k ≤ i ∧ j = .int .i64 k ∧ Same wr1 wr ∧ so = .bool (bs && (ks.take k).all (fun y => decide (y < x))) ∧ x ∉ ks.take k) (fun _ j _ => i - (intOf j).toNat)
          case atStart => exact ⟨0, by omega, rfl, Only.refl _ _, by simp, by simp⟩
          case round =>
            obtain ⟨k, hk2, rfl, hS2, rfl, hnm⟩ := hrel
            have HNM := Lib.hid hnm
            clear hnm
            obtain ⟨ba, hba⟩ : ∃ b, b = (bs && (ks.take k).all (fun y => decide (y < x))) := ⟨_, rfl⟩
            rw [← hba]
            have HBA := Lib.hid hba
            clear hba
            obtain ⟨wr2, hwr2⟩ : ∃ x, x = wr := ⟨_, rfl⟩
            subst hwr2
            have r1 := hS2.cell_eq p1 (fun h => h)
            have hci2 := hS2.cell_eq hci (fun h => h)
            by_cases hlk : k < i
            · have hkk : k < ks.length := by omega
              have hck := hS2.cell_eq (HCC.out k hkk) (fun h => h)
              have hst := take_snocI ks k hkk
              have hdup : ks[k] = x → ¬ ks.Nodup := fun h => not_nodup_of hlk hki (by rw [h]; exact HX.out)
              generalize ks[k] = z at *
              have HST := Lib.hid hst; have HDUP := Lib.hid hdup
              clear hst hdup
              by_cases hzx : z = x
              · obtain rfl : rr = 9 := by rw [HRD3.out, if_pos (HDUP.out hzx)]
                subst hzx
                go_wp2_with fail
                go_quiet (fail)
                rename_i nq
                go_wp2_with fail
                go_ret
                exact ⟨rfl, ((HS1.out.then hS).then hS2).drewN nq⟩
              · have hzx2 : (z == x) = false := beq_eq_false_iff_ne.2 hzx
                have HZX := Lib.hid hzx
                clear hzx
                obtain ⟨bz, hbz⟩ : ∃ b, b = (ba && decide (z < x)) := ⟨_, rfl⟩
                have HBZ := Lib.hid hbz
                clear hbz
                go_wp2_with fail
                go_quiet (fail)
                rename_i nq
                go_upto_region 20 with fail
                have hS3 := hS2.drewN nq
                have r1' : (wr2.drewN nq).cell? ⟨w.heap.size, 1, none⟩ = some (.slice (some ⟨b, off, none⟩) c.terms.length c1) := r1
                have hci' : (wr2.drewN nq).cell? ⟨b, off + i * 2, none⟩ = some (.int .i64 x) := hci2
                have hck' : (wr2.drewN nq).cell? ⟨b, off + k * 2, none⟩ = some (.int .i64 z) := hck
                generalize wr2.drewN nq = wr3 at *
                clear r1 hci2 hck hzx2
                cases ba
                · obtain rfl : bz = false := by rw [HBZ.out]; rfl
                  go_wp2_with fail
                  go_quiet (fail)

                  go_wp2_with fail
                  go_roundw
                  case rel =>
                    refine ⟨k + 1, by omega, by go_num, hS3.drewN _, ?_, ?_⟩
                    · have e := HBA.out; rw [HST.out, List.all_append, ← Bool.and_assoc, ← e]; rfl
                    · rw [HST.out]; intro h; rcases List.mem_append.1 h with h | h
                      · exact HNM.out h
                      · simp at h; exact HZX.out h.symm
                  case measure => simp [intOf]; omega
                · obtain rfl : bz = decide (z < x) := by rw [HBZ.out]; rfl
                  go_wp2_with fail
                  go_quiet (fail)

                  go_wp2_with fail
                  go_roundw
                  case rel =>
                    refine ⟨k + 1, by omega, by go_num, hS3.drewN _, ?_, ?_⟩
                    · have e := HBA.out; rw [HST.out, List.all_append, ← Bool.and_assoc, ← e]; simp
                    · rw [HST.out]; intro h; rcases List.mem_append.1 h with h | h
                      · exact HNM.out h
                      · simp at h; exact HZX.out h.symm
                  case measure => simp [intOf]; omega
            · obtain rfl : k = i := by omega
              go_wp2_with fail
              go_roundw
              case rel =>
                refine ⟨k + 1, by omega, by go_num, hS.then hS2, ?_, ?_⟩
                · rw [HBA.out, HBS.out, take_snocI ks k hki, ← HX.out]
                  congr 1
                  rw [Bool.eq_iff_iff, Bool.and_eq_true, decide_eq_true_iff, decide_eq_true_iff, List.all_eq_true, pw_snoc]
                  simp
                · rw [take_snocI ks k hki, ← HX.out, nd_snoc]; exact ⟨HND.out, HNM.out⟩
              case measure => simp [intOf]; omega
        · obtain rfl : i = c.terms.length := by omega
          have hbs := HBS.out
          have hnd := HND.out
          rw [List.take_of_length_le (by have := HKL.out; omega)] at hbs hnd
          have hrd4 := HRD3.out
          rw [if_neg (not_not_intro hnd)] at hrd4
          have HBS2 := Lib.hid hbs; have HRD4 := Lib.hid hrd4
          have HSF := Lib.hid (HS1.out.then hS)
          clear hbs hnd hrd4 HBS HND HRD3 HS1 hS HB1
          cases bs
          · obtain rfl : rr = 2 := by rw [HRD4.out, if_pos (.inl (of_decide_eq_false HBS2.out.symm))]
            go_wp2_with fail
            go_ret
            exact ⟨rfl, HSF.out⟩
          have hpw : ks.Pairwise (· < ·) := of_decide_eq_true HBS2.out.symm
          have HPW := Lib.hid hpw
          clear hpw
          obtain ⟨bg, hbg⟩ : ∃ b, b = c.gone := ⟨_, rfl⟩
          rw [← hbg] at p4 HRD4
          have HBG := Lib.hid hbg
          clear hbg
          cases bg
          rotate_left
          · by_cases f1 : 0 < c.terms.length
            · obtain rfl : rr = 2 := by rw [HRD4.out, if_pos (.inr (.inl ⟨rfl, by unfold emptyB; rw [show c.terms.isEmpty = false by cases h : c.terms; (rw [h] at f1; simp at f1); rfl]; rfl⟩))]
              go_wp2_with fail
              go_ret
              exact ⟨rfl, HSF.out⟩
            by_cases f2 : 0 < c.v.length
            · obtain rfl : rr = 2 := by rw [HRD4.out, if_pos (.inr (.inl ⟨rfl, by unfold emptyB; rw [show c.v.isEmpty = false by cases h : c.v; (rw [h] at f2; simp at f2); rfl]; simp⟩))]
              go_wp2_with fail
              go_ret
              exact ⟨rfl, HSF.out⟩
            by_cases f3 : 0 < c.tags
            · obtain rfl : rr = 2 := by rw [HRD4.out, if_pos (.inr (.inl ⟨rfl, by unfold emptyB; rw [decide_eq_false (by omega)]; simp⟩))]
              go_wp2_with fail
              go_ret
              exact ⟨rfl, HSF.out⟩
            have he : emptyB c = true := by
              unfold emptyB
              rw [decide_eq_true (show c.tags = 0 by omega), List.isEmpty_iff.2 (List.eq_nil_of_length_eq_zero (by omega)), List.isEmpty_iff.2 (List.eq_nil_of_length_eq_zero (by omega))]; rfl
            obtain rfl : rr = 0 := by rw [HRD4.out, if_neg (by simp [he, HPW.out])]
            clear he
            go_wp2_with fail
            go_ret
            exact ⟨rfl, HSF.out⟩
          have cd := vright_any (.slice a2 c.v.length c2) c.v wr1 (H2.out.same HSF.out) HI.out.2.2.2.1
          obtain ⟨bv, hbv⟩ : ∃ b, b = vecB c.v := ⟨_, rfl⟩
          rw [← hbv] at cd HRD4
          have CD := Lib.hid cd
          clear hbv cd
          cases bv
          · obtain rfl : rr = 2 := by rw [HRD4.out, if_pos (.inr (.inr ⟨rfl, rfl⟩))]
            go_wp2_with fail
            refine CD.out.mono ?_
            rintro e w6 ⟨rfl, hS6⟩
            go_wp2_with fail
            go_ret
            exact ⟨rfl, HSF.out.then hS6⟩
          · obtain rfl : rr = 0 := by rw [HRD4.out, if_neg (by simp [HPW.out])]
            go_wp2_with fail
            refine CD.out.mono ?_
            rintro e w6 ⟨rfl, hS6⟩
            go_wp2_with fail
            go_ret
            exact ⟨rfl, HSF.out.then hS6⟩
end Go.Proofs.Ytjegohibpojneaa
