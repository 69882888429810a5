import Derived.Test.YtjegohibpojneaaPostParseR
import Derived.Test.YtjegohibpojneaaPostSeek
set_option linter.unusedVariables false
set_option linter.unusedSimpArgs false
namespace Go.Proofs.Ytjegohibpojneaa
open Go.RowKit
attribute [local go_sem ↓] Go.wp_at_zero Go.wp_at_succ

def aL : List (Int × Int) := [(1, 5), (3, 9), (4, 2), (8, 1), (9, 4)]
theorem aL_right : rightB aL = true := by decide
theorem aL_R : RightP aL := (rightB_iff aL).1 aL_right
theorem aO_right : rightB [(1, 0)] = false := by decide
theorem aL_seek : seekP aL 0 5 = 3 := by decide
theorem aL_b2 : blockP aL 2 = (9, 8) := by decide
theorem aL_b9 : blockP aL 9 = (4, 9) := by decide
theorem aL_max : maxP aL = 9 := by decide
theorem aL_nb : nbP aL = 2 := by decide
theorem aL_at3 : atP aL 3 = (8, 1) := by decide
theorem aL_at5 : atP aL 5 = (0, 0) := by decide
theorem printP_len (l : List (Int × Int)) (h : RightP l) (hn : l.length ≤ 1000) : (printP l).size ≤ 20000 := by
  have hdr := print_docs l h
  have hdl := docsP_len l
  have hwl := wtsP_len l
  obtain ⟨rb, hrb, hrbl⟩ := risS_some (docsP l) h.rises (fun x hx => by have := hdr x hx; omega) (by omega)
  have hfl := fixB_len 16 (wtsP l)
  unfold printP sealOf
  rw [hrb, Option.getD_some, ByteArray.size_append, str_size, strOfNums_size, List.length_append]
  simp
  omega
set_option maxRecDepth 100000 in
set_option maxHeartbeats 4000000 in
theorem pawake_any (w : World) : Calls Try.prog 29 #[] w fun e w' => e = .returned (.bool true) ∧ Same w w' := by
  have hps := printP_len aL aL_R (by decide)
  obtain ⟨P, hP⟩ : ∃ P, P = printP aL := ⟨_, rfl⟩
  have hpp := parsePs_print aL aL_R (by decide)
  rw [← hP] at hps hpp
  have HP := Lib.hid hP; have HPP := Lib.hid hpp
  clear hP hpp
  go_enter Try.func29, Try.ntmps29
  go_wp2_with fail
  have hsl : SlP (w.alloc (.cells #[.int .i64 1, .int .i64 5, .int .i64 3, .int .i64 9, .int .i64 4, .int .i64 2, .int .i64 8, .int .i64 1, .int .i64 9, .int .i64 4] 77)) (.slice (some ⟨w.heap.size, 0, none⟩) 5 5) aL := own_slp (l := aL) (own_blkP 5 2 (blk_new _ _) rfl (by decide))
  refine (build_any _ aL _ hsl (by decide)).mono ?_
  rintro e w1 ⟨hS1, ⟨-, b, rfl, hL1⟩ | ⟨hf, _⟩⟩
  rotate_left
  · rw [aL_right] at hf; cases hf
  have HS1 := Lib.hid (((Only.refl (fun _ => False) w).alloc _).then hS1)
  have HL1 := Lib.hid hL1.low
  clear hsl hS1 hL1
  go_wp2_with fail
  have hsl : SlP (w1.alloc (.cells #[.int .i64 1, .int .i64 0] 77)) (.slice (some ⟨w1.heap.size, 0, none⟩) 1 1) [(1, 0)] := own_slp (l := [(1, 0)]) (own_blkP 1 2 (blk_new _ _) rfl (by decide))
  refine (build_any _ [(1, 0)] _ hsl (by decide)).mono ?_
  rintro e w2 ⟨hS2, ⟨hf, _⟩ | ⟨-, rfl⟩⟩
  · rw [aO_right] at hf; cases hf
  have hS2' : Same w1 w2 := ((Only.refl (fun _ => False) w1).alloc _).then hS2
  have HS2 := Lib.hid (HS1.out.then hS2')
  have HL2 := Lib.hid (HL1.out.same hS2')
  have hz2 := hS2'.size
  clear hsl hS2 hS2' HS1 HL1
  go_wp2_with fail
  refine (cursor05_any b w1.heap.size aL _ HL2.out hz2).mono ?_
  rintro e w3 ⟨rfl, hS3, hC3⟩
  have HS3 := Lib.hid (HS2.out.then hS3)
  have HC3 := Lib.hid hC3
  have hzw : w.heap.size ≤ w2.heap.size := HS2.out.size
  obtain ⟨c, hc⟩ : ∃ c, c = w2.heap.size := ⟨_, rfl⟩
  rw [← hc] at HC3 ⊢
  have hcw : w.heap.size ≤ c := by omega
  clear hS3 hC3 HS2 HL2 hc
  go_wp2_with fail
  refine (seek05_any c b 0 _ aL 5 _ HC3.out aL_R (by decide) (by omega)).mono ?_
  rintro e w4 ⟨rfl, hO4, hC4⟩
  rw [aL_seek] at hC4
  have HS4 := Lib.hid (HS3.out.trans hO4 (S := fun _ => False) (fun g h1 h2 => by omega))
  have HC4 := Lib.hid hC4
  clear hO4 hC4 HS3 HC3
  go_wp2_with fail
  refine (at05_any c b 3 _ aL _ HC4.out (by decide)).mono ?_
  rintro e w5 ⟨rfl, hS5⟩
  rw [aL_at3]
  have hB5 := blk_new w5 (.cells #[.int .i64 8, .int .i64 1] 77)
  have hSa : Same w5 (w5.alloc (.cells #[.int .i64 8, .int .i64 1] 77)) := (Only.refl _ w5).alloc _
  have hz5 := hS5.size
  have hlc : c < w4.heap.size := heap_lt HC4.out.1
  go_upto_region 10 with fail
  generalize w5.alloc (.cells #[.int .i64 8, .int .i64 1] 77) = W5 at *
  have HS5 := Lib.hid ((HS4.out.then hS5).then hSa)
  have HC5 := Lib.hid ((HC4.out.same hS5).same hSa)
  have HB5 := Lib.hid hB5
  clear hS5 hSa hB5 HS4 HC4
  go_wp2_with fail
  refine (cblock_any c b 3 _ aL 2 _ HC5.out aL_R (by decide) (by omega)).mono ?_
  rintro e w6 ⟨rfl, hS6⟩
  rw [aL_b2]
  go_wp2_with fail
  refine (cblock_any c b 3 _ aL 9 _ (HC5.out.same hS6) aL_R (by decide) (by omega)).mono ?_
  rintro e w7 ⟨rfl, hS7⟩
  rw [aL_b9]
  have HS7 := Lib.hid ((HS5.out.then hS6).then hS7)
  have HC7 := Lib.hid ((HC5.out.same hS6).same hS7)
  have HB7 := Lib.hid (hS7.heap (hS6.heap HB5.out (fun h => h)) (fun h => h))
  clear hS6 hS7 HS5 HC5 HB5
  go_wp2_with fail
  refine (next05_any c b 3 _ aL _ HC7.out (by decide)).mono ?_
  rintro e w8 ⟨rfl, hO8, hC8⟩
  go_wp2_with fail
  refine (next05_any c b _ _ aL _ hC8 (by decide)).mono ?_
  rintro e w9 ⟨rfl, hO9, hC9⟩
  have HS9 := Lib.hid ((HS7.out.trans hO8 (S := fun _ => False) (fun g h1 h2 => by omega)).trans hO9 (S := fun _ => False) (fun g h1 h2 => by omega))
  have HC9 := Lib.hid (show CurAt w9 c b 5 aL _ from hC9)
  have HB9 := Lib.hid (hO9.heap (hO8.heap HB7.out (by omega)) (by omega))
  clear hO8 hC8 hO9 hC9 HS7 HC7 HB7
  go_wp2_with fail
  refine (at05_any c b 5 _ aL _ HC9.out (by decide)).mono ?_
  rintro e wa ⟨rfl, hSa⟩
  rw [aL_at5]
  have hSb : Same wa (wa.alloc (.cells #[.int .i64 0, .int .i64 0] 77)) := (Only.refl _ wa).alloc _
  go_upto_region 15 with fail
  generalize wa.alloc (.cells #[.int .i64 0, .int .i64 0] 77) = Wa at *
  have HSa := Lib.hid ((HS9.out.then hSa).then hSb)
  have HBa := Lib.hid (hSb.heap (hSa.heap HB9.out (fun h => h)) (fun h => h))
  have HLa := Lib.hid (((HC9.out.same hSa).same hSb).2.2.2.list)
  clear hSa hSb HS9 HC9 HB9
  go_wp2_with fail
  refine (print05_any b aL _ HLa.out aL_R (by decide)).mono ?_
  rintro e wb ⟨rfl, hSb⟩
  rw [← HP.out]
  go_wp2_with fail
  refine (parse05_any P _ (by omega)).mono ?_
  rw [HPP.out]
  rintro e wc ⟨hSc, ⟨hf, _⟩ | ⟨l2, b2, hl2, -, -, rfl, -, hL2⟩⟩
  · cases hf
  obtain rfl : aL = l2 := by simpa using hl2
  have HLc := Lib.hid ((HLa.out.same hSb).same hSc)
  have HL2 := Lib.hid hL2
  have HSc := Lib.hid ((HSa.out.then hSb).then hSc)
  have hBc := hSc.heap (hSb.heap HBa.out (fun h => h)) (fun h => h)
  have HBc := Lib.hid hBc
  clear hSb hSc hl2 hL2 HLa HSa HBa hBc
  go_wp2_with fail
  refine (len05_any b aL _ HLc.out).mono ?_
  rintro e wd ⟨rfl, hSd⟩
  rw [show aL.length = 5 from rfl]
  go_wp2_with fail
  refine (max05_any b aL _ (HLc.out.same hSd)).mono ?_
  rintro e we ⟨rfl, hSe⟩
  rw [aL_max]
  go_wp2_with fail
  refine (blocks05_any b aL _ ((HLc.out.same hSd).same hSe)).mono ?_
  rintro e wf ⟨rfl, hSf⟩
  rw [aL_nb]
  have hSF := (hSd.then hSe).then hSf
  obtain ⟨q0, q1, _, _⟩ := two_facts (hSF.heap HBc.out (fun h => h))
  go_wp2_with fail
  refine (posts05_any b2 aL _ (HL2.out.same hSF) (by decide)).mono ?_
  rintro e wg ⟨v1, rfl, hSg, hV1⟩
  go_wp2_with fail
  refine (posts05_any b aL _ ((HLc.out.same hSF).same hSg) (by decide)).mono ?_
  rintro e wh ⟨v2, rfl, hSh, hV2⟩
  go_wp2_with fail
  refine (rsame05_any _ _ aL aL _ (hV1.same hSh) hV2).mono ?_
  rintro e wi ⟨rfl, hSi⟩
  rw [decide_eq_true (rfl : aL = aL)]
  go_wp2_with fail
  go_ret
  exact ⟨rfl, (((HSc.out.then hSF).then hSg).then hSh).then hSi⟩
end Go.Proofs.Ytjegohibpojneaa
