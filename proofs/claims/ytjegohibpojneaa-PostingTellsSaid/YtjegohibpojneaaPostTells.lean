import Derived.Test.YtjegohibpojneaaPostAwake
import Derived.Test.YtjegohibpojneaaPostRow
set_option linter.unusedVariables false
set_option linter.unusedSimpArgs false
namespace Go.Proofs.Ytjegohibpojneaa
open Go.RowKit

theorem openOf_code (s : ByteArray) : (openOf s).2 = 0 ∨ (openOf s).2 ≠ 0 := by omega
theorem parsePs_none (s : ByteArray) (h : (parsePs s).1 = none) : (parsePs s).2 ≠ 0 := by
  unfold parsePs at h ⊢
  by_cases h0 : (openOf s).2 = 0
  · rw [if_pos h0] at h ⊢
    cases hr : readPs (openOf s).1.data.toList with
    | none => simp
    | some l =>
      rw [hr] at h
      simp only at h ⊢
      by_cases hb : rightB l = true
      · rw [if_pos hb] at h; cases h
      · rw [if_neg hb]; simp
  · rw [if_neg h0]; exact h0
set_option maxRecDepth 100000 in
set_option maxHeartbeats 4000000 in
theorem postTells_walk (v0 : Value) (l : List (Int × Int)) (s : ByteArray) (w : World) (h0 : SlP w v0 l) (hp : ∀ p ∈ l, (-9223372036854775808 ≤ p.1 ∧ p.1 ≤ 9223372036854775807) ∧ (-9223372036854775808 ≤ p.2 ∧ p.2 ≤ 9223372036854775807)) (hs : s.size ≤ 140737488351232) :
    Calls Try.prog 5 #[v0, .string s] w fun e w' => e = .returned (.bool true) ∧ Same w w' := by
  have H0 := Lib.hid h0
  obtain ⟨ad, cp, rfl, hcp, hmx⟩ := h0.lit
  unfold maxLen at hmx
  clear h0 hp
  go_enter Try.func5, Try.ntmps5
  go_wp2_with fail
  refine (pawake_any _).mono ?_
  rintro e w1 ⟨rfl, hS1⟩
  have HS1 := Lib.hid hS1
  have H1 := Lib.hid (H0.out.same hS1)
  clear hS1 H0
  by_cases hl : 300 < l.length
  · have hld : (300 : Int) < (l.length : Int) := by omega
    go_wp2_with fail
    go_ret
    exact ⟨rfl, HS1.out⟩
  have hld : ¬ (300 : Int) < (l.length : Int) := by omega
  by_cases hs2 : 2000 < s.size
  · have hsd : (2000 : Int) < (s.size : Int) := by omega
    go_wp2_with fail
    go_ret
    exact ⟨rfl, HS1.out⟩
  have hsd : ¬ (2000 : Int) < (s.size : Int) := by omega
  go_wp2_with fail
  refine (build_any _ l _ H1.out (by omega)).mono ?_
  rintro e w2 ⟨hS2, ⟨hr, b, rfl, hL⟩ | ⟨hr, rfl⟩⟩
  · have HS2 := Lib.hid (HS1.out.then hS2); have H2 := Lib.hid (H1.out.same hS2); have HL := Lib.hid hL; have HR := Lib.hid ((rightB_iff l).1 hr)
    have cr := fun w0 hv => rright05_any (.slice ad l.length cp) l w0 hv
    rw [hr] at cr
    have CR := Lib.hid cr
    clear hS2 hL hr cr HS1 H1
    go_wp2_with fail
    refine (CR.out _ H2.out).mono ?_
    rintro e w3 ⟨rfl, hS3⟩
    have HS3 := Lib.hid (HS2.out.then hS3); have H3 := Lib.hid (H2.out.same hS3); have HL3 := Lib.hid (HL.out.same hS3)
    clear hS3 HS2 H2 HL CR
    have hnb : ((nbP l : Nat) : Int) = ((l.length : Int) + 3) / 4 := by unfold nbP; omega
    have hnc := Lib.hid hnb
    go_wp2_with fail
    refine (len05_any b l _ HL3.out).mono ?_
    rintro e wd ⟨rfl, hSd⟩
    go_wp2_with fail
    refine (max05_any b l _ (HL3.out.same hSd)).mono ?_
    rintro e we ⟨rfl, hSe⟩
    go_wp2_with fail
    refine (rmax_any _ l _ ((H3.out.same hSd).same hSe)).mono ?_
    rintro e wg ⟨rfl, hSg⟩
    have HSg := Lib.hid ((hSd.then hSe).then hSg)
    clear hSd hSe hSg
    go_wp2_with fail
    refine (blocks05_any b l _ (HL3.out.same HSg.out)).mono ?_
    rintro e wf ⟨rfl, hSf⟩
    rw [hnc.out]
    have HSf := Lib.hid (HSg.out.then hSf)
    clear hSf
    go_wp2_with fail
    refine (posts05_any b l _ (HL3.out.same HSf.out) (by omega)).mono ?_
    rintro e wh ⟨v1, rfl, hSh, hV1⟩
    go_wp2_with fail
    refine (rsame05_any _ _ l l _ hV1 (H3.out.same (HSf.out.then hSh))).mono ?_
    rintro e wi ⟨rfl, hSi⟩
    rw [decide_eq_true (rfl : l = l)]
    have HSi := Lib.hid ((HSf.out.then hSh).then hSi)
    clear hSh hV1 hSi
    go_wp2_with fail
    refine (print05_any b l _ (HL3.out.same HSi.out) HR.out (by omega)).mono ?_
    rintro e wj ⟨rfl, hSj⟩
    go_wp2_with fail
    refine (rprint05_any _ l _ (H3.out.same (HSi.out.then hSj)) HR.out (by omega)).mono ?_
    rintro e wk ⟨rfl, hSk⟩
    have HS4 := Lib.hid (HS3.out.then ((HSi.out.then hSj).then hSk))
    clear hSj hSk
    go_wp2_with fail
    refine (parse05_any s _ (by omega)).mono ?_
    rintro e w5 ⟨hS5, ⟨hn, rfl⟩ | ⟨l2, b2, hl2, hr2, hn2, rfl, h0, hL⟩⟩
    · have hc := parsePs_none s hn
      have HN := Lib.hid hn
      clear hn
      have cr := fun w0 => rparse05_any s w0 (by omega)
      rw [HN.out] at cr
      generalize (parsePs s).2 = c2 at *
      have hcb : (c2 != 0) = true := by simpa using hc
      have CR := Lib.hid cr
      clear hc cr HN
      go_wp2_with fail
      refine (CR.out _).mono ?_
      rintro e w6 ⟨v, hS6, rfl, hV⟩
      go_wp2_with fail
      go_ret
      exact ⟨rfl, (HS4.out.then hS5).then hS6⟩
    · have cr := fun w0 => rparse05_any s w0 (by omega)
      rw [hl2, h0, Option.getD_some] at cr
      have CR := Lib.hid cr; have HL := Lib.hid hL; have HS5 := Lib.hid (HS4.out.then hS5)
      clear cr hL hS5 hl2 h0 hr2
      go_wp2_with fail
      refine (CR.out _).mono ?_
      rintro e w6 ⟨v, hS6, rfl, hV⟩
      have HV := Lib.hid hV; have HS6 := Lib.hid (HS5.out.then hS6); have HL6 := Lib.hid (HL.out.same hS6)
      clear hV hS6 HS5 HL
      go_wp2_with fail
      refine (posts05_any b2 l2 _ HL6.out (by omega)).mono ?_
      rintro e w7 ⟨v7, rfl, hS7, hV7⟩
      go_wp2_with fail
      refine (rsame05_any _ _ l2 l2 _ hV7 (HV.out.same hS7)).mono ?_
      rintro e w8 ⟨rfl, hS8⟩
      rw [decide_eq_true (rfl : l2 = l2)]
      go_wp2_with fail
      go_ret
      exact ⟨rfl, (HS6.out.then hS7).then hS8⟩
  · have HS2 := Lib.hid (HS1.out.then hS2); have H2 := Lib.hid (H1.out.same hS2)
    have cr := fun w0 hv => rright05_any (.slice ad l.length cp) l w0 hv
    rw [hr] at cr
    have CR := Lib.hid cr
    clear hS2 hr cr HS1 H1
    go_wp2_with fail
    refine (CR.out _ H2.out).mono ?_
    rintro e w3 ⟨rfl, hS3⟩
    have HS4 := Lib.hid (HS2.out.then hS3)
    clear hS3 HS2 H2 CR
    go_wp2_with fail
    refine (parse05_any s _ (by omega)).mono ?_
    rintro e w5 ⟨hS5, ⟨hn, rfl⟩ | ⟨l2, b2, hl2, hr2, hn2, rfl, h0, hL⟩⟩
    · have hc := parsePs_none s hn
      have HN := Lib.hid hn
      clear hn
      have cr := fun w0 => rparse05_any s w0 (by omega)
      rw [HN.out] at cr
      generalize (parsePs s).2 = c2 at *
      have hcb : (c2 != 0) = true := by simpa using hc
      have CR := Lib.hid cr
      clear hc cr HN
      go_wp2_with fail
      refine (CR.out _).mono ?_
      rintro e w6 ⟨v, hS6, rfl, hV⟩
      go_wp2_with fail
      go_ret
      exact ⟨rfl, (HS4.out.then hS5).then hS6⟩
    · have cr := fun w0 => rparse05_any s w0 (by omega)
      rw [hl2, h0, Option.getD_some] at cr
      have CR := Lib.hid cr; have HL := Lib.hid hL; have HS5 := Lib.hid (HS4.out.then hS5)
      clear cr hL hS5 hl2 h0 hr2
      go_wp2_with fail
      refine (CR.out _).mono ?_
      rintro e w6 ⟨v, hS6, rfl, hV⟩
      have HV := Lib.hid hV; have HS6 := Lib.hid (HS5.out.then hS6); have HL6 := Lib.hid (HL.out.same hS6)
      clear hV hS6 HS5 HL
      go_wp2_with fail
      refine (posts05_any b2 l2 _ HL6.out (by omega)).mono ?_
      rintro e w7 ⟨v7, rfl, hS7, hV7⟩
      go_wp2_with fail
      refine (rsame05_any _ _ l2 l2 _ hV7 (HV.out.same hS7)).mono ?_
      rintro e w8 ⟨rfl, hS8⟩
      rw [decide_eq_true (rfl : l2 = l2)]
      go_wp2_with fail
      go_ret
      exact ⟨rfl, (HS6.out.then hS7).then hS8⟩
end Go.Proofs.Ytjegohibpojneaa
