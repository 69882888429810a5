import Derived.Test.YtjegohibpojneaaDocSame
import Derived.Test.YtjegohibpojneaaDocPrint
import Derived.Test.YtjegohibpojneaaPackSame
set_option linter.unusedVariables false
set_option linter.unusedSimpArgs false
namespace Go.Proofs.Ytjegohibpojneaa
open Go.RowKit

def sameD (c1 c2 : Chg) : Bool := decide (c1.doc = c2.doc ∧ c1.gone = c2.gone ∧ c1.tags = c2.tags ∧ c1.terms = c2.terms ∧ c1.v = c2.v)
theorem sameD_self (c : Chg) : sameD c c = true := by simp [sameD]
theorem sameD_iff (c1 c2 : Chg) : sameD c1 c2 = true ↔ c1 = c2 := by
  obtain ⟨d1, t1, v1, g1, x1⟩ := c1
  obtain ⟨d2, t2, v2, g2, x2⟩ := c2
  constructor
  · intro h
    obtain ⟨a, b, c, d, e⟩ := of_decide_eq_true h
    simp only at a b c d e
    subst a b c d e
    rfl
  · intro h
    cases h
    exact sameD_self _

set_option maxRecDepth 100000 in
set_option maxHeartbeats 1000000 in
theorem dsame_any (v1 v2 : Value) (c1 c2 : Chg) (w : World) (h1 : ChgV w v1 c1) (h2 : ChgV w v2 c2) :
    Calls Try.prog 28 #[v1, v2] w fun e w' => e = .returned (.bool (sameD c1 c2)) ∧ Same w w' := by
  obtain ⟨s1, s2, rfl, ht1, hv1⟩ := h1
  obtain ⟨s3, s4, rfl, ht2, hv2⟩ := h2
  obtain ⟨hS0, hB0⟩ := chg_box w c1 s1 s2 27 _ rfl
  obtain ⟨hS1, hB1⟩ := chg_box (w.alloc (.cells #[.int .i64 c1.doc, s1, s2, .int .i64 c1.tags, .bool c1.gone] 27)) c2 s3 s4 27 _ rfl
  have hS2 := hS0.then hS1
  have hA := hS1.heap hB0 (fun h => h)
  have eT := fun w0 (hS : Same w w0) => eqT_any s1 s3 c1.terms c2.terms w0 (ht1.same hS) (ht2.same hS)
  have eV := fun w0 (hS : Same w w0) => eqI_any s2 s4 c1.v c2.v w0 (hv1.same hS) (hv2.same hS)
  obtain ⟨p0, p1, p2, p3, p4⟩ := chg_cells hA
  obtain ⟨q0, q1, q2, q3, q4⟩ := chg_cells hB1
  rw [World.size_alloc] at q0 q1 q2 q3 q4
  obtain ⟨r, hr⟩ : ∃ r, r = sameD c1 c2 := ⟨_, rfl⟩
  rw [← hr]
  have HR := Lib.hid hr; have HS := Lib.hid hS2; have ET := Lib.hid eT; have EV := Lib.hid eV
  clear hr hS0 hB0 hS1 hB1 hA hS2 eT eV ht1 hv1 ht2 hv2
  by_cases g1 : c1.doc = c2.doc
  rotate_left
  · have hb : (c1.doc == c2.doc) = false := by simpa using g1
    have : r = false := by rw [HR.out]; simp [sameD, g1]
    subst this
    clear g1
    go_enter Try.func28, Try.ntmps28
    go_wp2_with fail
    go_ret
    exact ⟨rfl, HS.out⟩
  have hb1 : (c1.doc == c2.doc) = true := by simpa using g1
  by_cases g2 : c1.gone = c2.gone
  rotate_left
  · have hb : (c1.gone == c2.gone) = false := by simpa using g2
    have : r = false := by rw [HR.out]; simp [sameD, g2]
    subst this
    clear g1 g2
    go_enter Try.func28, Try.ntmps28
    go_wp2_with fail
    go_ret
    exact ⟨rfl, HS.out⟩
  have hb2 : (c1.gone == c2.gone) = true := by simpa using g2
  by_cases g3 : c1.tags = c2.tags
  rotate_left
  · have hb : (c1.tags == c2.tags) = false := by simpa using g3
    have : r = false := by rw [HR.out]; simp [sameD, g3]
    subst this
    clear g1 g2 g3
    go_enter Try.func28, Try.ntmps28
    go_wp2_with fail
    go_ret
    exact ⟨rfl, HS.out⟩
  have hb3 : (c1.tags == c2.tags) = true := by simpa using g3
  by_cases g4 : c1.terms = c2.terms
  rotate_left
  · have hd : decide (c1.terms = c2.terms) = false := by simpa using g4
    rw [hd] at ET
    have : r = false := by rw [HR.out]; simp [sameD, g4]
    subst this
    clear g1 g2 g3 g4 hd
    go_enter Try.func28, Try.ntmps28
    go_wp2_with (go_at_call 98; refine (ET.out _ HS.out).mono ?_; rintro e w1 ⟨rfl, hS1⟩)
    go_ret
    exact ⟨rfl, HS.out.then hS1⟩
  have hd : decide (c1.terms = c2.terms) = true := by simpa using g4
  rw [hd] at ET
  have hr2 : r = decide (c1.v = c2.v) := by rw [HR.out]; simp [sameD, g1, g2, g3, g4]
  rw [← hr2] at EV
  clear g1 g2 g3 g4 hd hr2
  go_enter Try.func28, Try.ntmps28
  go_wp2_with (first | (go_at_call 98; refine (ET.out _ HS.out).mono ?_; rintro e w1 ⟨rfl, hS1⟩; have j1 := hS1.cell_eq p1 (fun h => h); have j2 := hS1.cell_eq p2 (fun h => h); have l2 := hS1.cell_eq q2 (fun h => h)) | (go_at_call 99; refine (EV.out _ (HS.out.then hS1)).mono ?_; rintro e w2 ⟨rfl, hS2⟩))
  go_ret
  exact ⟨rfl, (HS.out.then hS1).then hS2⟩
set_option maxRecDepth 100000 in
set_option maxHeartbeats 1000000 in
theorem rsame10_any (v1 v2 : Value) (c1 c2 : Chg) (w : World) (h1 : ChgV w v1 c1) (h2 : ChgV w v2 c2) :
    Calls Try.prog 26 #[v1, v2] w fun e w' => e = .returned (.bool (sameD c1 c2)) ∧ Same w w' := by
  obtain ⟨s1, s2, rfl, ht1, hv1⟩ := h1
  obtain ⟨s3, s4, rfl, ht2, hv2⟩ := h2
  obtain ⟨a1, m1, rfl, hc1, hm1, _, hx1⟩ := ht1
  obtain ⟨a2, m2, rfl, hc2, hm2, _, hx2⟩ := ht2
  have HX1 := Lib.hid hx1; have HX2 := Lib.hid hx2
  unfold maxLen at hm1 hm2
  obtain ⟨hS0, hB0⟩ := chg_box w c1 (.slice a1 c1.terms.length m1) s2 36 _ rfl
  obtain ⟨hS1, hB1⟩ := chg_box (w.alloc (.cells #[.int .i64 c1.doc, .slice a1 c1.terms.length m1, s2, .int .i64 c1.tags, .bool c1.gone] 36)) c2 (.slice a2 c2.terms.length m2) s4 36 _ rfl
  have hS2 := hS0.then hS1
  have hA := hS1.heap hB0 (fun h => h)
  have eV := fun w0 (hS : Same w w0) => same02_any s2 s4 c1.v c2.v w0 (hv1.same hS) (hv2.same hS)
  obtain ⟨p0, p1, p2, p3, p4⟩ := chg_cells hA
  obtain ⟨q0, q1, q2, q3, q4⟩ := chg_cells hB1
  rw [World.size_alloc] at q0 q1 q2 q3 q4
  obtain ⟨r, hr⟩ : ∃ r, r = sameD c1 c2 := ⟨_, rfl⟩
  rw [← hr]
  have HR := Lib.hid hr; have HS := Lib.hid hS2; have EV := Lib.hid eV
  clear hr hS0 hB0 hS1 hB1 hA hS2 eV hv1 hv2 hx1 hx2
  by_cases g1 : c1.doc = c2.doc
  rotate_left
  · have hb : (c1.doc != c2.doc) = true := by simpa using g1
    have : r = false := by rw [HR.out]; simp [sameD, g1]
    subst this
    clear g1
    go_enter Try.func26, Try.ntmps26
    go_wp2_with fail
    go_ret
    exact ⟨rfl, HS.out⟩
  have hb1 : (c1.doc != c2.doc) = false := by simpa using g1
  by_cases g3 : c1.tags = c2.tags
  rotate_left
  · have hb : (c1.tags != c2.tags) = true := by simpa using g3
    have : r = false := by rw [HR.out]; simp [sameD, g3]
    subst this
    clear g1 g3
    go_enter Try.func26, Try.ntmps26
    go_wp2_with fail
    go_ret
    exact ⟨rfl, HS.out⟩
  have hb3 : (c1.tags != c2.tags) = false := by simpa using g3
  by_cases g2 : c1.gone = c2.gone
  rotate_left
  · have hb : (c1.gone == c2.gone) = false := by simpa using g2
    have : r = false := by rw [HR.out]; simp [sameD, g2]
    subst this
    clear g1 g2 g3
    go_enter Try.func26, Try.ntmps26
    go_wp2_with fail
    go_ret
    exact ⟨rfl, HS.out⟩
  have hb2 : (c1.gone == c2.gone) = true := by simpa using g2
  by_cases g4 : c1.terms.length = c2.terms.length
  rotate_left
  · have hb : ((c1.terms.length : Int) != (c2.terms.length : Int)) = true := by simp; omega
    have : r = false := by rw [HR.out]; simp [sameD]; intro _ _ _ h; exact absurd (congrArg List.length h) g4
    subst this
    clear g1 g2 g3 g4
    go_enter Try.func26, Try.ntmps26
    go_wp2_with fail
    go_ret
    exact ⟨rfl, HS.out⟩
  have hb4 : ((c1.terms.length : Int) != (c2.terms.length : Int)) = false := by simp; omega
  by_cases g5 : c1.v = c2.v
  rotate_left
  · have hd : decide (c1.v = c2.v) = false := by simpa using g5
    rw [hd] at EV
    have : r = false := by rw [HR.out]; simp [sameD, g5]
    subst this
    clear g1 g2 g3 g4 g5 hd
    go_enter Try.func26, Try.ntmps26
    go_wp2_with (go_at_call 97; refine (EV.out _ HS.out).mono ?_; rintro e w1 ⟨rfl, hS1⟩)
    go_ret
    exact ⟨rfl, HS.out.then hS1⟩
  have hd : decide (c1.v = c2.v) = true := by simpa using g5
  rw [hd] at EV
  have hr2 : r = decide (c1.terms = c2.terms) := by rw [HR.out]; simp [sameD, g1, g2, g3, g5]
  have HR2 := Lib.hid hr2; have HL := Lib.hid g4
  clear g1 g2 g3 g4 g5 hd hr2 HR
  go_enter Try.func26, Try.ntmps26
  go_wp2_with (go_at_call 97; refine (EV.out _ HS.out).mono ?_; rintro e w1 ⟨rfl, hS1⟩; have j1 := hS1.cell_eq p1 (fun h => h); have l1 := hS1.cell_eq q1 (fun h => h))
  have HS1 := Lib.hid (HS.out.then hS1)
  have HP := Lib.hid (hS1.cell_eq p1 (fun h => h)); have HQ := Lib.hid (hS1.cell_eq q1 (fun h => h))
  clear p0 p1 p2 p3 p4 q0 q1 q2 q3 q4 j1 l1 hS1 EV HS hb1 hb2 hb3 hb4
  go_loopw [5] (fun i wr => ∃ k : Nat, k ≤ c1.terms.length ∧ i = .int .i64 k ∧ Same w1 wr ∧ c1.terms.take k = c2.terms.take k) (fun i _ => c1.terms.length - (intOf i).toNat)
  case atStart => exact ⟨0, by omega, rfl, Only.refl _ _, rfl⟩
  case round =>
    obtain ⟨k, hk, rfl, hS, ht⟩ := hrel
    have HT := Lib.hid ht
    clear ht
    have j1 := hS.cell_eq HP.out (fun h => h)
    have l1 := hS.cell_eq HQ.out (fun h => h)
    by_cases hlt : k < c1.terms.length
    · have hlt2 : k < c2.terms.length := by have := HL.out; omega
      obtain ⟨b1, o1, rfl, hc1'⟩ := HX1.out (by omega)
      obtain ⟨b2, o2, rfl, hc2'⟩ := HX2.out (by omega)
      have hSw := HS1.out.then hS
      have k1 := hSw.cell_eq (hc1' k hlt).1 (fun h => h)
      have k2 := hSw.cell_eq (hc2' k hlt2).1 (fun h => h)
      have k3 := hSw.cell_eq (hc1' k hlt).2 (fun h => h)
      have k4 := hSw.cell_eq (hc2' k hlt2).2 (fun h => h)
      clear hc1' hc2' hSw
      by_cases heq : c1.terms[k] = c2.terms[k]
      · have HQ2 := Lib.hid heq
        clear heq
        generalize hx : c1.terms[k] = x at *
        generalize hy : c2.terms[k] = y at *
        obtain ⟨x1, x2⟩ := x
        obtain ⟨y1, y2⟩ := y
        have hb1 : (x1 == y1) = true := by have := HQ2.out; simp at this; simp [this]
        have hb2 : (x2 == y2) = true := by have := HQ2.out; simp at this; simp [this]
        have HXX := Lib.hid hx; have HYY := Lib.hid hy
        clear hx hy
        go_wp2_with fail
        go_quiet (fail)
        rename_i nq
        go_wp2
        refine ⟨⟨k + 1, by omega, by go_num, hS.drewN nq, ?_⟩, by simp [intOf]; omega⟩
        rw [← List.take_append_getElem hlt, ← List.take_append_getElem hlt2, HT.out, HXX.out, HYY.out, HQ2.out]
      · have hne : decide (c1.terms = c2.terms) = false := decide_eq_false (by intro h; exact heq (by simp only [h]))
        have HN := Lib.hid hne
        have HQ2 := Lib.hid heq
        clear heq hne
        generalize hx : c1.terms[k] = x at *
        generalize hy : c2.terms[k] = y at *
        clear hx hy
        obtain ⟨x1, x2⟩ := x
        obtain ⟨y1, y2⟩ := y
        by_cases h1 : x1 = y1
        · have hb1 : (x1 == y1) = true := by simpa using h1
          have hb2 : (x2 == y2) = false := by have := HQ2.out; simp at this; simp [this h1]
          go_wp2_with fail
          go_quiet (fail)
          rename_i nq
          go_wp2
          go_ret
          rw [HR2.out, HN.out]
          exact ⟨rfl, HS1.out.then (hS.drewN nq)⟩
        · have hb1 : (x1 == y1) = false := by simpa using h1
          clear h1
          go_wp2_with fail
          go_quiet (fail)
          rename_i nq
          go_wp2
          go_ret
          rw [HR2.out, HN.out]
          exact ⟨rfl, HS1.out.then (hS.drewN nq)⟩
    · obtain rfl : k = c1.terms.length := by omega
      have hq : decide (c1.terms = c2.terms) = true := decide_eq_true (by have := HT.out; have h2 := HL.out; rw [List.take_length, h2, List.take_length] at this; exact this)
      have HN := Lib.hid hq
      clear hq
      go_wp2
      go_ret
      rw [HR2.out, HN.out]
      exact ⟨rfl, HS1.out.then hS⟩
end Go.Proofs.Ytjegohibpojneaa
