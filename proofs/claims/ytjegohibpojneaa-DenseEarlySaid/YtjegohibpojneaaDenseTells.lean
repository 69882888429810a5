import Derived.Test.YtjegohibpojneaaDenseAwake
import Derived.Test.YtjegohibpojneaaDenseBut
import Derived.Test.YtjegohibpojneaaDenseFew
import Derived.Test.YtjegohibpojneaaDenseOpen
set_option linter.unusedVariables false
set_option linter.unusedSimpArgs false
namespace Go.Proofs.Ytjegohibpojneaa
open Go.RowKit
attribute [local go_sem ↓] Go.wp_at_zero Go.wp_at_succ

theorem rowsB {l : List RowP} (h : ∀ p ∈ l, i64b p.1 ∧ ∀ x ∈ p.2, i64b x) : ∀ r ∈ l, i64b r.1 ∧ ∀ x ∈ r.2, i64b x := h
set_option maxRecDepth 100000 in
set_option maxHeartbeats 8000000 in
theorem denseTells_walk (m : Int) (vq : Value) (q : List Int) (vv : Value) (v : List Int) (vr : Value) (l : List RowP) (k : Int) (vn : Value) (no : List Int) (w : World)
    (hm : (Lit.int .i64 m).wf = true) (hq : Sl w (.int .i64) vq q) (zq : ∀ x ∈ q, i64b x) (hv : Sl w (.int .i64) vv v) (zv : ∀ x ∈ v, i64b x) (hr : SlR w vr l) (zr : ∀ p ∈ l, i64b p.1 ∧ ∀ x ∈ p.2, i64b x) (hk : (Lit.int .i64 k).wf = true) (hn : Sl w (.int .i64) vn no) (zn : ∀ x ∈ no, i64b x) :
    Calls Try.prog 11 #[.int .i64 m, vq, vv, vr, .int .i64 k, vn] w fun e w' => e = .returned (.bool true) ∧ Same w w' := by
  have HQ := Lib.hid hq; have HV := Lib.hid hv; have HR := Lib.hid hr; have HN := Lib.hid hn; have ZQ := Lib.hid zq; have ZV := Lib.hid zv; have ZR := Lib.hid zr
  have CF := Lib.hid (fun w0 (h : Same w w0) => fewr_any vr l w0 (hr.same h))
  have CS := Lib.hid (fun w0 (h : Same w w0) => dscore_any m _ _ q v w0 (HQ.out.same h) (HV.out.same h) ZQ.out ZV.out)
  have CV := Lib.hid (fun w0 (h : Same w w0) => vscore_any m _ _ q v w0 (HQ.out.same h) (HV.out.same h) ZQ.out ZV.out)
  have CA := Lib.hid (fun w0 (h : Same w w0) => dright_any vv v w0 (HV.out.same h) ZV.out)
  have CB := Lib.hid (fun w0 (h : Same w w0) => vright_any vv v w0 (HV.out.same h) ZV.out)
  obtain ⟨a1, c1, rfl, hc1, hm1, _, _⟩ := hq
  obtain ⟨a2, c2, rfl, hc2, hm2, _, _⟩ := hv
  obtain ⟨a3, c3, rfl, hc3, hm3⟩ := hr.lit
  obtain ⟨a4, c4, rfl, hc4, hm4, _, _⟩ := hn
  unfold maxLen at hm1 hm2 hm3 hm4
  clear zq zv zr zn hr
  by_cases h1 : 20 < q.length
  · have hd : decide ((20 : Int) < (q.length : Int)) = true := decide_eq_true (by omega)
    have hd2 : decide (20 < q.length) = true := decide_eq_true h1
    clear h1
    go_enter Try.func11, Try.ntmps11
    go_wp2_with fail
    refine (vawake_any w).mono ?_
    rintro e w1 ⟨rfl, hS1⟩
    go_wp2_with fail
    go_ret
    exact ⟨rfl, hS1⟩
  have hd : decide ((20 : Int) < (q.length : Int)) = false := decide_eq_false (by omega)
  have hd2 : decide (20 < q.length) = false := decide_eq_false h1
  by_cases h2 : 20 < v.length
  · have hd3 : decide ((20 : Int) < (v.length : Int)) = true := decide_eq_true (by omega)
    have hd4 : decide (20 < v.length) = true := decide_eq_true h2
    clear h1 h2
    go_enter Try.func11, Try.ntmps11
    go_wp2_with fail
    refine (vawake_any w).mono ?_
    rintro e w1 ⟨rfl, hS1⟩
    go_wp2_with fail
    go_ret
    exact ⟨rfl, hS1⟩
  have hd3 : decide ((20 : Int) < (v.length : Int)) = false := decide_eq_false (by omega)
  have hd4 : decide (20 < v.length) = false := decide_eq_false h2
  cases hf : decide (fewR l) with
  | false =>
    rw [hf] at CF
    clear h1 h2 hf
    go_enter Try.func11, Try.ntmps11
    go_wp2_with fail
    refine (vawake_any w).mono ?_
    rintro e w1 ⟨rfl, hS1⟩
    go_wp2_with fail
    refine (CF.out _ hS1).mono ?_
    rintro e w2 ⟨rfl, hS2⟩
    go_wp2_with fail
    go_ret
    exact ⟨rfl, hS1.then hS2⟩
  | true =>
  rw [hf] at CF
  have hfw : fewR l := of_decide_eq_true hf
  by_cases h4 : 40 < no.length
  · have hd5 : decide ((40 : Int) < (no.length : Int)) = true := decide_eq_true (by omega)
    have hd6 : decide (40 < no.length) = true := decide_eq_true h4
    clear h1 h2 h4 hf hfw
    go_enter Try.func11, Try.ntmps11
    go_wp2_with fail
    refine (vawake_any w).mono ?_
    rintro e w1 ⟨rfl, hS1⟩
    go_wp2_with fail
    refine (CF.out _ hS1).mono ?_
    rintro e w2 ⟨rfl, hS2⟩
    go_wp2_with fail
    go_ret
    exact ⟨rfl, hS1.then hS2⟩
  have hd5 : decide ((40 : Int) < (no.length : Int)) = false := decide_eq_false (by omega)
  have hd6 : decide (40 < no.length) = false := decide_eq_false h4
  have HFW := Lib.hid hfw
  clear h1 h2 h4 hf hfw
  obtain ⟨s1, s2, hs⟩ : ∃ a b, scoreP m q v = (a, b) := ⟨_, _, rfl⟩
  rw [hs] at CS CV
  have hb1 : (s1 == s1) = true := by simp
  have hb2 : (s2 == s2) = true := by simp
  obtain ⟨f1, f2, hf⟩ : ∃ a b, dfindP m q l k (fun d => decide (d ∉ no)) = (a, b) := ⟨_, _, rfl⟩
  have HF := Lib.hid hf
  have hb3 : (f2 == f2) = true := by simp
  clear hs hf
  go_enter Try.func11, Try.ntmps11
  go_wp2_with fail
  refine (vawake_any w).mono ?_
  rintro e w1 ⟨rfl, hS1⟩
  go_wp2_with fail
  refine (CF.out _ hS1).mono ?_
  rintro e w2 ⟨rfl, hS2⟩
  have hS2 := hS1.then hS2
  go_wp2_with fail
  refine (CS.out _ hS2).mono ?_
  rintro e w3 ⟨rfl, hS3⟩
  have hS3 := hS2.then hS3
  clear hS1 hS2
  go_wp2_with fail
  refine (CV.out _ hS3).mono ?_
  rintro e w4 ⟨rfl, hS4⟩
  have HS4 := Lib.hid (hS3.then hS4)
  clear hS3 hS4
  go_wp2_with fail
  refine (but_any a4 no.length c4 w4).mono ?_
  rintro e w5 ⟨rfl, hw5⟩
  have hS5 : Same w4 w5 := by rw [hw5]; exact (Only.refl _ w4).alloc _
  have hbx : w5.heap[w4.heap.size]? = some (.cells #[.slice a4 no.length c4] 23 (0, 0)) := by rw [hw5]; exact blk_new _ _
  have HBX := Lib.hid hbx
  have HS5 := Lib.hid (HS4.out.then hS5)
  clear hw5 hS5 hbx
  go_wp2_with fail
  refine (dfind_any m k _ _ 126 #[.pointer (some ⟨w4.heap.size, 0, none⟩)] q l (fun d => decide (d ∉ no)) w5 (HQ.out.same HS5.out) (HR.out.same HS5.out) ZQ.out ZR.out
    (fun x w6 h6 => but1_any x w4.heap.size (.slice a4 no.length c4) no w6 (blk_cells (h6.heap HBX.out (fun h => h)) 0) (HN.out.same (HS5.out.then h6))) enters_but (by have := HFW.out.1; omega)).mono ?_
  rintro e w6 ⟨v6, rfl, hS6, hsp6⟩
  rw [HF.out] at hsp6 ⊢
  have HS6 := Lib.hid (HS5.out.then hS6)
  have HSP6 := Lib.hid hsp6
  clear hS6 hsp6 HBX HS5 HS4
  go_wp2_with fail
  refine (of_any _ l w6 (HR.out.same HS6.out) (by have := HFW.out.1; omega)).mono ?_
  rintro e w7 ⟨v7, rfl, hS7, hr7⟩
  have HS7 := Lib.hid (HS6.out.then hS7); have HSP7 := Lib.hid (HSP6.out.same hS7); have HR7 := Lib.hid hr7
  clear hS7 hr7 HS6 HSP6
  go_wp2_with fail
  refine (vfind_any m k _ v7 _ q l no w7 (HQ.out.same HS7.out) HR7.out (HN.out.same HS7.out) ZQ.out ZR.out (by have := HFW.out.1; omega)).mono ?_
  rintro e w8 ⟨v8, rfl, hS8, hsp8⟩
  rw [HF.out] at hsp8 ⊢
  have HS8 := Lib.hid (HS7.out.then hS8); have HSP8 := Lib.hid (HSP7.out.same hS8); have HSQ8 := Lib.hid hsp8
  clear hS8 hsp8 HS7 HSP7 HR7
  have csm := fun w0 (h : Same w8 w0) => rsame04_any v6 v8 f1 f1 w0 (HSP8.out.same h) (HSQ8.out.same h)
  rw [decide_eq_true rfl] at csm
  have CSM := Lib.hid csm
  clear csm
  go_wp2_with fail
  refine (CSM.out _ (Only.refl _ _)).mono ?_
  rintro e w9 ⟨rfl, hS9⟩
  have HS9 := Lib.hid (HS8.out.then hS9)
  clear hS9
  go_wp2_with fail
  refine (CA.out _ HS9.out).mono ?_
  rintro e w10 ⟨rfl, hS10⟩
  have HS10 := Lib.hid (HS9.out.then hS10)
  clear hS10
  go_wp2_with fail
  refine (CB.out _ HS10.out).mono ?_
  rintro e w11 ⟨rfl, hS11⟩
  cases vecB v
  all_goals
    go_wp2_with fail
    go_ret
    exact ⟨rfl, HS10.out.then hS11⟩
end Go.Proofs.Ytjegohibpojneaa
