import Derived.Test.YtjegohibpojneaaDocReadL
import Derived.Test.YtjegohibpojneaaDocFns
set_option linter.unusedVariables false
set_option linter.unusedSimpArgs false
namespace Go.Proofs.Ytjegohibpojneaa
open Go.RowKit

def parseD (l : List UInt8) : Chg × Int :=
  match (readD (some l)).1 with
  | none => (zChg, 2)
  | some c => if ((readD (some l)).2.getD []).length = 0 then (c, 0) else (zChg, 2)
set_option maxRecDepth 100000 in
set_option maxHeartbeats 2000000 in
theorem parse_any (l : List UInt8) (w : World) (hlen : l.length ≤ 1000000) :
    Calls Try.prog 19 #[.string (str l)] w fun e w' => ∃ u, e = .returned (.tuple #[u, .int .i64 (parseD l).2]) ∧ Same w w' ∧ ChgF w' w.heap.size u (parseD l).1 := by
  have hpd : parseD l = match (readD (some l)).1 with
    | none => (zChg, 2)
    | some c => if ((readD (some l)).2.getD []).length = 0 then (c, 0) else (zChg, 2) := rfl
  have cn := fun w0 => rnew_any l w0
  have cr := fun b w0 (hR : Rd w0 b (some l)) => read_any b (some l) w0 hR (by simpa using hlen)
  have hA0 := blk_new w (.cells zCells 27)
  have hc1 : Same w (w.alloc (.cells zCells 27)) := (Only.refl _ w).alloc _
  generalize parseD l = pd at *
  generalize readD (some l) = rr at *
  obtain ⟨oc, st⟩ := rr
  simp only at hpd cr
  have cl := fun b w0 (hR : Rd w0 b st) => rleft_any b st w0 hR
  have HPD := Lib.hid hpd; have CN := Lib.hid cn; have CR := Lib.hid cr; have CL := Lib.hid cl
  clear hpd cn cr cl
  go_enter Try.func19, Try.ntmps19
  go_upto_region 1 with fail
  generalize hW0 : w.alloc (.cells zCells 27) = W0 at *
  have hlt0 : w.heap.size < W0.heap.size := by rw [← hW0]; simp
  have HC1 := Lib.hid hc1; have HA0 := Lib.hid hA0
  clear hc1 hA0 hW0
  go_wp2_with fail
  refine (CN.out _).mono ?_
  rintro e w1 ⟨rfl, hS1, hR1⟩
  have HC2 := Lib.hid (HC1.out.then hS1)
  have HA1 := Lib.hid (hS1.heap HA0.out (fun h => h))
  have HR1 := Lib.hid hR1
  have hs1 := hS1.size
  clear HC1 HA0 hS1 hR1
  go_wp2_with fail
  refine (CR.out _ _ HR1.out).mono ?_
  rintro e w2 ⟨v, rfl, hO2, hR2, u, rfl, hF⟩
  have hA2 := hO2.heap HA1.out (by omega)
  have hS2 : Same w w2 := HC2.out.trans hO2 (S := fun _ => False) (fun g h1 h2 => by omega)
  have hs2 := hO2.size
  have HA2 := Lib.hid hA2; have HS2 := Lib.hid hS2; have HR2 := Lib.hid hR2; have HF := Lib.hid (hF.mono (show w.heap.size + 1 ≤ w1.heap.size by omega))
  obtain ⟨a1, n1, m1, a2, n2, m2, rfl, hn1, hn2⟩ := chg_form hF.chg
  clear hO2 hR2 hA2 hS2 hF HC2 HA1 HR1 CN CR hn1 hn2
  obtain ⟨c0, hc0⟩ : ∃ c, c = oc.getD zChg := ⟨_, rfl⟩
  rw [← hc0] at HF
  rw [← hc0]
  obtain ⟨ok, hok⟩ : ∃ b, b = oc.isSome := ⟨_, rfl⟩
  rw [← hok]
  have HOK := Lib.hid hok; have HC0 := Lib.hid hc0
  clear hok hc0
  have hB5 := blk_new w2 (.cells #[.int .i64 c0.doc, .slice a1 n1 m1, .slice a2 n2 m2, .int .i64 c0.tags, .bool c0.gone] 27)
  have hS5 : Same w2 (w2.alloc (.cells #[.int .i64 c0.doc, .slice a1 n1 m1, .slice a2 n2 m2, .int .i64 c0.tags, .bool c0.gone] 27)) := (Only.refl _ w2).alloc _
  go_upto_region 3 with fail
  generalize w2.alloc (.cells #[.int .i64 c0.doc, .slice a1 n1 m1, .slice a2 n2 m2, .int .i64 c0.tags, .bool c0.gone] 27) = w3 at *
  have HB3 := Lib.hid hB5; have HA3 := Lib.hid (hS5.heap HA2.out (fun h => h)); have HS3 := Lib.hid (HS2.out.then hS5); have HR3 := Lib.hid (HR2.out.same hS5); have HF3 := Lib.hid (HF.out.same hS5)
  clear hB5 hS5 HA2 HS2 HR2 HF
  cases oc with
  | none =>
    have HP : Hid (pd = (zChg, 2)) := Lib.hid HPD.out
    obtain rfl : ok = false := HOK.out
    obtain ⟨⟨l0, l1, l2, l3, l4⟩, e0, e1, e2, e3, e4⟩ := five_facts HA3.out
    clear HPD
    go_wp2_with fail
    refine bodyPost_ret (results_ct2 rfl _ _ _ _ _ _ _ rfl (five_set HA3.out _ _ _ _ _) Try.underlying27 rfl (by kernel_rfl)) rfl ?_
    rw [HP.out]
    exact ⟨_, rfl, HS3.out.put5 (fun h => by omega) _ _ _ _ _, chg_zero _ _⟩
  | some c =>
    obtain rfl : ok = true := HOK.out
    obtain rfl : c0 = c := HC0.out
    obtain ⟨ln, hln⟩ : ∃ n, n = (st.getD []).length := ⟨_, rfl⟩
    have hp2 : pd = if ln = 0 then (c0, 0) else (zChg, 2) := by rw [hln]; exact HPD.out
    have HP := Lib.hid hp2
    have cl2 := fun w0 => CL.out W0.heap.size w0
    rw [← hln] at CL
    clear HPD hp2 hln cl2
    by_cases h0 : ln = 0
    · subst h0
      go_wp2_with (go_at_call 27; refine (CL.out _ _ HR3.out).mono ?_; rintro e w4 ⟨rfl, hS4⟩; obtain ⟨⟨l0, l1, l2, l3, l4⟩, e0, e1, e2, e3, e4⟩ := five_facts (hS4.heap HA3.out (fun h => h)); obtain ⟨⟨k0, k1, k2, k3, k4⟩, _⟩ := five_facts (hS4.heap HB3.out (fun h => h)))
      refine bodyPost_ret (results_ct2 rfl _ _ _ _ _ _ _ rfl (five_set (hS4.heap HA3.out (fun h => h)) _ _ _ _ _) Try.underlying27 rfl (by kernel_rfl)) rfl ?_
      rw [show pd = (c0, 0) from by rw [HP.out]; simp]
      exact ⟨_, rfl, (HS3.out.then hS4).put5 (fun h => by omega) _ _ _ _ _, ((HF3.out.same hS4).only ((Only.refl (· = w.heap.size) w4).put5 (fun _ => rfl) _ _ _ _ _) (fun b h => by omega)).mono (by omega)⟩
    · have hgt : ((ln : Int) > 0) := by omega
      go_wp2_with (go_at_call 27; refine (CL.out _ _ HR3.out).mono ?_; rintro e w4 ⟨rfl, hS4⟩; obtain ⟨⟨l0, l1, l2, l3, l4⟩, e0, e1, e2, e3, e4⟩ := five_facts (hS4.heap HA3.out (fun h => h)))
      refine bodyPost_ret (results_ct2 rfl _ _ _ _ _ _ _ rfl (five_set (hS4.heap HA3.out (fun h => h)) _ _ _ _ _) Try.underlying27 rfl (by kernel_rfl)) rfl ?_
      rw [show pd = (zChg, 2) from by rw [HP.out]; simp; omega]
      exact ⟨_, rfl, (HS3.out.then hS4).put5 (fun h => by omega) _ _ _ _ _, chg_zero _ _⟩
end Go.Proofs.Ytjegohibpojneaa
