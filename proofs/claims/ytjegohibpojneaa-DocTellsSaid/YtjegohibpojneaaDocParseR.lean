import Derived.Test.YtjegohibpojneaaDocReadS
import Derived.Test.YtjegohibpojneaaDocParse
set_option linter.unusedVariables false
set_option linter.unusedSimpArgs false
namespace Go.Proofs.Ytjegohibpojneaa
open Go.RowKit

set_option maxRecDepth 100000 in
set_option maxHeartbeats 2000000 in
/-- ref10.Parse. -/
theorem rparse10_any (l : List UInt8) (w : World) (hlen : l.length ≤ 1000000) :
    Calls Try.prog 20 #[.string (str l)] w fun e w' => ∃ u, e = .returned (.tuple #[u, .int .i64 (parseD l).2]) ∧ Same w w' ∧ ChgV w' u (parseD l).1 := by
  have hpd : parseD l = match (readD (some l)).1 with
    | none => (zChg, 2)
    | some c => if ((readD (some l)).2.getD []).length = 0 then (c, 0) else (zChg, 2) := rfl
  have cr := fun w0 => rread10_any l w0 hlen
  have hA0 := blk_new w (.cells zCells 36)
  have hc1 : Same w (w.alloc (.cells zCells 36)) := (Only.refl _ w).alloc _
  generalize parseD l = pd at *
  generalize readD (some l) = rr at *
  obtain ⟨oc, st⟩ := rr
  simp only at hpd cr
  have HPD := Lib.hid hpd; have CR := Lib.hid cr
  clear hpd cr
  go_enter Try.func20, Try.ntmps20
  go_upto_region 1 with fail
  generalize hW0 : w.alloc (.cells zCells 36) = W0 at *
  have hlt0 : w.heap.size < W0.heap.size := by rw [← hW0]; simp
  have HC1 := Lib.hid hc1; have HA0 := Lib.hid hA0
  clear hc1 hA0 hW0
  go_wp2_with fail
  refine (CR.out _).mono ?_
  rintro e w2 ⟨v, rfl, hO2, u, rfl, hF⟩
  have hA2 := hO2.heap HA0.out (fun h => h)
  have hS2 : Same w w2 := HC1.out.then hO2
  have HA2 := Lib.hid hA2; have HS2 := Lib.hid hS2; have HF := Lib.hid (hF.mono (show w.heap.size + 1 ≤ W0.heap.size by omega))
  obtain ⟨a1, n1, m1, a2, n2, m2, rfl, hn1, hn2⟩ := chg_form hF.chg
  clear hO2 hA2 hS2 hF HC1 CR hn1 hn2 HA0
  obtain ⟨c0, hc0⟩ : ∃ c, c = oc.getD zChg := ⟨_, rfl⟩
  rw [← hc0] at HF
  simp only
  rw [← hc0]
  obtain ⟨ok, hok⟩ : ∃ b, b = oc.isSome := ⟨_, rfl⟩
  rw [← hok]
  obtain ⟨rs, hrs⟩ : ∃ b, b = str (if ok = true then st.getD [] else []) := ⟨_, rfl⟩
  rw [← hrs]
  have HOK := Lib.hid hok; have HC0 := Lib.hid hc0; have HRS := Lib.hid hrs
  clear hok hc0 hrs
  have hB5 := blk_new w2 (.cells #[.int .i64 c0.doc, .slice a1 n1 m1, .slice a2 n2 m2, .int .i64 c0.tags, .bool c0.gone] 36)
  have hS5 : Same w2 (w2.alloc (.cells #[.int .i64 c0.doc, .slice a1 n1 m1, .slice a2 n2 m2, .int .i64 c0.tags, .bool c0.gone] 36)) := (Only.refl _ w2).alloc _
  go_upto_region 2 with fail
  generalize w2.alloc (.cells #[.int .i64 c0.doc, .slice a1 n1 m1, .slice a2 n2 m2, .int .i64 c0.tags, .bool c0.gone] 36) = w3 at *
  have HB3 := Lib.hid hB5; have HA3 := Lib.hid (hS5.heap HA2.out (fun h => h)); have HS3 := Lib.hid (HS2.out.then hS5); have HF3 := Lib.hid (HF.out.same hS5)
  clear hB5 hS5 HA2 HS2 HF
  cases oc with
  | none =>
    have HP : Hid (pd = (zChg, 2)) := Lib.hid HPD.out
    obtain rfl : ok = false := HOK.out
    obtain ⟨⟨l0, l1, l2, l3, l4⟩, e0, e1, e2, e3, e4⟩ := five_facts HA3.out
    clear HPD
    go_wp2_with fail
    refine bodyPost_ret (results_ct2 rfl _ _ _ _ _ _ _ rfl (five_set HA3.out _ _ _ _ _) Try.underlying36 rfl (by kernel_rfl)) rfl ?_
    rw [HP.out]
    exact ⟨_, rfl, HS3.out.put5 (fun h => by omega) _ _ _ _ _, (chg_zero _ 0).chg⟩
  | some c =>
    obtain rfl : ok = true := HOK.out
    obtain rfl : c0 = c := HC0.out
    obtain ⟨⟨l0, l1, l2, l3, l4⟩, e0, e1, e2, e3, e4⟩ := five_facts HA3.out
    obtain ⟨⟨k0, k1, k2, k3, k4⟩, _⟩ := five_facts HB3.out
    by_cases h0 : st.getD [] = []
    · have hr2 : rs = ⟨#[]⟩ := by rw [HRS.out, if_pos rfl, h0]; rfl
      subst hr2
      have HP : Hid (pd = (c0, 0)) := Lib.hid (by rw [HPD.out]; simp [h0])
      clear h0 HPD
      go_wp2_with fail
      refine bodyPost_ret (results_ct2 rfl _ _ _ _ _ _ _ rfl (five_set HA3.out _ _ _ _ _) Try.underlying36 rfl (by kernel_rfl)) rfl ?_
      rw [HP.out]
      exact ⟨_, rfl, HS3.out.put5 (fun h => by omega) _ _ _ _ _, (HF3.out.only ((Only.refl (· = w.heap.size) w3).put5 (fun _ => rfl) _ _ _ _ _) (fun b h => by omega)).chg⟩
    · have hr2 : rs.toList.isEmpty = false := by rw [HRS.out, if_pos rfl, str_toList]; simpa using h0
      have hr3 : ¬ rs.toList = [] := by rw [HRS.out, if_pos rfl, str_toList]; simpa using h0
      have HP : Hid (pd = (zChg, 2)) := Lib.hid (by rw [HPD.out]; simp [h0])
      clear h0 HPD HRS
      go_wp2_with fail
      refine bodyPost_ret (results_ct2 rfl _ _ _ _ _ _ _ rfl (five_set HA3.out _ _ _ _ _) Try.underlying36 rfl (by kernel_rfl)) rfl ?_
      rw [HP.out]
      exact ⟨_, rfl, HS3.out.put5 (fun h => by omega) _ _ _ _ _, (chg_zero _ 0).chg⟩
end Go.Proofs.Ytjegohibpojneaa
