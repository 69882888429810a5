import Derived.Test.YtjegohibpojneaaDocReadL
import Derived.Test.YtjegohibpojneaaDocPrintR
import Derived.Test.YtjegohibpojneaaPackRefT
import Derived.Test.YtjegohibpojneaaPackRefX
set_option linter.unusedVariables false
set_option linter.unusedSimpArgs false
namespace Go.Proofs.Ytjegohibpojneaa
open Go.RowKit

theorem results_ct3 {P : Program} {fn : Func} {p u x : Tmp} {ty : TypeId} (h : fn.results = #[.cell p ty, .tmp u, .tmp x]) (tmps : Array Value) (w : World) (g : Nat) (t : TypeId) (cs : Array Value) (fr : Nat × Nat) (d : TypeDesc)
    (hp : tmps.getD p undef = .pointer (some ⟨g, 0, none⟩)) (hg : w.heap[g]? = some (.cells cs t fr))
    (hu : P.underlying ty = some d) (hd : (match d with | .struct _ | .array _ _ => true | _ => false) = true) (hi : (P.info? ty).map (·.size) = some cs.size) :
    (results fn tmps).run P w = .ok (.tuple #[.agg cs, tmps.getD u undef, tmps.getD x undef]) w := by
  have hp' : tmps[p]?.getD undef = .pointer (some ⟨g, 0, none⟩) := by simpa using hp
  simp [results, h, hp', asAddr, run_loadVar_row w g t ty cs fr d hg hu hd hi, Result.andThen]
/-- What the reference's Read hands back. -/
def Read10V (w : World) (base : Nat) (v : Value) (p : Option Chg × RS) : Prop := ∃ u, v = .tuple #[u, .string (str (if p.1.isSome then p.2.getD [] else [])), .bool p.1.isSome] ∧ ChgF w base u (p.1.getD zChg)
set_option maxRecDepth 100000 in
set_option maxHeartbeats 4000000 in
theorem rread_gone (l : List UInt8) (w : World) (hlen : l.length ≤ 1000000) (hg : (varS (varS (some l)).2).1 ≠ 0) :
    Calls Try.prog 23 #[.string (str l)] w fun e w' => ∃ v, e = .returned v ∧ Same w w' ∧ Read10V w' w.heap.size v (readD (some l)) := by
  have hrd : readD (some l) = if 1 < (varS (varS (some l)).2).1 then (none, (varS (varS (some l)).2).2) else (okC (readG (varS (some l)).1 (varS (varS (some l)).2).1), (varS (varS (some l)).2).2) := by unfold readD; rw [if_neg hg]
  have hl1 := varS_less (some l)
  have hl2 := varS_less (varS (some l)).2
  have hm := varS_le (some l)
  have hm2 := varS_le (varS (some l)).2
  have hnb : (varS (varS (some l)).2).2.isNone = false := by cases hx : (varS (varS (some l)).2).2 with
    | none => exact absurd (varS_bad _ hx) hg
    | some _ => rfl
  have hc1 : Same w (w.alloc (.cells zCells 36)) := (Only.refl _ w).alloc _
  have hA0 := blk_new w (.cells zCells 36)
  obtain ⟨rr, hrr⟩ : ∃ r, r = readD (some l) := ⟨_, rfl⟩
  rw [← hrr] at hrd ⊢
  have cv1 := fun w0 => rtv2_any (some l) w0 (by simp only [Option.getD_some]; omega)
  have cv2 := fun w0 => rtv2_any (varS (some l)).2 w0 (by simp only [Option.getD_some] at hl1; omega)
  generalize (varS (varS (some l)).2).2 = s2 at *
  generalize (varS (varS (some l)).2).1 = g at *
  generalize (varS (some l)).1 = d at *
  generalize (varS (some l)).2 = s1 at *
  have HRR := Lib.hid hrd; have CV1 := Lib.hid cv1; have CV2 := Lib.hid cv2
  clear hrr hrd cv1 cv2
  go_enter Try.func23, Try.ntmps23
  go_upto_region 1 with fail
  generalize hW0 : w.alloc (.cells zCells 36) = W0 at *
  have HC1 := Lib.hid hc1; have HA0 := Lib.hid hA0
  clear hc1 hA0 hW0
  go_upto_region 2 with (go_at_call 92; refine (CV1.out _).mono ?_; rintro e w1 ⟨rfl, hO1⟩)
  have hlt0 : w.heap.size < W0.heap.size := heap_lt HA0.out
  have HS1 := Lib.hid (HC1.out.then hO1)
  have HA1 := Lib.hid (hO1.heap HA0.out (fun h => h))
  have hz1 := hO1.size
  have hB1 := blk_new w1 (.cells #[.string (str (s1.getD [])), .bool s1.isNone] 156)
  have hSb : Same w1 (w1.alloc (.cells #[.string (str (s1.getD [])), .bool s1.isNone] 156)) := (Only.refl _ w1).alloc _
  clear HC1 HA0 hO1
  generalize w1.alloc (.cells #[.string (str (s1.getD [])), .bool s1.isNone] 156) = W1 at *
  have HS2 := Lib.hid (HS1.out.then hSb)
  have HA2 := Lib.hid (hSb.heap HA1.out (fun h => h))
  have HB2 := Lib.hid hB1
  have hz2 := hSb.size
  obtain ⟨p0, p1, p2, p3⟩ := pair_facts HB2.out
  clear HS1 HA1 hB1 hSb
  go_upto_region 3 with (go_at_call 92; refine (CV2.out _).mono ?_; rintro e w2 ⟨rfl, hO2⟩; have hb2 := hO2.heap HB2.out (fun h => h); obtain ⟨m0, m1, m2, m3⟩ := pair_facts hb2)
  have hb3 := pair_set hb2 (.string (str (s2.getD []))) (.bool false)
  have hd3 : Only (· = w1.heap.size) w2 ((w2.setCell ⟨w1.heap.size, 0, none⟩ (.string (str (s2.getD [])))).setCell ⟨w1.heap.size, 1, none⟩ (.bool false)) := ((Only.refl (· = w1.heap.size) w2).setCell (fun _ => rfl) _).setCell (fun _ => rfl) _
  have hs3 : Same w ((w2.setCell ⟨w1.heap.size, 0, none⟩ (.string (str (s2.getD [])))).setCell ⟨w1.heap.size, 1, none⟩ (.bool false)) := (HS2.out.then hO2).trans hd3 (fun g h1 h2 => by omega)
  have hA3 := hd3.heap (hO2.heap HA2.out (fun h => h)) (by omega)
  have hz3 := hd3.size
  have hz4 := hO2.size
  generalize (w2.setCell ⟨w1.heap.size, 0, none⟩ (.string (str (s2.getD [])))).setCell ⟨w1.heap.size, 1, none⟩ (.bool false) = W3 at *
  have HB3 := Lib.hid hb3; have HS3 := Lib.hid hs3; have HA3 := Lib.hid hA3
  clear hb3 hd3 hs3 hA3 HS2 HA2 HB2 hO2 hb2 p0 p1 p2 p3 m0 m1 m2 m3 CV1 CV2
  obtain ⟨gb, hgb⟩ : ∃ b, ((g : Int) == 1) = b := ⟨_, rfl⟩
  have hg0 : ((g : Int) == 0) = false := by simpa using hg
  have hC4 := blk_new W3 (.cells #[.int .i64 d, .slice none 0 0, .slice none 0 0, .int .i64 0, .bool gb] 36)
  have hSc : Same W3 (W3.alloc (.cells #[.int .i64 d, .slice none 0 0, .slice none 0 0, .int .i64 0, .bool gb] 36)) := (Only.refl _ W3).alloc _
  go_upto_region 4 with fail
  generalize W3.alloc (.cells #[.int .i64 d, .slice none 0 0, .slice none 0 0, .int .i64 0, .bool gb] 36) = W4 at *
  have HC4 := Lib.hid hC4; have HS4 := Lib.hid (HS3.out.then hSc); have HA4 := Lib.hid (hSc.heap HA3.out (fun h => h)); have HB4 := Lib.hid (hSc.heap HB3.out (fun h => h))
  clear hC4 hSc HS3 HA3 HB3
  obtain ⟨p0, p1, p2, p3⟩ := pair_facts HB4.out
  obtain ⟨⟨l0, l1, l2, l3, l4⟩, e0, e1, e2, e3, e4⟩ := five_facts HA4.out
  by_cases h2 : 1 < g
  · have HRZ : Hid (rr = (none, s2)) := Lib.hid (by rw [HRR.out, if_pos h2])
    clear hg HRR hgb
    go_wp2_with fail
    refine bodyPost_ret (results_ct3 rfl _ _ _ _ _ _ _ rfl (five_set HA4.out _ _ _ _ _) Try.underlying36 rfl (by kernel_rfl)) rfl ?_
    rw [HRZ.out]
    exact ⟨_, rfl, HS4.out.put5 (fun h => by omega) _ _ _ _ _, _, rfl, chg_zero _ _⟩
  · obtain rfl : g = 1 := by omega
    obtain rfl : gb = true := hgb.symm
    have hci : ChgI (readG d 1) := by
      unfold ChgI readG i64b
      simp
      omega
    have cr := fun w0 => rright10_any (.agg #[.int .i64 d, .slice none 0 0, .slice none 0 0, .int .i64 0, .bool true]) (readG d 1) w0 ⟨_, _, rfl, SlP.nil w0, ⟨none, 0, rfl, by simp [readG], by simp, fun _ => rfl, fun h => absurd h (by simp [readG])⟩⟩ hci
    obtain ⟨r0, hr0⟩ : ∃ r, r = rightD (readG d 1) := ⟨_, rfl⟩
    rw [← hr0] at cr
    have CR := Lib.hid cr; have HR0 := Lib.hid hr0
    have HRZ : Hid (rr = (okC (readG d 1), s2)) := Lib.hid (by rw [HRR.out, if_neg (by omega)])
    clear cr hr0 hci hg HRR h2 hgb
    obtain ⟨⟨k0, k1, k2, k3, k4⟩, f0, f1, f2, f3, f4⟩ := five_facts HC4.out
    go_wp2_with fail
    refine (CR.out _).mono ?_
    rintro e w5 ⟨rfl, hS5⟩
    have HC5 := Lib.hid (hS5.heap HC4.out (fun h => h)); have HA5 := Lib.hid (hS5.heap HA4.out (fun h => h)); have HB5 := Lib.hid (hS5.heap HB4.out (fun h => h))
    have HS5 := Lib.hid (HS4.out.then hS5)
    clear hS5 HA4 HC4 HB4 HS4 k0 k1 k2 k3 k4 f0 f1 f2 f3 f4 l0 l1 l2 l3 l4 e0 e1 e2 e3 e4 p0 p1 p2 p3
    obtain ⟨⟨k0, k1, k2, k3, k4⟩, f0, f1, f2, f3, f4⟩ := five_facts HC5.out
    obtain ⟨⟨l0, l1, l2, l3, l4⟩, e0, e1, e2, e3, e4⟩ := five_facts HA5.out
    obtain ⟨p0, p1, p2, p3⟩ := pair_facts HB5.out
    by_cases h0 : r0 = 0
    · subst h0
      have hk : okC (readG d 1) = some (readG d 1) := okC_some HR0.out.symm
      have HK := Lib.hid hk
      clear hk
      go_wp2_with fail
      have hp5 := (Only.refl (· = w.heap.size) w5).put5 (fun _ => rfl) (.int .i64 d) (.slice none 0 0) (.slice none 0 0) (.int .i64 0) (.bool true)
      have o0 := hp5.cell_eq p0 (by omega)
      clear hp5
      go_region
      all_goals (try go_wp2_with fail)
      all_goals
        refine bodyPost_ret (results_ct3 rfl _ _ _ _ _ _ _ rfl (five_set HA5.out _ _ _ _ _) Try.underlying36 rfl (by kernel_rfl)) rfl ?_
        rw [HRZ.out, HK.out]
        exact ⟨_, rfl, by first | exact HS5.out.put5 (fun h => by omega) _ _ _ _ _ | exact (HS5.out.put5 (fun h => by omega) _ _ _ _ _).drew | exact HS5.out.drew.put5 (fun h => by omega) _ _ _ _ _ | exact (HS5.out.drew.put5 (fun h => by omega) _ _ _ _ _).drew, _, rfl, _, _, rfl, SlP.nil _, ⟨none, 0, rfl, by simp [readG], by simp, fun _ => rfl, fun h => absurd h (by simp [readG])⟩, Fr.nil _ _ _, Fr.nil _ _ _⟩
    · have hk : okC (readG d 1) = none := okC_none (by rw [← HR0.out]; exact h0)
      have HK := Lib.hid hk
      have hn := neq0 h0
      clear hk h0
      go_wp2_with fail
      refine bodyPost_ret (results_ct3 rfl _ _ _ _ _ _ _ rfl (five_set HA5.out _ _ _ _ _) Try.underlying36 rfl (by kernel_rfl)) rfl ?_
      rw [HRZ.out, HK.out]
      exact ⟨_, rfl, HS5.out.put5 (fun h => by omega) _ _ _ _ _, _, rfl, chg_zero _ _⟩
end Go.Proofs.Ytjegohibpojneaa
