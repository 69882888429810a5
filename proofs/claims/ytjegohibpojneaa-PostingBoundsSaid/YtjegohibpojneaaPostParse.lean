import Derived.Test.YtjegohibpojneaaPostParseP
import Derived.Test.YtjegohibpojneaaPostLib
import Derived.Test.YtjegohibpojneaaPackFix
set_option linter.unusedVariables false
set_option linter.unusedSimpArgs false
namespace Go.Proofs.Ytjegohibpojneaa
open Go.RowKit

theorem zip_snoc (a b : List Int) (k : Nat) (h1 : k < a.length) (h2 : k < b.length) : (a.zip b).take (k + 1) = (a.zip b).take k ++ [(a[k], b[k])] := by
  rw [List.take_add_one, List.getElem?_eq_getElem (by rw [List.length_zip]; omega), List.getElem_zip]; rfl
set_option maxRecDepth 100000 in
set_option maxHeartbeats 4000000 in
theorem parse05_any (s : ByteArray) (w : World) (hs : s.size ≤ 60000) :
    Calls Try.prog 40 #[.string s] w fun e w' => Same w w' ∧ (((parsePs s).1 = none ∧ e = .returned (.tuple #[.pointer none, .int .i64 (parsePs s).2])) ∨
      ∃ l b, (parsePs s).1 = some l ∧ RightP l ∧ l.length ≤ 60000 ∧ e = .returned (.tuple #[.pointer (some ⟨b, 0, none⟩), .int .i64 0]) ∧ (parsePs s).2 = 0 ∧ ListAt w' b l) := by
  obtain ⟨pp, hpp⟩ : ∃ x, x = parsePs s := ⟨_, rfl⟩
  rw [← hpp]
  have co := fun w0 => open_any s w0 (by unfold maxLen; omega)
  have hol : (openOf s).1.size ≤ 60000 := by
    unfold openOf
    split
    · exact Nat.zero_le _
    · split
      · simp only [ByteArray.size_extract]; omega
      · exact Nat.zero_le _
  unfold parsePs at hpp
  generalize openOf s = oo at *
  obtain ⟨o1, o2⟩ := oo
  obtain ⟨t, rfl⟩ : ∃ t, o1 = str t := ⟨_, (str_of o1).symm⟩
  simp only [str_list] at hpp hol co
  rw [str_size] at hol
  have CO := Lib.hid co
  clear co hs
  by_cases h0 : o2 = 0
  rotate_left
  · rw [if_neg h0] at hpp
    have HP := Lib.hid hpp
    have hb : (o2 != 0) = true := by simpa using h0
    clear hpp h0
    go_enter Try.func40, Try.ntmps40
    go_wp2_with fail
    refine (CO.out _).mono ?_
    rintro e w1 ⟨rfl, hS1⟩
    go_wp2_with fail
    go_ret2
    rw [HP.out]
    exact ⟨hS1, .inl ⟨rfl, rfl⟩⟩
  subst h0
  rw [if_pos rfl] at hpp
  unfold readPs at hpp
  have hst := str_size t
  have cn := fun w0 => rnew_any t w0
  have cr := fun b w0 (hR : Rd w0 b (some t)) => rrising_any b (some t) t.length w0 hR (by simp only [Option.getD_some]; omega)
  have hr1 := risR_less (some t) t.length
  have hr2 := risR_len (some t) t.length
  have hr3 := risR_rng (some t) t.length
  simp only [Option.getD_some] at hr1
  generalize risR (some t) t.length = ra at *
  obtain ⟨ds, s3⟩ := ra
  simp only at hpp cr hr1 hr2 hr3
  have cf := fun b w0 (hR : Rd w0 b s3) => rfixed_any b s3 16 ds.length w0 hR (by omega)
  have hf := fun u => @fixR_some s3 16 ds.length u
  generalize fixR s3 16 ds.length = fx at *
  obtain ⟨ws, s4⟩ := fx
  simp only at hpp cf hf
  have cb := fun b w0 (hR : Rd w0 b s4) => rbad_any b s4 w0 hR
  have cl := fun b w0 (hR : Rd w0 b s4) => rleft_any b s4 w0 hR
  have HPP := Lib.hid hpp; have CN := Lib.hid cn; have CR := Lib.hid cr; have CF := Lib.hid cf; have CB := Lib.hid cb; have CL := Lib.hid cl; have HF := Lib.hid hf; have HR3 := Lib.hid hr3
  clear hpp cn cr cf cb cl hf hr1 hr3
  go_enter Try.func40, Try.ntmps40
  go_wp2_with fail
  refine (CO.out _).mono ?_
  rintro e w1 ⟨rfl, hS1⟩
  go_wp2_with fail
  refine (CN.out _).mono ?_
  rintro e w2 ⟨rfl, hS2, hR2⟩
  have HS2 := Lib.hid (hS1.then hS2)
  have hz2 := (hS1).size
  have HR2 := Lib.hid hR2
  clear hS1 hS2 hR2
  go_wp2_with fail
  refine (CR.out _ _ HR2.out).mono ?_
  rintro e w3 ⟨vd, rfl, hO3, hR3, hD3⟩
  have HS3 := Lib.hid (HS2.out.trans hO3 (S := fun _ => False) (fun g h1 h2 => by omega))
  have HD3 := Lib.hid hD3
  have HR3' := Lib.hid hR3
  obtain ⟨ad, cd, rfl, hcd, hmd, _, _⟩ := hD3
  unfold maxLen at hmd
  clear hO3 hR3 HS2 HR2
  go_wp2_with fail
  refine (CF.out _ _ HR3'.out).mono ?_
  rintro e w4 ⟨vw, rfl, hO4, hR4, hW4⟩
  have HS4 := Lib.hid (HS3.out.trans hO4 (S := fun _ => False) (fun g h1 h2 => by omega))
  have HD4 := Lib.hid (HD3.out.pastP HR3'.out hO4)
  have HW4 := Lib.hid hW4
  have HR4 := Lib.hid hR4
  obtain ⟨aw, cw, rfl, hcw, hmw, _, _⟩ := hW4
  unfold maxLen at hmw
  clear hO4 hR4 HS3 HD3 HR3'
  cases s4 with
  | none =>
    have HP : Hid (pp = (none, 2)) := Lib.hid HPP.out
    clear HPP HF
    go_wp2_with fail
    refine (CB.out _ _ HR4.out).mono ?_
    rintro e w5 ⟨rfl, hS5⟩
    go_wp2_with fail
    go_ret2
    rw [HP.out]
    exact ⟨HS4.out.then hS5, .inl ⟨rfl, rfl⟩⟩
  | some u =>
    obtain ⟨-, -, hlw, hwr⟩ := HF.out u rfl
    rw [Int.toNat_natCast] at hlw
    by_cases hu : u.length = 0
    rotate_left
    · have HP : Hid (pp = (none, 2)) := Lib.hid (by rw [HPP.out]; simp only; rw [if_neg hu])
      have hu1 : decide ((0 : Int) < (u.length : Int)) = true := by simp; omega
      clear HPP HF
      go_wp2_with fail
      refine (CB.out _ _ HR4.out).mono ?_
      rintro e w5 ⟨rfl, hS5⟩
      go_wp2_with fail
      refine (CL.out _ _ (HR4.out.same hS5)).mono ?_
      rintro e w6 ⟨rfl, hS6⟩
      go_wp2_with fail
      go_ret2
      rw [HP.out]
      exact ⟨(HS4.out.then hS5).then hS6, .inl ⟨rfl, rfl⟩⟩
    · have HP : Hid (pp = if rightB (ds.zip ws) = true then (some (ds.zip ws), 0) else (none, 2)) := Lib.hid (by rw [HPP.out]; simp only; rw [if_pos hu])
      have hzl : (ds.zip ws).length = ds.length := by rw [List.length_zip]; omega
      have HZL := Lib.hid hzl; have HWR := Lib.hid hwr; have HLW := Lib.hid hlw
      have hINF : Hid ((Try.prog.info? 77).map (fun i => (i.zero, i.size, i.bytes)) = some (some (.agg #[.int .i64 0, .int .i64 0]), 2, 16)) := Lib.hid (by kernel_rfl)
      have hu1 : decide ((0 : Int) < (u.length : Int)) = false := decide_eq_false (by omega)
      have hlb : ((ds.length : Int) != (ws.length : Int)) = false := by simp; omega
      have hn6 : ds.length ≤ 60000 := by omega
      clear HPP HF hzl hwr
      go_wp2_with fail
      refine (CB.out _ _ HR4.out).mono ?_
      rintro e w5 ⟨rfl, hS5⟩
      go_wp2_with fail
      refine (CL.out _ _ (HR4.out.same hS5)).mono ?_
      rintro e w6 ⟨rfl, hS6⟩
      have HS6 := Lib.hid ((HS4.out.then hS5).then hS6)
      have HD6 := Lib.hid ((HD4.out.same hS5).same hS6)
      have HW6 := Lib.hid ((HW4.out.same hS5).same hS6)
      clear hS5 hS6 HS4 HD4 HW4 HR4
      go_wp2_with fail
      go_loopw [9, 10, 11, 48] (fun rv _ _ i wr => ∃ (k : Nat) (vv : Value), vv = rv ∧ k ≤ ds.length ∧ i = .int .i64 k ∧ Same w6 wr ∧ wr.ownsRow w6.heap.size 77 2 vv k (cells2 ((ds.zip ws).take k))) (fun _ _ _ i _ => ds.length - (intOf i).toNat)
      case atStart => exact ⟨0, _, rfl, by omega, rfl, Only.refl _ _, World.ownsRow_nil _ _ _ _⟩
      case round =>
        obtain ⟨k, vv, rfl, hk, rfl, hS, hV⟩ := hrel
        obtain ⟨wr0, hwr⟩ : ∃ x, x = wr := ⟨_, rfl⟩
        subst hwr
        by_cases hlt : k < ds.length
        · have hlt2 : k < ws.length := by omega
          obtain ⟨b1, o1, rfl, hc1⟩ := HD6.out.spot (by omega)
          obtain ⟨b2, o2, rfl, hc2⟩ := HW6.out.spot (by omega)
          have k1 := hS.cell_eq (hc1 k hlt) (fun h => h)
          have k2 := hS.cell_eq (hc2 k hlt2) (fun h => h)
          have hst := zip_snoc ds ws k hlt hlt2
          generalize ds[k] = x at *
          generalize ws[k] = y at *
          have HST := Lib.hid hst
          have HV := Lib.hid hV
          have hsz := hS.size
          clear hst hV hc1 hc2
          go_wp2_with ((at_builtin; refine app_one [.int .i64 x, .int .i64 y] rfl (.tmp 53) (.tmp 60) 55 rfl w6.heap.size 77 (.agg #[.int .i64 0, .int .i64 0]) 2 16 Try.underlying55 hINF.out rfl (by decide) _ k _ rfl HV.out rfl ?_ rfl (by intro u hu; simp at hu; rcases hu with rfl | rfl <;> rfl) (by unfold maxLen; omega) (by omega) hsz; intro v' w7 hown7 hO7))
          go_roundw
          case rel => exact ⟨k + 1, _, rfl, by omega, by go_num, hS.trans hO7 (fun g h1 h2 => by omega), by rw [HST.out, cells2_snoc]; exact hown7⟩
          case measure => simp [intOf]; omega
        · obtain rfl : k = ds.length := by omega
          rw [List.take_of_length_le (by rw [HZL.out]; omega)] at hV
          have hsl := own_slp hV
          have cB := fun w0 (h : Same wr0 w0) => build_any _ _ w0 (hsl.same h) (by rw [HZL.out]; omega)
          have HS7 := Lib.hid (HS6.out.then hS)
          have hll : (ds.zip ws).length ≤ 60000 := by rw [HZL.out]; exact hn6
          have HLL := Lib.hid hll
          have CBU := Lib.hid cB
          generalize ds.zip ws = l at *
          clear cB hsl hV hS HS6 HD6 HW6 hll HZL
          go_wp2_with fail
          refine (CBU.out _ (Only.refl _ _)).mono ?_
          rintro e w8 ⟨hS8, ⟨hrt, b8, rfl, hL8⟩ | ⟨hrt, rfl⟩⟩
          · rw [hrt, if_pos rfl] at HP
            have HL8 := Lib.hid hL8; have HRT := Lib.hid ((rightB_iff l).1 hrt)
            clear hL8 hrt
            go_wp2_with fail
            go_ret2
            rw [HP.out]
            exact ⟨HS7.out.then hS8, .inr ⟨_, _, rfl, HRT.out, HLL.out, rfl, rfl, HL8.out⟩⟩
          · rw [hrt, if_neg (by simp)] at HP
            clear hrt
            go_wp2_with fail
            go_ret2
            rw [HP.out]
            exact ⟨HS7.out.then hS8, .inl ⟨rfl, rfl⟩⟩
end Go.Proofs.Ytjegohibpojneaa
