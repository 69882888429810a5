import Derived.Test.YtafhgpknffkjmaaBitsW
set_option linter.unusedVariables false
set_option linter.unusedSimpArgs false
namespace Go.Proofs.Ytafhgpknffkjmaa
open Go.RowKit

set_option maxRecDepth 100000 in
set_option maxHeartbeats 1000000 in
theorem less_any (v1 v2 : Value) (m n : Nat) (w : World) (h1 : Sl w .bool v1 (nb m)) (h2 : Sl w .bool v2 (nb n)) (hla : (nb m).length ≤ 1000000) (hlb : (nb n).length ≤ 1000000) :
    Calls Try.prog 78 #[v1, v2] w fun e w' => e = .returned (.bool (decide (m < n))) ∧ Same w w' := by
  obtain ⟨a, ha⟩ : ∃ a, a = nb m := ⟨_, rfl⟩
  obtain ⟨b, hb⟩ : ∃ b, b = nb n := ⟨_, rfl⟩
  have hva : bv a = m := by rw [ha, bv_nb]
  have hvb : bv b = n := by rw [hb, bv_nb]
  have hlen1 : a.length < b.length → m < n := fun h => less_len (by rw [← ha, ← hb]; exact h)
  have hlen2 : b.length < a.length → ¬ m < n := fun h hc => by have := less_len (m := n) (n := m) (by rw [← ha, ← hb]; exact h); omega
  obtain ⟨rr, hrr⟩ : ∃ rr, rr = decide (m < n) := ⟨_, rfl⟩
  rw [← hrr]
  have HRR := Lib.hid hrr
  clear hrr
  rw [← ha] at h1 hla
  rw [← hb] at h2 hlb
  have H1 := Lib.hid h1; have H2 := Lib.hid h2
  obtain ⟨ad1, c1, rfl, hc1, hm1, _, hx1⟩ := h1
  obtain ⟨ad2, c2, rfl, hc2, hm2, _, hx2⟩ := h2
  have HX1 := Lib.hid hx1; have HX2 := Lib.hid hx2; have HVA := Lib.hid hva; have HVB := Lib.hid hvb
  clear hx1 hx2 ha hb hva hvb
  rcases Nat.lt_trichotomy a.length b.length with hl | hl | hl
  · have hr := HRR.out.trans (decide_eq_true (hlen1 hl))
    subst hr
    clear hlen1 hlen2
    have e0 : ((a.length : Int) != (b.length : Int)) = true := by simp; omega
    go_enter Try.func78, Try.ntmps78
    go_wp2
    go_ret
    exact ⟨rfl, Only.refl _ _⟩
  · have e0 : ((a.length : Int) != (b.length : Int)) = false := by simp [hl]
    have HL := Lib.hid hl
    clear hl hlen1 hlen2
    go_enter Try.func78, Try.ntmps78
    go_wp2_with fail
    go_loopw [5] (fun i wr => ∃ j : Nat, j ≤ a.length ∧ i = .int .i64 ((j : Int) - 1) ∧ Same w wr ∧ a.drop j = b.drop j) (fun i _ => (intOf i + 1).toNat)
    case atStart => exact ⟨a.length, by omega, rfl, Only.refl _ _, by rw [List.drop_of_length_le (by omega), List.drop_of_length_le (by have := HL.out; omega)]⟩
    case round =>
      obtain ⟨j, hj, rfl, hS, hd⟩ := hrel
      have HD := Lib.hid hd
      clear hd
      by_cases h0 : 0 < j
      · obtain ⟨q, rfl⟩ : ∃ q, j = q + 1 := ⟨j - 1, by omega⟩
        have e1 : ((q + 1 : Nat) : Int) - 1 = (q : Int) := by omega
        rw [e1]
        have hq2 : q < b.length := by have := HL.out; omega
        obtain ⟨b1, o1, rfl, k1⟩ := HX1.out (by omega)
        obtain ⟨b2, o2, rfl, k2⟩ := HX2.out (by omega)
        replace k1 := hS.cell_eq (k1 q (by omega)) (fun h => h)
        replace k2 := hS.cell_eq (k2 q hq2) (fun h => h)
        by_cases hne : a[q] = b[q]
        · have HN := Lib.hid hne
          cases hbq : b[q]
          all_goals
            rw [hne, hbq] at k1
            rw [hbq] at k2
            clear hne hbq
            go_wp2_with fail
            go_quiet (fail)
            rename_i nq
            go_wp2
            refine ⟨⟨q, by omega, by go_num, hS.drewN nq, ?_⟩, by simp [intOf]; try omega⟩
            rw [List.drop_eq_getElem_cons (show q < a.length by omega), List.drop_eq_getElem_cons hq2, HN.out, HD.out]
        · have hlb2 := less_bit a b q (by omega) hq2 HD.out hne
          rw [HVA.out, HVB.out] at hlb2
          have HN := Lib.hid hne
          cases hbq : b[q]
          · have hax : a[q] = true := by cases h : a[q]; · exact absurd (h.trans hbq.symm) hne
                                         · rfl
            rw [hax] at k1
            rw [hbq] at k2 hlb2
            have HLB := Lib.hid (HRR.out.trans hlb2)
            clear hne hbq hax hlb2
            go_wp2_with fail
            go_quiet (fail)
            rename_i nq
            go_wp2
            go_ret
            rw [HLB.out]
            exact ⟨rfl, hS.drewN nq⟩
          · have hax : a[q] = false := by cases h : a[q]; · rfl
                                          · exact absurd (h.trans hbq.symm) hne
            rw [hax] at k1
            rw [hbq] at k2 hlb2
            have HLB := Lib.hid (HRR.out.trans hlb2)
            clear hne hbq hax hlb2
            go_wp2_with fail
            go_quiet (fail)
            rename_i nq
            go_wp2
            go_ret
            rw [HLB.out]
            exact ⟨rfl, hS.drewN nq⟩
      · obtain rfl : j = 0 := by omega
        have hs := less_same a b (by have := HD.out; simpa using this)
        rw [HVA.out, HVB.out] at hs
        have HLB := Lib.hid (HRR.out.trans hs)
        clear hs
        go_wp2
        go_ret
        rw [HLB.out]
        exact ⟨rfl, hS⟩
  · have hr := HRR.out.trans (decide_eq_false (hlen2 hl))
    subst hr
    have hdn : decide (a.length < b.length) = false := by simp; omega
    clear hlen1 hlen2
    have e0 : ((a.length : Int) != (b.length : Int)) = true := by simp; omega
    go_enter Try.func78, Try.ntmps78
    go_wp2
    go_ret
    exact ⟨rfl, Only.refl _ _⟩

theorem minus_bit (x y c : Nat) (hx : x ≤ 1) (hy : y ≤ 1) (hc : c ≤ 1) : (decide ((x : Int) - y - c = 1) || decide ((x : Int) - y - c = -1)).toNat + y + c = x + 2 * (if (x : Int) - y - c < 0 then 1 else 0) := by
  obtain rfl | rfl : x = 0 ∨ x = 1 := by omega
  all_goals obtain rfl | rfl : y = 0 ∨ y = 1 := by omega
  all_goals obtain rfl | rfl : c = 0 ∨ c = 1 := by omega
  all_goals decide

set_option maxRecDepth 100000 in
set_option maxHeartbeats 1000000 in
theorem minus_any (v1 v2 : Value) (a b : List Bool) (w : World) (h1 : Sl w .bool v1 a) (h2 : Sl w .bool v2 b) (hla : a.length ≤ 1000000) (hlb : b.length ≤ a.length) (hab : bv b ≤ bv a) :
    Calls Try.prog 79 #[v1, v2] w fun e w' => ∃ v', e = .returned v' ∧ Same w w' ∧ Sl w' .bool v' (nb (bv a - bv b)) ∧ Fr w.heap.size v' := by
  have H1 := Lib.hid h1; have H2 := Lib.hid h2
  obtain ⟨ad1, c1, rfl, hc1, hm1, _, _⟩ := h1
  obtain ⟨ad2, c2, rfl, hc2, hm2, _, _⟩ := h2
  unfold maxLen at hm1 hm2
  have HAB := Lib.hid hab
  clear hab
  go_enter Try.func79, Try.ntmps79
  go_wp2_with fail
  go_loopw [5, 6, 7] (fun out c i wr => ∃ (k cc : Nat) (o : List Bool), k ≤ a.length ∧ i = .int .i64 k ∧ c = .int .i64 cc ∧ cc ≤ 1 ∧ o.length = k ∧ Same w wr ∧ wr.ownsRow w.heap.size 4 1 out k (o.map .bool) ∧ bv o + bv (b.take k) = bv (a.take k) + cc * 2 ^ k) (fun _ _ i _ => a.length - (intOf i).toNat)
  case atStart => exact ⟨0, 0, [], by omega, rfl, rfl, by omega, rfl, Only.refl _ _, World.ownsRow_nil _ _ _ _, by simp [bv]⟩
  case round =>
    obtain ⟨k, cc, o, hk, rfl, rfl, hcc, hol, hS, hown, heq⟩ := hrel
    have HW := Lib.hid hown
    clear hown
    by_cases hlt : k < a.length
    · have hps := fun x c' h => borrow_step a b o k cc c' x hol heq h
      have ca := fun w0 (hS0 : Same w w0) => bit_any _ a k w0 (H1.out.same hS0) (by omega)
      have cb := fun w0 (hS0 : Same w w0) => bit_any _ b k w0 (H2.out.same hS0) (by omega)
      have hxl : (a.getD k false).toNat ≤ 1 := Bool.toNat_le _
      have hyl : (b.getD k false).toNat ≤ 1 := Bool.toNat_le _
      generalize (a.getD k false).toNat = x at *
      generalize (b.getD k false).toNat = y at *
      have hmb := minus_bit x y cc hxl hyl hcc
      have hps2 := hps _ _ hmb
      have HP := Lib.hid hps2; have CA := Lib.hid ca; have CB := Lib.hid cb; have HOL := Lib.hid hol
      clear hps hps2 hmb ca cb heq hol
      have z01 : ((0 : Int) == 1) = false := by decide
      have z11 : ((1 : Int) == 1) = true := by decide
      have zm1 : (-1 : Int) + 2 = 1 := by decide
      have zm2 : (-2 : Int) + 2 = 0 := by decide
      obtain hz | hz | hz | hz : (x : Int) - y - cc = 1 ∨ (x : Int) - y - cc = 0 ∨ (x : Int) - y - cc = -1 ∨ (x : Int) - y - cc = -2 := by omega
      · have hpp := HP.out
        rw [hz] at hpp
        have HP := Lib.hid (show bv (o ++ [true]) + bv (b.take (k + 1)) = bv (a.take (k + 1)) + 0 * 2 ^ (k + 1) from hpp)
        clear hpp
        go_wp2_with fail
        refine (CA.out _ hS).mono ?_
        rintro e w2 ⟨rfl, hS2⟩
        have hSa := hS.then hS2
        go_wp2_with fail
        refine (CB.out _ hSa).mono ?_
        rintro e w3 ⟨rfl, hS3⟩
        have hSb := hSa.then hS3
        go_wp2_with ((at_builtin; refine app_one [.bool true] rfl (.tmp 28) (.tmp 31) 74 rfl w.heap.size 4 (.bool false) 1 1 Try.underlying74 (by kernel_rfl) rfl (by decide) _ k _ rfl (own_same (own_same HW.out hS2) hS3) rfl ?_ rfl (by intro u hu; simp at hu; subst hu; rfl) (by unfold maxLen; omega) (by omega) hSb.size; intro v' w4 hown4 hO4))
        exact ⟨⟨k + 1, 0, o ++ [true], by omega, by go_num, by go_num, by omega, by simp; exact HOL.out, hSb.trans hO4 (fun g h1 h2 => by omega), by simpa using hown4, HP.out⟩, by simp [intOf]; omega⟩
      · have hpp := HP.out
        rw [hz] at hpp
        have HP := Lib.hid (show bv (o ++ [false]) + bv (b.take (k + 1)) = bv (a.take (k + 1)) + 0 * 2 ^ (k + 1) from hpp)
        clear hpp
        go_wp2_with fail
        refine (CA.out _ hS).mono ?_
        rintro e w2 ⟨rfl, hS2⟩
        have hSa := hS.then hS2
        go_wp2_with fail
        refine (CB.out _ hSa).mono ?_
        rintro e w3 ⟨rfl, hS3⟩
        have hSb := hSa.then hS3
        go_wp2_with ((at_builtin; refine app_one [.bool false] rfl (.tmp 28) (.tmp 31) 74 rfl w.heap.size 4 (.bool false) 1 1 Try.underlying74 (by kernel_rfl) rfl (by decide) _ k _ rfl (own_same (own_same HW.out hS2) hS3) rfl ?_ rfl (by intro u hu; simp at hu; subst hu; rfl) (by unfold maxLen; omega) (by omega) hSb.size; intro v' w4 hown4 hO4))
        exact ⟨⟨k + 1, 0, o ++ [false], by omega, by go_num, by go_num, by omega, by simp; exact HOL.out, hSb.trans hO4 (fun g h1 h2 => by omega), by simpa using hown4, HP.out⟩, by simp [intOf]; omega⟩
      · have hpp := HP.out
        rw [hz] at hpp
        have HP := Lib.hid (show bv (o ++ [true]) + bv (b.take (k + 1)) = bv (a.take (k + 1)) + 1 * 2 ^ (k + 1) from hpp)
        clear hpp
        go_wp2_with fail
        refine (CA.out _ hS).mono ?_
        rintro e w2 ⟨rfl, hS2⟩
        have hSa := hS.then hS2
        go_wp2_with fail
        refine (CB.out _ hSa).mono ?_
        rintro e w3 ⟨rfl, hS3⟩
        have hSb := hSa.then hS3
        go_wp2_with ((at_builtin; refine app_one [.bool true] rfl (.tmp 28) (.tmp 31) 74 rfl w.heap.size 4 (.bool false) 1 1 Try.underlying74 (by kernel_rfl) rfl (by decide) _ k _ rfl (own_same (own_same HW.out hS2) hS3) rfl ?_ rfl (by intro u hu; simp at hu; subst hu; rfl) (by unfold maxLen; omega) (by omega) hSb.size; intro v' w4 hown4 hO4))
        exact ⟨⟨k + 1, 1, o ++ [true], by omega, by go_num, by go_num, by omega, by simp; exact HOL.out, hSb.trans hO4 (fun g h1 h2 => by omega), by simpa using hown4, HP.out⟩, by simp [intOf]; omega⟩
      · have hpp := HP.out
        rw [hz] at hpp
        have HP := Lib.hid (show bv (o ++ [false]) + bv (b.take (k + 1)) = bv (a.take (k + 1)) + 1 * 2 ^ (k + 1) from hpp)
        clear hpp
        go_wp2_with fail
        refine (CA.out _ hS).mono ?_
        rintro e w2 ⟨rfl, hS2⟩
        have hSa := hS.then hS2
        go_wp2_with fail
        refine (CB.out _ hSa).mono ?_
        rintro e w3 ⟨rfl, hS3⟩
        have hSb := hSa.then hS3
        go_wp2_with ((at_builtin; refine app_one [.bool false] rfl (.tmp 28) (.tmp 31) 74 rfl w.heap.size 4 (.bool false) 1 1 Try.underlying74 (by kernel_rfl) rfl (by decide) _ k _ rfl (own_same (own_same HW.out hS2) hS3) rfl ?_ rfl (by intro u hu; simp at hu; subst hu; rfl) (by unfold maxLen; omega) (by omega) hSb.size; intro v' w4 hown4 hO4))
        exact ⟨⟨k + 1, 1, o ++ [false], by omega, by go_num, by go_num, by omega, by simp; exact HOL.out, hSb.trans hO4 (fun g h1 h2 => by omega), by simpa using hown4, HP.out⟩, by simp [intOf]; omega⟩
    · obtain rfl : k = a.length := by omega
      have hpd := borrow_done a b o cc HAB.out hlb hol heq
      have HP := Lib.hid hpd
      clear hpd heq
      go_wp2_with (go_at_call 94; refine (trim_any _ o _ (own_sl HW.out) (by omega)).mono ?_; rintro e w2 ⟨v2, rfl, hS2, hV2, hF2⟩; have HV2 := Lib.hid hV2; have HF2 := Lib.hid hF2; clear hV2 hF2)
      go_ret
      refine ⟨_, rfl, hS.then hS2, ?_, HF2.out _ (own_fr HW.out)⟩
      rw [← HP.out]
      exact HV2.out
end Go.Proofs.Ytafhgpknffkjmaa
