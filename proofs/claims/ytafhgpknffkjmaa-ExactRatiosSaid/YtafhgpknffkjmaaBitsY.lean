import Derived.Test.YtafhgpknffkjmaaBitsX
set_option linter.unusedVariables false
set_option linter.unusedSimpArgs false
namespace Go.Proofs.Ytafhgpknffkjmaa
open Go.RowKit

theorem nb_mul_len (a b : Nat) : (nb (a * b)).length ≤ (nb a).length + (nb b).length := by
  apply nb_length_le
  rw [Nat.pow_add]
  by_cases h : b = 0
  · subst h; simp; exact Nat.mul_pos (Nat.pow_pos (by omega)) (Nat.pow_pos (by omega))
  · exact Nat.mul_lt_mul_of_le_of_lt (Nat.le_of_lt (nb_lt a)) (nb_lt b) (Nat.pow_pos (by omega))
theorem nb_bv_len (l : List Bool) : (nb (bv l)).length ≤ l.length := nb_length_le _ _ (bv_lt l)

set_option maxRecDepth 100000 in
set_option maxHeartbeats 1000000 in
theorem times_any (v1 v2 : Value) (a b : List Bool) (w : World) (h1 : Sl w .bool v1 a) (h2 : Sl w .bool v2 b) (hla : a.length ≤ 400000) (hlb : b.length ≤ 400000) :
    Calls Try.prog 83 #[v1, v2] w fun e w' => ∃ v', e = .returned v' ∧ Same w w' ∧ Sl w' .bool v' (nb (bv a * bv b)) ∧ Fr w.heap.size v' := by
  have H1 := Lib.hid h1; have H2 := Lib.hid h2
  obtain ⟨ad1, c1, rfl, hc1, hm1, _, _⟩ := h1
  obtain ⟨ad2, c2, rfl, hc2, hm2, _, hx2⟩ := h2
  have HX2 := Lib.hid hx2
  clear hx2
  go_enter Try.func83, Try.ntmps83
  go_wp2_with fail
  go_loopw [5, 6] (fun out i wr => ∃ j : Nat, j ≤ b.length ∧ i = .int .i64 ((j : Int) - 1) ∧ Same w wr ∧ Sl wr .bool out (nb (bv a * bv (b.drop j))) ∧ Fr w.heap.size out) (fun _ i _ => (intOf i + 1).toNat)
  case atStart => exact ⟨b.length, by omega, rfl, Only.refl _ _, by rw [List.drop_length]; simp [bv, nb_zero]; exact ⟨none, 0, rfl, by simp, by simp, fun _ => rfl, fun h => absurd h (by simp)⟩, Fr.nil _ _ _⟩
  case round =>
    obtain ⟨j, hj, rfl, hS, hV, hF⟩ := hrel
    by_cases h0 : 0 < j
    · obtain ⟨q, rfl⟩ : ∃ q, j = q + 1 := ⟨j - 1, by omega⟩
      have e1 : ((q + 1 : Nat) : Int) - 1 = (q : Int) := by omega
      rw [e1]
      obtain ⟨b2, o2, rfl, k2⟩ := HX2.out (by omega)
      replace k2 := k2 q (by omega)
      have hdr := bv_drop b q (by omega)
      obtain ⟨z, hz⟩ : ∃ z, z = bv a * bv (b.drop (q + 1)) := ⟨_, rfl⟩
      rw [← hz] at hV
      have hzl : (nb z).length ≤ 800000 := by
        have h3 := nb_mul_len (bv a) (bv (b.drop (q + 1)))
        have h4 := nb_bv_len a
        have h5 := nb_bv_len (b.drop (q + 1))
        rw [List.length_drop] at h5
        rw [hz]; omega
      have HV := Lib.hid hV; have HF := Lib.hid hF; have HZ := Lib.hid hz; have HDR := Lib.hid hdr
      obtain ⟨ad3, c3, rfl, hc3, hm3, hn3, hx3⟩ := hV
      have hown := World.ownsRow_lit (base := wr.heap.size) (e := 4) (size := 1) wr #[.bool false] 1 (Nat.le_refl _) (by simp [maxLen]) rfl
      have HN := Lib.hid (HV.out.same ((Only.refl (fun _ => False) wr).alloc (.cells #[.bool false] 4))).news
      have HOW := Lib.hid hown
      have hsz : wr.heap.size ≤ (wr.alloc (.cells #[.bool false] 4)).heap.size := by simp
      have hws := hS.size
      clear hx3 hown hdr hF
      go_wp2_with (at_builtin; refine app_any rfl (.tmp 14) (.tmp 15) 74 rfl wr.heap.size 4 (.bool false) 1 1 Try.underlying74 (by kernel_rfl) rfl (by decide) _ 1 [.bool false] rfl HOW.out ad3 (nb z).length c3 ((nb z).map Value.bool) rfl ?_ (by simp) HN.out.2.1 (fun b hb j u hu => HN.out.2.2 b hb j u hu) (by intro u hu; obtain ⟨x, _, rfl⟩ := List.mem_map.1 hu; rfl) (by unfold maxLen; omega) (by omega) hsz; intro v' w3 hown3 hO3)
      have hw3 : Same w w3 := (hS.alloc _).trans hO3 (fun g h1 h2 => by omega)
      have hs3 : Sl w3 Value.bool v' (false :: nb z) := own_sl (n := 1 + (nb z).length) (e := 4) (base := wr.heap.size) (by simpa using hown3)
      refine (trim_any _ _ _ hs3 (by simp; omega)).mono ?_
      rintro e w4 ⟨v4, rfl, hS4, hV4, hF4⟩
      rw [nb_cons] at hV4
      have hF4' := (hF4 _ (own_fr hown3)).mono hws
      have hw4 := hw3.then hS4
      have k4 := hw4.cell_eq k2 (fun h => h)
      have HV4 := Lib.hid hV4; have HF4 := Lib.hid hF4'; have HS4 := Lib.hid hw4
      clear hV4 hF4 hF4' hw4 hw3 hs3 k2 hown3 hO3 hS4 hS
      cases hbq : b[q]
      · rw [hbq] at k4
        have HQ := Lib.hid hbq
        clear hbq
        go_wp2_with fail
        refine ⟨⟨q, by omega, by go_num, HS4.out, ?_, HF4.out⟩, by simp [intOf]; try omega⟩
        have e2 : bv a * bv (b.drop q) = false.toNat + 2 * z := by
          rw [HDR.out, HQ.out, HZ.out, Nat.mul_add, ← Nat.mul_assoc, Nat.mul_comm (bv a) 2, Nat.mul_assoc]; simp
        rw [e2]
        exact HV4.out
      · rw [hbq] at k4
        have HQ := Lib.hid hbq
        clear hbq
        have hl4 : (nb (false.toNat + 2 * z)).length ≤ 900000 := by
          have h1 : false.toNat + 2 * z < 2 ^ ((nb z).length + 1) := by have := nb_lt z; rw [Nat.pow_succ]; simp; omega
          have := nb_length_le _ _ h1
          omega
        go_wp2_with fail
        refine (plus_any _ _ _ a _ HV4.out (H1.out.same HS4.out) (by omega) (by omega)).mono ?_
        rintro e w5 ⟨v5, rfl, hS5, hV5, hF5⟩
        rw [bv_nb] at hV5
        have HV5 := Lib.hid hV5; have HF5 := Lib.hid hF5
        clear hV5 hF5
        go_wp2_with fail
        refine ⟨⟨q, by omega, by go_num, HS4.out.then hS5, ?_, HF5.out.mono HS4.out.size⟩, by simp [intOf]; try omega⟩
        have e2 : bv a * bv (b.drop q) = false.toNat + 2 * z + bv a := by
          rw [HDR.out, HQ.out, HZ.out, Nat.mul_add, ← Nat.mul_assoc, Nat.mul_comm (bv a) 2, Nat.mul_assoc]; simp; omega
        rw [e2]
        exact HV5.out
    · obtain rfl : j = 0 := by omega
      rw [List.drop_zero] at hV
      have HV := Lib.hid hV; have HF := Lib.hid hF
      clear hV hF
      go_wp2
      go_ret
      exact ⟨_, rfl, hS, HV.out, HF.out⟩
end Go.Proofs.Ytafhgpknffkjmaa
