import Derived.Test.YtafhgpknffkjmaaBitsY
set_option linter.unusedVariables false
set_option linter.unusedSimpArgs false
namespace Go.Proofs.Ytafhgpknffkjmaa
open Go.RowKit

theorem nb_big {n : Nat} (h : 64 < (nb n).length) : ¬ n < 18446744073709551616 := by
  have hn : 0 < n := nb_len_pos.1 (by omega)
  have h1 := nb_ge n hn
  have h2 : 2 ^ 64 ≤ 2 ^ ((nb n).length - 1) := Nat.pow_le_pow_right (by omega) (by omega)
  omega

set_option maxRecDepth 100000 in
set_option maxHeartbeats 1000000 in
theorem value_any (v : Value) (n : Nat) (w : World) (h : Sl w .bool v (nb n)) (hl : (nb n).length ≤ 1000000) :
    Calls Try.prog 76 #[v] w fun e w' => e = .returned (.tuple #[.int .u64 ((if n < 18446744073709551616 then n else 0 : Nat) : Int), .bool (decide (n < 18446744073709551616))]) ∧ Same w w' := by
  have hbig := @nb_big n
  have hsmall : (nb n).length ≤ 64 → n < 18446744073709551616 := fun h => by have h1 := nb_lt n; have h2 : 2 ^ (nb n).length ≤ 2 ^ 64 := Nat.pow_le_pow_right (by omega) h; omega
  have hva := bv_nb n
  generalize nb n = l at *
  have H := Lib.hid h
  obtain ⟨ad, c, rfl, hc, hm, hn0, hx⟩ := h
  have HX := Lib.hid hx
  clear hx hn0
  by_cases h64 : 64 < l.length
  · have hn := hbig h64
    rw [if_neg hn, decide_eq_false hn]
    clear hbig hsmall hn hva
    go_enter Try.func76, Try.ntmps76
    go_wp2
    go_ret2
    exact ⟨rfl, Only.refl _ _⟩
  · have hn := hsmall (by omega)
    rw [if_pos hn, decide_eq_true hn]
    have HVA := Lib.hid hva; have HN := Lib.hid hn
    clear hbig hsmall hn hva
    go_enter Try.func76, Try.ntmps76
    go_wp2_with fail
    go_loopw [4, 5] (fun acc i wr => ∃ j : Nat, j ≤ l.length ∧ i = .int .i64 ((j : Int) - 1) ∧ acc = .int .u64 (bv (l.drop j) : Nat) ∧ Same w wr) (fun _ i _ => (intOf i + 1).toNat)
    case atStart => exact ⟨l.length, by omega, rfl, by rw [List.drop_length]; rfl, Only.refl _ _⟩
    case round =>
      obtain ⟨j, hj, rfl, rfl, hS⟩ := hrel
      by_cases h0 : 0 < j
      · obtain ⟨q, rfl⟩ : ∃ q, j = q + 1 := ⟨j - 1, by omega⟩
        have e1 : ((q + 1 : Nat) : Int) - 1 = (q : Int) := by omega
        rw [e1]
        have hdr := bv_drop l q (by omega)
        have hgd : l.getD q false = l[q] := by rw [List.getD_eq_getElem?_getD, List.getElem?_eq_getElem (show q < l.length by omega)]; rfl
        have hbnd : bv (l.drop q) < 18446744073709551616 := by
          have h1 := bv_lt (l.drop q)
          have h2 : 2 ^ (l.drop q).length ≤ 2 ^ 64 := Nat.pow_le_pow_right (by omega) (by rw [List.length_drop]; omega)
          omega
        have ca := bit_any _ l q _ (H.out.same hS) (by omega)
        rw [hgd] at ca
        have hb1 : (l[q]).toNat ≤ 1 := Bool.toNat_le _
        generalize (l[q]).toNat = x at *
        generalize bv (l.drop (q + 1)) = V at *
        have hb2 : x + 2 * V < 18446744073709551616 := by omega
        have HDR := Lib.hid hdr; have CA := Lib.hid ca
        clear hdr ca hgd hbnd
        have u1 : IntKind.u64.wrap ((V : Int) * 2) = (V : Int) * 2 := by rw [IntKind.wrap_u64]; omega
        have u2 : IntKind.u64.wrap (x : Int) = (x : Int) := by rw [IntKind.wrap_u64]; omega
        have u3 : IntKind.u64.wrap ((V : Int) * 2 + (x : Int)) = (V : Int) * 2 + (x : Int) := by rw [IntKind.wrap_u64]; omega
        go_wp2_with (go_at_call 93; refine CA.out.mono ?_; rintro e w2 ⟨rfl, hS2⟩)
        refine ⟨⟨q, by omega, by go_num, ?_, hS.then hS2⟩, by simp [intOf]; try omega⟩
        rw [HDR.out]
        congr 1
        try omega
      · obtain rfl : j = 0 := by omega
        rw [List.drop_zero, HVA.out]
        go_wp2
        go_ret2
        exact ⟨rfl, hS⟩
end Go.Proofs.Ytafhgpknffkjmaa
