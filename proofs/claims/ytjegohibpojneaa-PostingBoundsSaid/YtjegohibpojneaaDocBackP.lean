import Derived.Test.YtjegohibpojneaaDocReadP
set_option linter.unusedVariables false
set_option linter.unusedSimpArgs false
namespace Go.Proofs.Ytjegohibpojneaa
open Go.RowKit

/-! plain: from what a reader tells back to the bytes -/
theorem ris_bk : ∀ (n : Nat) (l : List UInt8) (last : Int) (r : List UInt8), (rowL Prod.fst risStep n (some l, last)).2.1 = some r →
    ∃ t, risb last (rowL Prod.fst risStep n (some l, last)).1 = some t ∧ l = t ++ r ∧ (rowL Prod.fst risStep n (some l, last)).1.length = n
  | 0, l, last, r, h => by
    simp only [rowL, Option.some.injEq] at h
    subst h
    exact ⟨[], rfl, rfl, rfl⟩
  | n + 1, l, last, r, h => by
    have hgo := rowL_go (rs := Prod.fst) (step := risStep) (s := ((some l : RS), last)) (r := l) n rfl
    rw [hgo] at h ⊢
    by_cases hb : 9223372036854775806 - last < ((varS (some l)).1 : Int)
    · have e : risStep ((some l : RS), last) = (0, (none, last)) := by unfold risStep; rw [if_pos hb]
      rw [e] at h
      simp only at h
      rw [rowL_stop n rfl] at h
      cases h
    · have e : risStep ((some l : RS), last) = (last + (((varS (some l)).1 : Int) + 1), ((varS (some l)).2, last + (((varS (some l)).1 : Int) + 1))) := by unfold risStep; rw [if_neg hb]
      rw [e] at h ⊢
      simp only at h ⊢
      cases h2 : (varS (some l)).2 with
      | none => rw [h2, rowL_stop n rfl] at h; cases h
      | some l1 =>
        obtain ⟨hv, _⟩ := varS_back l l1 h2
        rw [h2] at h
        obtain ⟨t, ht, rfl, hn⟩ := ris_bk n l1 _ r h
        refine ⟨vint (varS (some l)).1 ++ t, ?_, ?_, by simp [hn]⟩
        · unfold risb
          rw [if_neg (by omega), ht, show (last + (((varS (some l)).1 : Int) + 1) - last - 1).toNat = (varS (some l)).1 by omega]
          rfl
        · rw [List.append_assoc]; exact hv
theorem risR_bk (l : List UInt8) (most : Int) (r : List UInt8) (h : (risR (some l) most).2 = some r) : ∃ t, risS (risR (some l) most).1 = some t ∧ l = t ++ r := by
  unfold risR at h ⊢
  simp only at h ⊢
  rw [(rowS_eq _ _ _ _).1] at h
  by_cases hm : most < ((varS (some l)).1 : Int)
  · rw [if_pos hm, rowL_stop _ rfl] at h; cases h
  · rw [if_neg hm] at h ⊢
    cases h2 : (varS (some l)).2 with
    | none => rw [h2, rowL_stop _ rfl] at h; cases h
    | some l1 =>
      rw [h2] at h
      obtain ⟨hv, _⟩ := varS_back l l1 h2
      obtain ⟨t, ht, hl, hn⟩ := ris_bk _ l1 (-1) r h
      have he : rowS Prod.fst risStep (varS (some l)).1 ((some l1 : RS), (-1 : Int)) = rowL Prod.fst risStep (varS (some l)).1 ((some l1 : RS), (-1 : Int)) := by
        unfold rowS
        rw [h]
      rw [he]
      refine ⟨vint (varS (some l)).1 ++ t, ?_, by rw [List.append_assoc, ← hl]; exact hv⟩
      unfold risS
      rw [ht, hn]
      rfl
theorem numAt_bit (t : List UInt8) (p : Nat) : ∀ (w i : Nat), i < w → (numAt t p w).testBit i = bitAt t (p + i)
  | 0, i, h => by omega
  | w + 1, i, h => by
    unfold numAt
    have hlt := numAt_lt t p w
    rw [Nat.add_comm, Nat.mul_comm]
    by_cases hi : i = w
    · subst hi
      rw [Nat.testBit_two_pow_mul_add _ hlt, if_neg (by omega), Nat.sub_self]
      cases bitAt t (p + i) <;> rfl
    · rw [Nat.testBit_two_pow_mul_add _ hlt, if_pos (by omega)]
      exact numAt_bit t p w i (by omega)
theorem u8_ext (a b : UInt8) (h : ∀ c, c < 8 → a.toNat.testBit c = b.toNat.testBit c) : a = b := by
  apply UInt8.toNat_inj.1
  apply Nat.eq_of_testBit_eq
  intro i
  by_cases hi : i < 8
  · exact h i hi
  · have ha := UInt8.toNat_lt a
    have hb := UInt8.toNat_lt b
    have hp : 2 ^ 8 ≤ 2 ^ i := Nat.pow_le_pow_right (by omega) (by omega)
    rw [Nat.testBit_lt_two_pow (by omega), Nat.testBit_lt_two_pow (by omega)]
theorem fixB_bk (w n : Nat) (t : List UInt8) (ht : t.length = (w * n + 7) / 8) (hp : padBad t (w * n) = false) (hw : 0 < w) :
    fixB w ((List.range n).map fun i => (numAt t (w * i) w : Int)) = t := by
  have hl : ((List.range n).map fun i => (numAt t (w * i) w : Int)).length = n := by simp
  apply List.ext_getElem
  · rw [fixB_length, hl, ht]
  · intro j h1 h2
    apply u8_ext
    intro c hc
    have hb := bitAt_fixB w ((List.range n).map fun i => (numAt t (w * i) w : Int)) (8 * j + c) (by rw [hl]; omega)
    have e1 : bitAt (fixB w ((List.range n).map fun i => (numAt t (w * i) w : Int))) (8 * j + c) = (fixB w ((List.range n).map fun i => (numAt t (w * i) w : Int)))[j].toNat.testBit c := by
      unfold bitAt
      rw [show (8 * j + c) / 8 = j by omega, show (8 * j + c) % 8 = c by omega, List.getD_eq_getElem?_getD, List.getElem?_eq_getElem h1]
      rfl
    have e2 : bitAt t (8 * j + c) = t[j].toNat.testBit c := by
      unfold bitAt
      rw [show (8 * j + c) / 8 = j by omega, show (8 * j + c) % 8 = c by omega, List.getD_eq_getElem?_getD, List.getElem?_eq_getElem h2]
      rfl
    rw [← e1, ← e2, hb, hl]
    by_cases hq : 8 * j + c < w * n
    · have hk : (8 * j + c) / w < n := by rw [Nat.div_lt_iff_lt_mul hw, Nat.mul_comm n w]; exact hq
      have hm := Nat.mod_lt (8 * j + c) hw
      have hd := Nat.div_add_mod (8 * j + c) w
      rw [decide_eq_true hq, Bool.true_and]
      have hbw := bitsW_at w ((List.range n).map fun i => (numAt t (w * i) w : Int)) ((8 * j + c) / w) ((8 * j + c) % w) (by rw [hl]; exact hk) hm
      rw [hd] at hbw
      rw [hbw]
      simp only [List.getElem_map, List.getElem_range, Int.toNat_natCast]
      rw [numAt_bit t _ w _ hm, hd]
    · rw [decide_eq_false hq, Bool.false_and]
      cases hx : bitAt t (8 * j + c) with
      | false => rfl
      | true =>
        have := (padBad_iff t (w * n) ht).2 ⟨8 * j + c, by omega, by omega, hx⟩
        rw [hp] at this
        cases this
theorem fixR_bk (l : List UInt8) (w n : Nat) (hw : 0 < w) (r : List UInt8) (h : (fixR (some l) w n).2 = some r) : l = fixB w (fixR (some l) w n).1 ++ r := by
  unfold fixR at h ⊢
  by_cases hc : (w : Int) < 0 ∨ 32 < (w : Int) ∨ (n : Int) < 0 ∨ 65536 < (n : Int)
  · rw [if_pos hc] at h; cases h
  rw [if_neg hc] at h ⊢
  have e1 : ((w : Int) * (n : Int)).toNat = w * n := by rw [← Int.natCast_mul, Int.toNat_natCast]
  have e2 : (((w : Int) * (n : Int) + 7) / 8) = ((w * n + 7) / 8 : Nat) := by simp
  rw [e1, e2] at h ⊢
  cases hb : (bytesS (some l) (((w * n + 7) / 8 : Nat) : Int)).2 with
  | none => rw [hb] at h; cases h
  | some q =>
    rw [hb] at h
    simp only at h ⊢
    by_cases hp : padBad (bytesS (some l) (((w * n + 7) / 8 : Nat) : Int)).1 (w * n) = true
    · rw [if_pos hp] at h; cases h
    rw [if_neg hp] at h ⊢
    simp only [Option.some.injEq] at h
    subst h
    generalize hB : bytesS (some l) (((w * n + 7) / 8 : Nat) : Int) = B at *
    obtain ⟨t, q'⟩ := B
    simp only at hb hp ⊢
    subst hb
    obtain ⟨_, h2, l2, e, h3⟩ := bytesS_some (st := some l) (n := (((w * n + 7) / 8 : Nat) : Int)) (t := t) (r := q) hB
    simp only [Int.toNat_natCast]
    rw [fixB_bk w n t (Int.ofNat_inj.1 h2) (by simpa using hp) hw]
    injection e with e
    rw [e]
    exact h3.symm

/-! plain: the round trip of a change -/
theorem vint0 : vint 0 = [0] := by rw [vint_small (by omega)]; rfl
theorem vint1 : vint 1 = [1] := by rw [vint_small (by omega)]; rfl
theorem risR_none' (most : Int) : risR none most = ([], none) := by
  unfold risR
  have e : (if most < ((varS none).1 : Int) then none else (varS none).2 : RS) = none := by split <;> rfl
  simp only
  rw [e]
  rw [rowS_none (rowL_stop _ rfl) rfl]
theorem risR_fwd (l : List Int) (most : Int) (t s : List UInt8) (hl : ∀ x ∈ l, x ≤ 9223372036854775807) (hn : l.length ≤ 1000000000000) (hm : (l.length : Int) ≤ most) (h : risS l = some t) : risR (some (t ++ s)) most = (l, some s) := by
  have hb := risR_back l t s hl hn h
  obtain ⟨u, hu, rfl⟩ := Option.map_eq_some_iff.1 h
  have hv : varS (some (vint l.length ++ u ++ s)) = (l.length, some (u ++ s)) := by rw [List.append_assoc]; exact varS_vint _ _ (by omega)
  unfold risR at hb ⊢
  rw [hv] at hb ⊢
  simp only at hb ⊢
  rw [if_neg (by omega)] at hb
  rw [if_neg (by omega)]
  exact hb
theorem map_sh (v : List Int) : (v.map (· + 128)).map (· - 128) = v := by
  rw [List.map_map]
  conv => rhs; rw [← List.map_id v]
  apply List.map_congr_left
  intro x _
  show x + 128 - 128 = x
  omega
theorem map_hs (v : List Int) : (v.map (· - 128)).map (· + 128) = v := by
  rw [List.map_map]
  conv => rhs; rw [← List.map_id v]
  apply List.map_congr_left
  intro x _
  show x - 128 + 128 = x
  omega
theorem zip_map (l : List (Int × Int)) : (l.map (·.1)).zip (l.map (·.2)) = l := by
  induction l with
  | nil => rfl
  | cons x l ih => simp [ih]
theorem readD_fwd (c : Chg) (t : List UInt8) (hc : RightC c) : readD (some (docBytes c ++ t)) = (some c, some t) := by
  have h0 := (right0_iff c).2 hc
  have hd := hc.doc
  unfold docBytes
  rw [List.append_assoc]
  unfold readD
  rw [varS_vint c.doc.toNat _ (by omega)]
  simp only
  have hdd : ((c.doc.toNat : Nat) : Int) = c.doc := by omega
  cases hg : c.gone with
  | true =>
    obtain ⟨g1, g2, g3⟩ := hc.gone hg
    rw [if_pos rfl, ← vint1, varS_vint 1 t (by omega)]
    simp only
    rw [if_neg (by omega), if_neg (by omega)]
    have e : readG c.doc.toNat 1 = c := by
      unfold readG
      rw [hdd]
      obtain ⟨a, b, d, e, f⟩ := c
      simp only at hg g1 g2 g3 ⊢
      subst hg g1 g2 g3
      rfl
    rw [e]
    unfold okC
    rw [if_pos h0]
  | false =>
    obtain ⟨hv1, hv2⟩ := hc.vec hg
    have hlen := hc.len
    have hrg := hc.terms
    rw [if_neg (show ¬ (false = true) by simp)]
    have e1 : ∀ x : List UInt8, 0 :: x = vint 0 ++ x := by intro x; rw [vint0]; rfl
    rw [e1, List.append_assoc, varS_vint 0 _ (by omega)]
    simp only
    rw [if_pos trivial]
    obtain ⟨u, hu, -⟩ := risS_some (c.terms.map (·.1)) hc.rises (fun x hx => by obtain ⟨y, hy, rfl⟩ := List.mem_map.1 hx; have := hrg y hy; omega) (by simp; omega)
    have hr := risR_fwd (c.terms.map (·.1)) 64 u (fixB 16 (c.terms.map (·.2)) ++ fixB 8 (c.v.map (· + 128) ++ [c.tags]) ++ t) (fun x hx => by obtain ⟨y, hy, rfl⟩ := List.mem_map.1 hx; have := hrg y hy; omega) (by simp; omega) (by simp; omega) hu
    have h16 : fixS ((16 : Nat) : Int) (c.terms.map (·.2)) = some (fixB 16 (c.terms.map (·.2))) := fixS_some 16 _ (by omega) (fun x hx => by obtain ⟨y, hy, rfl⟩ := List.mem_map.1 hx; have := hrg y hy; omega)
    have h8 : fixS ((8 : Nat) : Int) (c.v.map (· + 128) ++ [c.tags]) = some (fixB 8 (c.v.map (· + 128) ++ [c.tags])) := fixS_some 8 _ (by omega) (fun x hx => by
      have ht := hc.tags
      rcases List.mem_append.1 hx with hx | hx
      · obtain ⟨y, hy, rfl⟩ := List.mem_map.1 hx
        have := hv2 y hy
        omega
      · simp at hx; subst hx; omega)
    have hf16 := fixR_back 16 (c.terms.map (·.2)) _ (fixB 8 (c.v.map (· + 128) ++ [c.tags]) ++ t) (by simp; omega) h16
    have hf8 := fixR_back 8 (c.v.map (· + 128) ++ [c.tags]) _ t (by simp; omega) h8
    have hl1 : (c.terms.map (·.2)).length = (c.terms.map (·.1)).length := by simp
    have hl2 : (((c.v.map (· + 128) ++ [c.tags]).length : Nat) : Int) = 9 := by simp; omega
    rw [hl1] at hf16
    rw [hl2] at hf8
    rw [hu, Option.getD_some, List.append_assoc u, hr]
    simp only
    rw [List.append_assoc, hf16]
    simp only
    rw [hf8]
    simp only [Option.isNone_some]
    rw [if_neg (by simp)]
    have e : readA c.doc.toNat (c.terms.map (·.1)) (c.terms.map (·.2)) (c.v.map (· + 128) ++ [c.tags]) = c := by
      unfold readA
      rw [hdd, zip_map]
      have q1 : ((c.v.map (· + 128) ++ [c.tags]).take 8).map (· - 128) = c.v := by
        rw [List.take_append_of_le_length (by simp; omega), List.take_of_length_le (by simp; omega), map_sh]
      have q2 : (c.v.map (· + 128) ++ [c.tags]).getD 8 0 = c.tags := by
        rw [List.getD_eq_getElem?_getD, List.getElem?_append_right (by simp; omega)]
        simp [hv1]
      rw [q1, q2]
      obtain ⟨a, b, d, e, f⟩ := c
      simp only at hg ⊢
      subst hg
      rfl
    rw [e]
    unfold okC
    rw [if_pos h0]
theorem docBytes_inj (c d : Chg) (hc : RightC c) (hd : RightC d) (h : docBytes c = docBytes d) : c = d := by
  have h1 := readD_fwd c [] hc
  have h2 := readD_fwd d [] hd
  rw [h, h2] at h1
  injection h1 with h1 _
  injection h1 with h1
  exact h1.symm
theorem okC_eq {c d : Chg} (h : okC c = some d) : c = d ∧ rightD c = 0 := by
  unfold okC at h
  by_cases h0 : rightD c = 0
  · rw [if_pos h0] at h
    injection h with h
    exact ⟨h, h0⟩
  · rw [if_neg h0] at h; cases h
theorem readD_bwd (l : List UInt8) (c : Chg) (h : (readD (some l)).1 = some c) : ∃ t, (readD (some l)).2 = some t ∧ RightC c ∧ l = docBytes c ++ t := by
  have hnone : ∀ st : RS, (varS (varS st).2).2 = none → (readD st).1 = none := by
    intro st hs
    have h0 := varS_bad _ hs
    unfold readD
    rw [if_pos h0, hs]
    simp only [risR_none', fixR_none]
    rfl
  cases h2 : (varS (varS (some l)).2).2 with
  | none => rw [hnone _ h2] at h; cases h
  | some l2 =>
    cases h1 : (varS (some l)).2 with
    | none => rw [h1] at h2; cases h2
    | some l1 =>
      rw [h1] at h2
      obtain ⟨e1, -⟩ := varS_back l l1 h1
      obtain ⟨e2, -⟩ := varS_back l1 l2 h2
      unfold readD at h ⊢
      rw [h1, h2] at h ⊢
      generalize (varS (some l)).1 = d at *
      generalize (varS (some l1)).1 = g at *
      by_cases hg : g = 0
      · subst hg
        rw [if_pos rfl] at h ⊢
        simp only at h ⊢
        cases h3 : (risR (some l2) 64).2 with
        | none => rw [h3] at h; simp only [fixR_none] at h; cases h
        | some l3 =>
          rw [h3] at h
          obtain ⟨u, hu, e3⟩ := risR_bk l2 64 l3 h3
          have hal := risR_len (some l2) 64
          generalize (risR (some l2) 64).1 = a at *
          cases h4 : (fixR (some l3) 16 a.length).2 with
          | none => rw [h4] at h; simp only [fixR_none] at h; cases h
          | some l4 =>
            have e4 := fixR_bk l3 16 a.length (by omega) l4 h4
            obtain ⟨_, -, hbl, -⟩ := fixR_some h4
            rw [h4] at h
            have hc16 : ((16 : Nat) : Int) = 16 := rfl
            rw [hc16] at e4
            generalize (fixR (some l3) 16 a.length).1 = b at *
            cases h5 : (fixR (some l4) 8 9).2 with
            | none => rw [h5] at h; cases h
            | some l5 =>
              have e5 := fixR_bk l4 8 9 (by omega) l5 h5
              obtain ⟨_, -, hrl, -⟩ := fixR_some h5
              rw [h5] at h
              have hc8 : ((8 : Nat) : Int) = 8 := rfl
              have hc9 : ((9 : Nat) : Int) = 9 := rfl
              rw [hc8, hc9] at e5
              generalize (fixR (some l4) 8 9).1 = r at *
              rw [if_neg (by simp)] at h
              simp only at h
              obtain ⟨hcd, h0⟩ := okC_eq h
              rw [hcd] at h0
              refine ⟨l5, by simp, (right0_iff c).1 h0, ?_⟩
              rw [← hcd]
              unfold docBytes readA
              simp only
              have hab : a.length = b.length := by simpa using hbl.symm
              have hr9 : r.length = 9 := by simpa using hrl
              have m1 : (a.zip b).map (·.1) = a := List.map_fst_zip (by omega)
              have m2 : (a.zip b).map (·.2) = b := List.map_snd_zip (by omega)
              have m3 : r.take 8 ++ [r.getD 8 0] = r := by
                rw [List.getD_eq_getElem?_getD, List.getElem?_eq_getElem (by omega), Option.getD_some, List.take_append_getElem (by omega), List.take_of_length_le (by omega)]
              rw [m1, m2, hu, map_hs, m3, if_neg (by simp), Option.getD_some, Int.toNat_natCast, e1, e2, e3, e4, e5, vint0]
              simp
      · rw [if_neg hg] at h ⊢
        by_cases hg1 : 1 < g
        · rw [if_pos hg1] at h; cases h
        · rw [if_neg hg1] at h ⊢
          obtain rfl : g = 1 := by omega
          simp only at h ⊢
          obtain ⟨hcd, h0⟩ := okC_eq h
          rw [hcd] at h0
          refine ⟨l2, rfl, (right0_iff c).1 h0, ?_⟩
          rw [← hcd]
          unfold docBytes readG
          simp only
          rw [if_pos (by simp), Int.toNat_natCast, e1, e2, vint1]
          simp
end Go.Proofs.Ytjegohibpojneaa
