import Derived.Test.YtjegohibpojneaaPackNum
import Derived.Test.YtjegohibpojneaaPackRis
set_option linter.unusedVariables false
set_option linter.unusedSimpArgs false
namespace Go.Proofs.Ytjegohibpojneaa
open Go.RowKit

theorem wd_vint (v : Nat) : ∀ (i acc : Nat) (s : List UInt8), i ≤ 9 → v * 128 ^ i < 18446744073709551616 → (0 < i → v ≠ 0) → wd i acc (vint v ++ s) = some (acc + v * 128 ^ i, s) := by
  induction v using Nat.strongRecOn with
  | ind v ih =>
    intro i acc s hi hb hz
    by_cases hs : v < 128
    · rw [vint_small hs]
      show wd i acc (UInt8.ofNat v :: s) = _
      have e : (UInt8.ofNat v).toNat = v := by rw [UInt8.toNat_ofNat']; omega
      unfold wd
      rw [e, if_neg (by omega), if_neg (by omega), if_neg]
      rintro (⟨h1, h2⟩ | ⟨h1, h2⟩)
      · exact hz h2 h1
      · subst h1
        have : 2 * 128 ^ 9 ≤ v * 128 ^ 9 := Nat.mul_le_mul h2 (Nat.le_refl _)
        have : (2 : Nat) * 128 ^ 9 = 18446744073709551616 := by decide
        omega
    · rw [vint_more hs]
      show wd i acc (UInt8.ofNat (v % 128 + 128) :: (vint (v / 128) ++ s)) = _
      have e : (UInt8.ofNat (v % 128 + 128)).toNat = v % 128 + 128 := by rw [UInt8.toNat_ofNat']; omega
      have h9 : i ≠ 9 := by
        intro h; subst h
        have : 2 * 128 ^ 9 ≤ v * 128 ^ 9 := Nat.mul_le_mul (by omega) (Nat.le_refl _)
        have : (2 : Nat) * 128 ^ 9 = 18446744073709551616 := by decide
        omega
      have hv : v / 128 * 128 ^ (i + 1) + v % 128 * 128 ^ i = v * 128 ^ i := by
        rw [Nat.pow_succ, Nat.mul_comm (128 ^ i) 128, ← Nat.mul_assoc, ← Nat.add_mul]
        congr 1; omega
      unfold wd
      rw [e, if_neg (by omega), if_pos (by omega), if_neg h9, ih (v / 128) (by omega) (i + 1) _ s (by omega) (by omega) (by omega)]
      rw [show v % 128 + 128 - 128 = v % 128 by omega, ← hv]
      congr 2
      omega
theorem wd_back (l : List UInt8) : ∀ (i acc n : Nat) (r : List UInt8), wd i acc l = some (n, r) → ∃ v, n = acc + v * 128 ^ i ∧ l = vint v ++ r ∧ (0 < i → v ≠ 0) := by
  induction l with
  | nil => intro i acc n r h; simp [wd] at h
  | cons b l ih =>
    intro i acc n r h
    unfold wd at h
    have hb := b.toNat_lt
    by_cases h1 : 10 ≤ i
    · rw [if_pos h1] at h; cases h
    · rw [if_neg h1] at h
      by_cases h2 : 128 ≤ b.toNat
      · rw [if_pos h2] at h
        by_cases h3 : i = 9
        · rw [if_pos h3] at h; cases h
        · rw [if_neg h3] at h
          obtain ⟨v, rfl, rfl, hz⟩ := ih _ _ _ _ h
          have hv := hz (by omega)
          refine ⟨b.toNat - 128 + 128 * v, ?_, ?_, by omega⟩
          · rw [Nat.add_mul, Nat.pow_succ, Nat.mul_comm (128 ^ i) 128, ← Nat.mul_assoc, Nat.mul_comm v 128]; omega
          · rw [vint_more (v := b.toNat - 128 + 128 * v) (by omega), show (b.toNat - 128 + 128 * v) % 128 + 128 = b.toNat by omega, show (b.toNat - 128 + 128 * v) / 128 = v by omega, UInt8.ofNat_toNat]; rfl
      · rw [if_neg h2] at h
        by_cases h3 : b.toNat = 0 ∧ 0 < i ∨ i = 9 ∧ 1 < b.toNat
        · rw [if_pos h3] at h; cases h
        · rw [if_neg h3] at h
          simp only [Option.some.injEq, Prod.mk.injEq] at h
          obtain ⟨rfl, rfl⟩ := h
          refine ⟨b.toNat, rfl, ?_, by omega⟩
          rw [vint_small (by omega), UInt8.ofNat_toNat]; rfl
theorem wordS_vint (v : Nat) (s : List UInt8) (h : v < 18446744073709551616) : wordS (some (vint v ++ s)) = (v, some s) := by
  unfold wordS
  simp only
  rw [wd_vint v 0 0 s (by omega) (by omega) (by omega)]
  simp
theorem varS_vint (v : Nat) (s : List UInt8) (h : v ≤ 9223372036854775807) : varS (some (vint v ++ s)) = (v, some s) := by
  unfold varS
  rw [wordS_vint v s (by omega), if_neg (by simp only; omega)]
theorem zigS_vint (v : Int) (s : List UInt8) (h : -9223372036854775808 ≤ v ∧ v ≤ 9223372036854775807) : zigS (some (vint (zz v) ++ s)) = (v, some s) := by
  unfold zigS
  rw [wordS_vint _ s (zz_range v h), unzz_zz]
theorem wordS_back (l r : List UInt8) (h : (wordS (some l)).2 = some r) : l = vint (wordS (some l)).1 ++ r := by
  unfold wordS at h ⊢
  simp only at h ⊢
  cases hw : wd 0 0 l with
  | none => rw [hw] at h; cases h
  | some p =>
    obtain ⟨v, r'⟩ := p
    rw [hw] at h
    simp only [Option.some.injEq] at h
    subst h
    obtain ⟨v', e, rfl, _⟩ := wd_back l _ _ _ _ hw
    simp at e
    subst e
    rfl
theorem varS_back (l r : List UInt8) (h : (varS (some l)).2 = some r) : l = vint (varS (some l)).1 ++ r ∧ (varS (some l)).1 ≤ 9223372036854775807 := by
  unfold varS at h ⊢
  by_cases hb : 9223372036854775807 < (wordS (some l)).1
  · rw [if_pos hb] at h; cases h
  · rw [if_neg hb] at h ⊢
    exact ⟨wordS_back l r h, by omega⟩
theorem zigS_back (l r : List UInt8) (h : (zigS (some l)).2 = some r) : l = vint (zz (zigS (some l)).1) ++ r := by
  unfold zigS at h ⊢
  simp only at h ⊢
  rw [zz_unzz]
  exact wordS_back l r h
/-- What was read stands in front. -/
theorem front_of {l a r : List UInt8} (h : l = a ++ r) : str (l.take (l.length - r.length)) = str a := by subst h; simp

theorem ris_loop (l : List Int) : ∀ (last : Int) (t s : List UInt8), -1 ≤ last → last ≤ 9223372036854775807 → (∀ x ∈ l, x ≤ 9223372036854775807) → risb last l = some t → ∃ z, rowL Prod.fst risStep l.length (some (t ++ s), last) = (l, (some s, z)) := by
  induction l with
  | nil => intro last t s _ _ _ h; simp [risb] at h; subst h; exact ⟨last, rfl⟩
  | cons v l ih =>
    intro last t s h0 h1 hl h
    unfold risb at h
    by_cases hv : v ≤ last
    · rw [if_pos hv] at h; cases h
    · rw [if_neg hv] at h
      obtain ⟨t', ht, rfl⟩ := Option.map_eq_some_iff.1 h
      have hvm := hl v List.mem_cons_self
      obtain ⟨z, hz⟩ := ih v t' s (by omega) hvm (fun x hx => hl x (List.mem_cons_of_mem _ hx)) ht
      have hst : risStep (some (vint (v - last - 1).toNat ++ t' ++ s), last) = (v, (some (t' ++ s), v)) := by
        unfold risStep
        simp only
        rw [List.append_assoc, varS_vint _ _ (by omega), if_neg (by simp only; omega)]
        have e : last + (((v - last - 1).toNat : Int) + 1) = v := by omega
        rw [e]
      refine ⟨z, ?_⟩
      rw [List.length_cons, rowL_go (rs := Prod.fst) (s := (some (vint (v - last - 1).toNat ++ t' ++ s), last)) (r := vint (v - last - 1).toNat ++ t' ++ s) _ rfl, hst, hz]
theorem risR_back (l : List Int) (t s : List UInt8) (hl : ∀ x ∈ l, x ≤ 9223372036854775807) (hn : l.length ≤ 1000000000000) (h : risS l = some t) : risR (some (t ++ s)) l.length = (l, some s) := by
  unfold risS at h
  obtain ⟨t', ht, rfl⟩ := Option.map_eq_some_iff.1 h
  unfold risR
  simp only
  obtain ⟨z, hz⟩ := ris_loop l (-1) t' s (by omega) (by omega) hl ht
  rw [List.append_assoc, varS_vint _ _ (by omega)]
  simp only
  rw [if_neg (by omega), rowS_some hz rfl]

theorem b8_bit : ∀ (c : Fin 8) (a0 a1 a2 a3 a4 a5 a6 a7 : Bool), (a0.toNat + 2 * a1.toNat + 4 * a2.toNat + 8 * a3.toNat + 16 * a4.toNat + 32 * a5.toNat + 64 * a6.toNat + 128 * a7.toNat).testBit c.val = [a0, a1, a2, a3, a4, a5, a6, a7].getD c.val false := by decide +kernel
theorem byteOf_bit (F : Nat → Bool) (j c : Nat) (h : c < 8) : (byteOf F j).testBit c = F (8 * j + c) := by
  have := b8_bit ⟨c, h⟩ (F (8 * j)) (F (8 * j + 1)) (F (8 * j + 2)) (F (8 * j + 3)) (F (8 * j + 4)) (F (8 * j + 5)) (F (8 * j + 6)) (F (8 * j + 7))
  unfold byteOf
  refine this.trans ?_
  match c, h with
  | 0, _ => rfl
  | 1, _ => rfl
  | 2, _ => rfl
  | 3, _ => rfl
  | 4, _ => rfl
  | 5, _ => rfl
  | 6, _ => rfl
  | 7, _ => rfl
theorem bitAt_fixB (w : Nat) (l : List Int) (p : Nat) (h : p / 8 < (w * l.length + 7) / 8) : bitAt (fixB w l) p = (decide (p < w * l.length) && bitsW w l p) := by
  unfold bitAt
  rw [List.getD_eq_getElem?_getD, fixB_get w l (p / 8) h]
  simp only [Option.getD_some]
  have e : ∀ F, (UInt8.ofNat (byteOf F (p / 8))).toNat = byteOf F (p / 8) := by intro F; rw [UInt8.toNat_ofNat']; have := byteOf_lt F (p / 8); omega
  rw [e, byteOf_bit _ _ _ (by omega), show 8 * (p / 8) + p % 8 = p by omega]
theorem mod_pow_succ (x i : Nat) : x % 2 ^ (i + 1) = x % 2 ^ i + (x.testBit i).toNat * 2 ^ i := by
  rw [Nat.pow_succ, Nat.mod_mul, Nat.toNat_testBit, Nat.mul_comm (2 ^ i)]
theorem numAt_fixB (w : Nat) (l : List Int) (k : Nat) (hk : k < l.length) : ∀ m, m ≤ w → numAt (fixB w l) (w * k) m = (l[k]).toNat % 2 ^ m := by
  intro m
  induction m with
  | zero => intro _; simp [numAt, Nat.mod_one]
  | succ m ih =>
    intro hm
    have hA : w * k + w ≤ w * l.length := by
      have : w * (k + 1) ≤ w * l.length := Nat.mul_le_mul (Nat.le_refl _) hk
      rw [Nat.mul_add] at this; omega
    rw [numAt, ih (by omega), bitAt_fixB w l _ (by omega), decide_eq_true (by omega), Bool.true_and, bitsW_at w l k m hk (by omega), mod_pow_succ]
theorem fixR_back (w : Int) (l : List Int) (t s : List UInt8) (hn : l.length ≤ 65536) (h : fixS w l = some t) : fixR (some (t ++ s)) w l.length = (l, some s) := by
  unfold fixS at h
  by_cases hw : w < 0 ∨ 32 < w
  · rw [if_pos hw] at h; cases h
  · rw [if_neg hw] at h
    obtain ⟨wn, rfl⟩ := Int.eq_ofNat_of_zero_le (show 0 ≤ w by omega)
    rw [Int.toNat_natCast] at h
    by_cases hok : fixOk wn l = true
    · rw [if_pos hok] at h
      simp only [Option.some.injEq] at h
      subst h
      have hlen := fixB_length wn l
      have e1 : ((wn : Int) * (l.length : Int) + 7) / 8 = ((fixB wn l).length : Int) := by rw [hlen]; simp
      have e2 : bytesS (some (fixB wn l ++ s)) (((wn : Int) * (l.length : Int) + 7) / 8) = (fixB wn l, some s) := by
        rw [e1]
        unfold bytesS
        simp only
        rw [if_neg (by simp; omega), Int.toNat_natCast, List.take_left, List.drop_left]
      have e3 : ((wn : Int) * (l.length : Int)).toNat = wn * l.length := by rw [← Int.natCast_mul, Int.toNat_natCast]
      have hp : padBad (fixB wn l) (wn * l.length) = false := by
        rw [Bool.eq_false_iff]
        intro hc
        obtain ⟨p, h1, h2, h3⟩ := (padBad_iff _ _ hlen).1 hc
        rw [bitAt_fixB wn l p (by rw [hlen] at h2; omega), decide_eq_false (by omega)] at h3
        cases h3
      unfold fixR
      rw [if_neg (by omega), e2]
      simp only
      rw [e3, hp]
      simp only [Int.toNat_natCast, Bool.false_eq_true, if_false, Prod.mk.injEq, and_true]
      apply List.ext_getElem
      · simp
      · intro k h1 h2
        simp only [List.getElem_map, List.getElem_range]
        rw [numAt_fixB wn l k h2 wn (Nat.le_refl _)]
        unfold fixOk at hok
        have := List.all_eq_true.1 hok l[k] (List.getElem_mem h2)
        rw [Bool.and_eq_true] at this
        have h3 := of_decide_eq_true this.1
        have h4 := of_decide_eq_true this.2
        have h5 : ((2 : Int) ^ wn) = ((2 ^ wn : Nat) : Int) := by simp
        rw [h5] at h4
        rw [Nat.mod_eq_of_lt (by omega)]
        omega
    · rw [if_neg hok] at h; cases h
end Go.Proofs.Ytjegohibpojneaa
