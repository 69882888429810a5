import Derived.Test.YtpgbnjneoejebaaFuAwake
import Derived.Test.YtpgbnjneoejebaaFuSpec
set_option linter.unusedVariables false
set_option linter.unusedSimpArgs false
namespace Go.Proofs.Ytpgbnjneoejebaa
open Go.RowKit

/-! plain: FuseTurns -/
theorem asked_comm (x y : List (Int × Int)) (ok : Bool) (k : Int) : askedF y x ok k = askedF x y ok k := by
  unfold askedF
  by_cases h : RightF x ∧ RightF y
  · rw [if_pos h, if_pos ⟨h.2, h.1⟩]
  · rw [if_neg h, if_neg (fun g => h ⟨g.2, g.1⟩)]
theorem okW_comm (a b : Int) : okW b a = okW a b := by
  unfold okW
  cases decide (0 ≤ a) <;> cases decide (a ≤ 1000000) <;> cases decide (0 ≤ b) <;> cases decide (b ≤ 1000000) <;> cases decide (0 < a) <;> cases decide (0 < b) <;> rfl
theorem asked_more (x y : List (Int × Int)) (ok : Bool) (k : Int) (h : 1 ≤ k ∧ k ≤ 999) : askedF x y ok (k + 1) = askedF x y ok k := by
  unfold askedF
  have e : (ok = true ∧ 1 ≤ k + 1 ∧ k + 1 ≤ 1000) ↔ (ok = true ∧ 1 ≤ k ∧ k ≤ 1000) := ⟨fun g => ⟨g.1, by omega⟩, fun g => ⟨g.1, by omega⟩⟩
  simp only [e]
theorem fuR_turn {x y : List (Int × Int)} {B C : Nat → Int → QV} {k e : Int} {l m : List VP} (h : FuR x y B C k e l) (g : FuR y x C B k e m) : m = l := by
  by_cases h0 : e = 0
  · obtain ⟨F, f1, rfl⟩ := h.1 h0
    obtain ⟨G, g1, rfl⟩ := g.1 h0
    rw [fu_turn f1 g1]
  · rw [h.2 h0, g.2 h0]
theorem fuR_more {x y : List (Int × Int)} {B C : Nat → Int → QV} {k e : Int} {l m : List VP} (h : FuR x y B C k e l) (g : FuR x y B C (k + 1) e m) (hk : 0 ≤ k) : m.take l.length = l ∧ l.length ≤ m.length := by
  by_cases h0 : e = 0
  · obtain ⟨F, f1, rfl⟩ := h.1 h0
    obtain ⟨G, g1, rfl⟩ := g.1 h0
    rw [fu_uniq f1 g1]
    have l1 := bestG_len k G
    have l2 := bestG_len (k + 1) G
    refine ⟨?_, by omega⟩
    unfold bestG at *
    rw [List.take_take, l1]
    by_cases h2 : k.toNat ≤ G.length
    · rw [show min (min k.toNat G.length) (k + 1).toNat = k.toNat by omega]
    · have hs := sortG_len G
      rw [List.take_of_length_le (by omega), List.take_of_length_le (by omega)]
  · rw [h.2 h0, g.2 h0]
    exact ⟨rfl, Nat.le_refl _⟩
theorem fuR_len {x y : List (Int × Int)} {B C : Nat → Int → QV} {k e : Int} {l : List VP} (h : FuR x y B C k e l) : l.length ≤ x.length + y.length := by
  by_cases h0 : e = 0
  · obtain ⟨F, f1, rfl⟩ := h.1 h0
    have := f1.2.1
    have := bestG_len k F
    omega
  · rw [h.2 h0]; simp
theorem fuR_alone {x : List (Int × Int)} {c k e : Int} {l : List VP} (h : FuR x [] (rkB c) (rkB c) k e l) (h0 : e = 0) (ha : askedF x [] (okC c) k = e) :
    (1 ≤ c ∧ c ≤ 1000000) ∧ x.length ≤ 1000 ∧ l.length = min k.toNat x.length ∧ ∀ p (hp : p < l.length) (hx : p < x.length), l[p].1 = x[p].1 ∧ vb l[p] = 1 ∧ vc l[p] = c + p + 1 := by
  subst h0
  obtain ⟨r1, r2, r3, r4⟩ := asked_zero.1 ha
  have hc : 1 ≤ c ∧ c ≤ 1000000 := by unfold okC at r3; simp at r3; exact r3
  obtain ⟨F, f1, rfl⟩ := h.1 rfl
  have hs := alone_sort f1 r1.1 hc r1.2.2
  have hl : (bestG k F).length = min k.toNat x.length := by rw [bestG_len, ← sortG_len F, hs, alone_len]
  refine ⟨hc, r1.2.2, hl, fun p hp hx => ?_⟩
  have e1 : (bestG k F)[p] = (x[p].1, rkB c (p + 1) x[p].2) := by
    have h1 : (bestG k F)[p] = (sortG F)[p]'(by rw [hs, alone_len]; exact hx) := List.getElem_take (h := show p < (List.take k.toNat (sortG F)).length from hp)
    have h2 : (sortG F)[p]'(by rw [hs, alone_len]; exact hx) = (aloneP c x)[p]'(by rw [alone_len]; exact hx) := by simp only [hs]
    rw [h1, h2]
    exact alone_at c x p hx
  rw [e1]
  have hv := rkB_val c (p + 1) x[p].2 hc (by have := r1.2.2; omega)
  obtain ⟨m1, m2⟩ := mkRat_unit (c + ((p + 1 : Nat) : Int)).toNat (by omega)
  refine ⟨rfl, ?_, ?_⟩
  · show (rkB c (p + 1) x[p].2).1.num = 1
    rw [hv, m1]
  · show (((rkB c (p + 1) x[p].2).1.den : Nat) : Int) = c + p + 1
    rw [hv, m2]; omega
/-- The beginning of a row of values. -/
theorem SlV.low {w : World} {ad : Option Addr} {n c m : Nat} {l : List VP} (h : SlV w (.slice ad n c) l) (hm : m ≤ l.length) : SlV w (.slice ad m c) (l.take m) := by
  obtain ⟨ad', c', e, h1, h2, h3, h4⟩ := h
  simp only [Value.slice.injEq] at e
  obtain ⟨rfl, rfl, rfl⟩ := e
  have hl : (l.take m).length = m := by simp; omega
  refine ⟨ad, c, by rw [hl], by omega, h2, h3, fun h0 => ?_⟩
  obtain ⟨b, off, rfl, hc⟩ := h4 (by omega)
  exact ⟨b, off, rfl, fun i hi => by rw [List.getElem_take]; exact hc i (by omega)⟩
end Go.Proofs.Ytpgbnjneoejebaa
