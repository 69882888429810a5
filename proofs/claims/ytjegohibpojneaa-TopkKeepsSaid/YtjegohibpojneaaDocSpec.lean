import Derived.Test.YtjegohibpojneaaPackRound
set_option linter.unusedVariables false
set_option linter.unusedSimpArgs false
namespace Go.Proofs.Ytjegohibpojneaa
open Go.RowKit

/-! plain: documents' changes -/
structure Chg where
  doc : Int
  terms : List (Int × Int)
  v : List Int
  tags : Int
  gone : Bool
def termBad (t : Int × Int) : Bool := decide (t.1 < 0) || decide (1048575 < t.1) || decide (t.2 < 1) || decide (65535 < t.2)
def vecB (v : List Int) : Bool := decide (v.length = 8) && v.all fun x => decide (-127 ≤ x) && decide (x ≤ 127)
def emptyB (c : Chg) : Bool := c.terms.isEmpty && c.v.isEmpty && decide (c.tags = 0)
def rangeB (c : Chg) : Bool := decide (c.doc < 0) || decide (2147483647 < c.doc) || decide (c.tags < 0) || decide (255 < c.tags) || c.terms.any termBad
def rightD (c : Chg) : Int :=
  if rangeB c = true then 1
  else if 64 < c.terms.length then 3
  else if ¬ (c.terms.map (·.1)).Nodup then 9
  else if ¬ (c.terms.map (·.1)).Pairwise (· < ·) ∨ (c.gone = true ∧ emptyB c = false) ∨ (c.gone = false ∧ vecB c.v = false) then 2
  else 0
def docBytes (c : Chg) : List UInt8 :=
  vint c.doc.toNat ++ (if c.gone then [1] else 0 :: ((risS (c.terms.map (·.1))).getD [] ++ (fixB 16 (c.terms.map (·.2)) ++ fixB 8 (c.v.map (· + 128) ++ [c.tags]))))
def docS (c : Chg) : Option (List UInt8) := if rightD c = 0 then some (docBytes c) else none

theorem nd_snoc (l : List Int) (x : Int) : (l ++ [x]).Nodup ↔ l.Nodup ∧ x ∉ l := by
  rw [List.nodup_append]
  constructor
  · rintro ⟨h1, _, h3⟩
    exact ⟨h1, fun h => h3 x h x (by simp) rfl⟩
  · rintro ⟨h1, h2⟩
    refine ⟨h1, by simp, fun a ha b hb e => ?_⟩
    simp at hb
    subst hb
    subst e
    exact h2 ha
theorem pw_snoc (l : List Int) (x : Int) : (l ++ [x]).Pairwise (· < ·) ↔ l.Pairwise (· < ·) ∧ ∀ y ∈ l, y < x := by
  rw [List.pairwise_append]
  constructor
  · rintro ⟨h1, _, h3⟩
    exact ⟨h1, fun y hy => h3 y hy x (by simp)⟩
  · rintro ⟨h1, h2⟩
    refine ⟨h1, by simp, fun a ha b hb => ?_⟩
    simp at hb
    subst hb
    exact h2 a ha
theorem pw_adj (l : List Int) (y x : Int) : (l ++ [y] ++ [x]).Pairwise (· < ·) ↔ (l ++ [y]).Pairwise (· < ·) ∧ y < x := by
  rw [pw_snoc (l ++ [y]) x]
  constructor
  · rintro ⟨h1, h2⟩
    exact ⟨h1, h2 y (by simp)⟩
  · rintro ⟨h1, h2⟩
    refine ⟨h1, fun z hz => ?_⟩
    rcases List.mem_append.1 hz with h | h
    · have := ((pw_snoc l y).1 h1).2 z h; omega
    · simp at h; omega
theorem take_snocI {α : Type} (l : List α) (k : Nat) (h : k < l.length) : l.take (k + 1) = l.take k ++ [l[k]] := (List.take_append_getElem h).symm
theorem pw_nodup {l : List Int} (h : l.Pairwise (· < ·)) : l.Nodup := h.imp (fun {a b} h => by omega)
/-- One more of a row: rising by its neighbour. -/
theorem pw_step (l : List Int) (k : Nat) (h : k < l.length) : decide ((l.take (k + 1)).Pairwise (· < ·)) = (decide ((l.take k).Pairwise (· < ·)) && (decide (k = 0) || decide (l.getD (k - 1) 0 < l[k]))) := by
  rw [Bool.eq_iff_iff, Bool.and_eq_true, Bool.or_eq_true, decide_eq_true_iff, decide_eq_true_iff, decide_eq_true_iff, decide_eq_true_iff, take_snocI l k h]
  cases k with
  | zero => simp
  | succ j =>
    rw [take_snocI l j (by omega), pw_adj]
    rw [List.getD_eq_getElem?_getD, List.getElem?_eq_getElem (by omega)]
    simp
theorem nd_step (l : List Int) (k : Nat) (h : k < l.length) : decide (¬ (l.take (k + 1)).Nodup) = (decide (¬ (l.take k).Nodup) || decide (l[k] ∈ l.take k)) := by
  rw [Bool.eq_iff_iff, Bool.or_eq_true, decide_eq_true_iff, decide_eq_true_iff, decide_eq_true_iff, take_snocI l k h, nd_snoc]
  by_cases h1 : (l.take k).Nodup <;> by_cases h2 : l[k] ∈ l.take k <;> simp [h1, h2]
/-- A rising row has bytes. -/
theorem risb_some : ∀ (l : List Int) (last : Int), l.Pairwise (· < ·) → (∀ x ∈ l, last < x) → (risb last l).isSome = true
  | [], _, _, _ => rfl
  | x :: l, last, h, h2 => by
    have hx := h2 x (by simp)
    have ih := risb_some l x (List.pairwise_cons.1 h).2 (fun y hy => (List.pairwise_cons.1 h).1 y hy)
    unfold risb
    rw [if_neg (by omega)]
    simpa using ih
end Go.Proofs.Ytjegohibpojneaa
