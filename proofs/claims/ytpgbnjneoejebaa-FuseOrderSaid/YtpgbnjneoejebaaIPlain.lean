import Derived.Test.YtpgbnjneoejebaaIRange
set_option linter.unusedVariables false
set_option linter.unusedSimpArgs false
namespace Go.Proofs.Ytpgbnjneoejebaa
open Go.RowKit

/-! entries by rising int keys, plain -/
section
variable {α : Type}
theorem mem_delI {F : EnI α} {k : Int} {p : Int × α} : p ∈ delI F k ↔ p ∈ F ∧ p.1 ≠ k := by
  unfold delI; rw [List.mem_filter]; simp
theorem sort_delI {F : EnI α} (h : SortI F) (k : Int) : SortI (delI F k) := h.sublist List.filter_sublist
theorem mem_insI {x p : Int × α} : ∀ {F : EnI α}, p ∈ insI x F ↔ p = x ∨ p ∈ F
  | [] => by unfold insI; simp
  | y :: r => by
    unfold insI
    split
    · simp
    · rw [List.mem_cons, mem_insI (F := r), List.mem_cons]
      constructor
      · rintro (h | h | h)
        · exact .inr (.inl h)
        · exact .inl h
        · exact .inr (.inr h)
      · rintro (h | h | h)
        · exact .inr (.inl h)
        · exact .inl h
        · exact .inr (.inr h)
theorem sort_insI {x : Int × α} : ∀ {F : EnI α}, SortI F → (∀ p ∈ F, p.1 ≠ x.1) → SortI (insI x F)
  | [], _, _ => List.pairwise_singleton _ _
  | y :: r, h, hne => by
    obtain ⟨h1, h2⟩ := List.pairwise_cons.1 h
    unfold insI
    split
    · rename_i hb
      have hb : x.1 < y.1 := of_decide_eq_true hb
      refine List.pairwise_cons.2 ⟨fun p hp => ?_, h⟩
      rcases List.mem_cons.1 hp with rfl | hp
      · exact hb
      · have := h1 p hp; omega
    · rename_i hb
      have hb : ¬ x.1 < y.1 := fun h => hb (decide_eq_true h)
      refine List.pairwise_cons.2 ⟨fun p hp => ?_, sort_insI h2 (fun p hp => hne p (List.mem_cons_of_mem _ hp))⟩
      rcases mem_insI.1 hp with rfl | hp
      · have := hne y List.mem_cons_self; omega
      · exact h1 p hp
theorem sort_putI {F : EnI α} (h : SortI F) (k : Int) (v : α) : SortI (putI F k v) := sort_insI (sort_delI h k) (fun p hp => (mem_delI.1 hp).2)
theorem getI_iff {F : EnI α} (h : SortI F) {k : Int} {x : α} : getI F k = some x ↔ (k, x) ∈ F := ⟨has_getI, getI_has h⟩
theorem getI_ext {F : EnI α} (h : SortI F) {G : EnI α} (hG : SortI G) {k k' : Int} (hm : ∀ x, (k, x) ∈ F ↔ (k', x) ∈ G) : getI F k = getI G k' := by
  cases hc : getI F k with
  | some x => exact ((getI_iff hG).2 ((hm x).1 (has_getI hc))).symm
  | none =>
    cases hd : getI G k' with
    | none => rfl
    | some x =>
      have := (getI_iff h).2 ((hm x).2 (has_getI hd))
      rw [hc] at this; cases this
theorem getI_put {F : EnI α} (h : SortI F) (k k' : Int) (v : α) : getI (putI F k v) k' = if k' = k then some v else getI F k' := by
  split
  · rename_i e
    subst e
    exact (getI_iff (sort_putI h _ v)).2 (mem_insI.2 (.inl rfl))
  · rename_i e
    refine getI_ext (sort_putI h k v) h (fun x => ?_)
    unfold putI
    rw [mem_insI, mem_delI]
    constructor
    · rintro (h1 | h1)
      · injection h1 with h1; exact absurd h1 e
      · exact h1.1
    · intro h1; exact .inr ⟨h1, e⟩
theorem len_insI (x : Int × α) : ∀ F : EnI α, (insI x F).length = F.length + 1
  | [] => rfl
  | y :: r => by
    unfold insI
    split
    · rfl
    · rw [List.length_cons, len_insI x r]; rfl
theorem len_putI (k : Int) (v : α) (F : EnI α) : (putI F k v).length ≤ F.length + 1 := by
  unfold putI delI
  rw [len_insI]
  have := List.length_filter_le (fun p : Int × α => !(p.1 == k)) F
  omega
/-- Maps that answer alike are alike. -/
theorem enI_ext : ∀ {F G : EnI α}, SortI F → SortI G → (∀ k, getI F k = getI G k) → F = G
  | [], [], _, _, _ => rfl
  | [], y :: G, _, hG, h => by have := h y.1; rw [(getI_iff hG).2 (show (y.1, y.2) ∈ y :: G from List.mem_cons_self)] at this; cases this
  | x :: F, [], hF, _, h => by have := h x.1; rw [(getI_iff hF).2 (show (x.1, x.2) ∈ x :: F from List.mem_cons_self)] at this; cases this
  | x :: F, y :: G, hF, hG, h => by
    obtain ⟨f1, f2⟩ := List.pairwise_cons.1 hF
    obtain ⟨g1, g2⟩ := List.pairwise_cons.1 hG
    have hx : (x.1, x.2) ∈ y :: G := (getI_iff hG).1 ((h x.1).symm.trans ((getI_iff hF).2 (show (x.1, x.2) ∈ x :: F from List.mem_cons_self)))
    have hy : (y.1, y.2) ∈ x :: F := (getI_iff hF).1 ((h y.1).trans ((getI_iff hG).2 (show (y.1, y.2) ∈ y :: G from List.mem_cons_self)))
    have e : x = y := by
      rcases List.mem_cons.1 hx with h1 | h1
      · exact h1
      · rcases List.mem_cons.1 hy with h2 | h2
        · exact h2.symm
        · have h3 : y.1 < x.1 := g1 _ h1
          have h4 : x.1 < y.1 := f1 _ h2
          omega
    subst e
    refine congrArg (x :: ·) (enI_ext f2 g2 (fun k => ?_))
    by_cases e : k = x.1
    · have n1 : getI F k = none := by
        cases hc : getI F k with
        | none => rfl
        | some v => have : x.1 < k := f1 _ (has_getI hc); omega
      have n2 : getI G k = none := by
        cases hc : getI G k with
        | none => rfl
        | some v => have : x.1 < k := g1 _ (has_getI hc); omega
      rw [n1, n2]
    · have := h k
      unfold getI at this ⊢
      rw [List.find?_cons, List.find?_cons, show (x.1 == k) = false by simpa using fun h => e h.symm] at this
      exact this
end
end Go.Proofs.Ytpgbnjneoejebaa
