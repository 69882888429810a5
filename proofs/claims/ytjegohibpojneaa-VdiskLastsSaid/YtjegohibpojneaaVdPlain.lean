import Derived.Test.YtjegohibpojneaaVdSpec
set_option linter.unusedVariables false
set_option linter.unusedSimpArgs false
namespace Go.Proofs.Ytjegohibpojneaa
open Go.RowKit

/-! entries by rising keys, plain -/
theorem bb_ne {a b : List UInt8} (h : bytesBefore a b = true) : a ≠ b := by
  intro e; subst e; rw [WideAt.bytes_irrefl] at h; cases h
theorem bb_asymm {a b : List UInt8} (h : bytesBefore a b = true) : bytesBefore b a = false := by
  cases hc : bytesBefore b a with
  | false => rfl
  | true => exact absurd (WideShapes.bytes_trans _ _ _ h hc) (by rw [WideAt.bytes_irrefl]; simp)
theorem bb_total {a b : List UInt8} (hne : a ≠ b) (h : bytesBefore a b = false) : bytesBefore b a = true := by
  rcases WideAt.bytes_total a b hne with h1 | h1
  · rw [h] at h1; cases h1
  · exact h1
section
variable {α : Type}
theorem mem_delS {F : EnS α} {k : List UInt8} {p : List UInt8 × α} : p ∈ delS F k ↔ p ∈ F ∧ p.1 ≠ k := by
  unfold delS; rw [List.mem_filter]; simp
theorem sort_delS {F : EnS α} (h : SortS F) (k : List UInt8) : SortS (delS F k) := h.sublist List.filter_sublist
theorem mem_insS {x p : List UInt8 × α} : ∀ {F : EnS α}, p ∈ insS x F ↔ p = x ∨ p ∈ F
  | [] => by unfold insS; simp
  | y :: r => by
    unfold insS
    split
    · simp
    · rw [List.mem_cons, mem_insS (F := r), List.mem_cons]
      constructor
      · rintro (h | h | h)
        · exact .inr (.inl h)
        · exact .inl h
        · exact .inr (.inr h)
      · rintro (h | h | h)
        · exact .inr (.inl h)
        · exact .inl h
        · exact .inr (.inr h)
theorem sort_insS {x : List UInt8 × α} : ∀ {F : EnS α}, SortS F → (∀ p ∈ F, p.1 ≠ x.1) → SortS (insS x F)
  | [], _, _ => List.pairwise_singleton _ _
  | y :: r, h, hne => by
    obtain ⟨h1, h2⟩ := List.pairwise_cons.1 h
    unfold insS
    split
    · rename_i hb
      refine List.pairwise_cons.2 ⟨fun p hp => ?_, h⟩
      rcases List.mem_cons.1 hp with rfl | hp
      · exact hb
      · exact WideShapes.bytes_trans _ _ _ hb (h1 p hp)
    · rename_i hb
      refine List.pairwise_cons.2 ⟨fun p hp => ?_, sort_insS h2 (fun p hp => hne p (List.mem_cons_of_mem _ hp))⟩
      rcases mem_insS.1 hp with rfl | hp
      · exact bb_total (fun e => hne y List.mem_cons_self e.symm) (by simpa using hb)
      · exact h1 p hp
theorem sort_putS {F : EnS α} (h : SortS F) (k : List UInt8) (v : α) : SortS (putS F k v) :=
  sort_insS (sort_delS h k) (fun p hp => (mem_delS.1 hp).2)
theorem getS_iff {F : EnS α} (h : SortS F) {k : List UInt8} {x : α} : getS F k = some x ↔ (k, x) ∈ F := ⟨has_getS, getS_has h⟩
theorem getS_ext {F : EnS α} (h : SortS F) {G : EnS α} (hG : SortS G) {k k' : List UInt8} (hm : ∀ x, (k, x) ∈ F ↔ (k', x) ∈ G) : getS F k = getS G k' := by
  cases hc : getS F k with
  | some x => exact ((getS_iff hG).2 ((hm x).1 (has_getS hc))).symm
  | none =>
    cases hd : getS G k' with
    | none => rfl
    | some x =>
      have := (getS_iff h).2 ((hm x).2 (has_getS hd))
      rw [hc] at this; cases this
theorem getS_put {F : EnS α} (h : SortS F) (k k' : List UInt8) (v : α) : getS (putS F k v) k' = if k' = k then some v else getS F k' := by
  split
  · rename_i e
    subst e
    exact (getS_iff (sort_putS h _ v)).2 (mem_insS.2 (.inl rfl))
  · rename_i e
    refine getS_ext (sort_putS h k v) h (fun x => ?_)
    unfold putS
    rw [mem_insS, mem_delS]
    constructor
    · rintro (h1 | h1)
      · injection h1 with h1; exact absurd h1 e
      · exact h1.1
    · intro h1; exact .inr ⟨h1, e⟩
theorem getS_del {F : EnS α} (h : SortS F) (k k' : List UInt8) : getS (delS F k) k' = if k' = k then none else getS F k' := by
  split
  · rename_i e
    subst e
    cases hc : getS (delS F k') k' with
    | none => rfl
    | some x => exact absurd rfl (mem_delS.1 (has_getS hc)).2
  · rename_i e
    refine getS_ext (sort_delS h k) h (fun x => ?_)
    rw [mem_delS]
    exact ⟨fun h1 => h1.1, fun h1 => ⟨h1, e⟩⟩
theorem delS_id : ∀ {F : EnS α} {k : List UInt8}, (∀ p ∈ F, p.1 ≠ k) → delS F k = F := by
  intro F k h
  unfold delS
  exact List.filter_eq_self.2 (fun p hp => by simpa using h p hp)
/-- A key that is there: its element is changed where it stands. -/
theorem putS_mem (k : List UInt8) (v : α) : ∀ {F : EnS α}, SortS F → (∃ x, (k, x) ∈ F) → putS F k v = F.map fun p => if p.1 = k then (p.1, v) else p
  | [], _, h => by obtain ⟨x, h⟩ := h; simp at h
  | y :: r, h, hm => by
    obtain ⟨h1, h2⟩ := List.pairwise_cons.1 h
    by_cases e : y.1 = k
    · have hr : ∀ p ∈ r, p.1 ≠ k := fun p hp e2 => bb_ne (h1 p hp) (e.trans e2.symm)
      have hd : delS (y :: r) k = r := by
        unfold delS
        rw [List.filter_cons, if_neg (by simpa using e)]
        exact delS_id hr
      have hmap : r.map (fun p => if p.1 = k then (p.1, v) else p) = r := by
        rw [List.map_congr_left (g := id) (fun p hp => by rw [if_neg (hr p hp)]; rfl), List.map_id]
      unfold putS
      rw [hd, List.map_cons, if_pos e, hmap, e]
      cases r with
      | nil => rfl
      | cons z s =>
        unfold insS
        rw [if_pos (by have := h1 z List.mem_cons_self; rw [e] at this; exact this)]
    · obtain ⟨x, hx⟩ := hm
      have hx : (k, x) ∈ r := by
        rcases List.mem_cons.1 hx with h | h
        · rw [← h] at e; exact absurd rfl e
        · exact h
      have hd : delS (y :: r) k = y :: delS r k := by
        unfold delS
        rw [List.filter_cons, if_pos (by simpa using e)]
      have ih := putS_mem k v h2 ⟨x, hx⟩
      unfold putS at ih ⊢
      rw [hd, List.map_cons, if_neg e, ← ih]
      conv => lhs; unfold insS
      rw [if_neg (by rw [bb_asymm (h1 (k, x) hx)]; simp)]
theorem len_insS (x : List UInt8 × α) : ∀ F : EnS α, (insS x F).length = F.length + 1
  | [] => rfl
  | y :: r => by
    unfold insS
    split
    · rfl
    · rw [List.length_cons, len_insS x r]; rfl
theorem sum_insS (f : α → Nat) (x : List UInt8 × α) : ∀ F : EnS α, ((insS x F).map fun p => f p.2).sum = f x.2 + (F.map fun p => f p.2).sum
  | [] => by simp [insS]
  | y :: r => by
    unfold insS
    split
    · simp
    · rw [List.map_cons, List.sum_cons, sum_insS f x r, List.map_cons, List.sum_cons]; omega
theorem sum_delS (f : α → Nat) (k : List UInt8) : ∀ {F : EnS α}, SortS F → ((delS F k).map fun p => f p.2).sum + ((getS F k).map f).getD 0 = (F.map fun p => f p.2).sum ∧ (delS F k).length + (if (getS F k).isSome then 1 else 0) = F.length
  | [], _ => by simp [delS, getS]
  | y :: r, h => by
    obtain ⟨h1, h2⟩ := List.pairwise_cons.1 h
    by_cases e : y.1 = k
    · have hr : ∀ p ∈ r, p.1 ≠ k := fun p hp e2 => bb_ne (h1 p hp) (e.trans e2.symm)
      have hd : delS (y :: r) k = r := by
        unfold delS
        rw [List.filter_cons, if_neg (by simpa using e)]
        exact delS_id hr
      have hg : getS (y :: r) k = some y.2 := by
        unfold getS
        rw [List.find?_cons, show (y.1 == k) = true by simpa using e]; rfl
      rw [hd, hg]
      simp
      omega
    · have hd : delS (y :: r) k = y :: delS r k := by
        unfold delS
        rw [List.filter_cons, if_pos (by simpa using e)]
      have hg : getS (y :: r) k = getS r k := by
        unfold getS
        rw [List.find?_cons, show (y.1 == k) = false by simpa using e]
      obtain ⟨i1, i2⟩ := sum_delS f k h2
      rw [hd, hg]
      simp only [List.map_cons, List.sum_cons, List.length_cons]
      omega
theorem sum_putS (f : α → Nat) (k : List UInt8) (v : α) {F : EnS α} (h : SortS F) : ((putS F k v).map fun p => f p.2).sum + ((getS F k).map f).getD 0 = (F.map fun p => f p.2).sum + f v ∧ (putS F k v).length + (if (getS F k).isSome then 1 else 0) = F.length + 1 := by
  obtain ⟨i1, i2⟩ := sum_delS f k h
  unfold putS
  rw [sum_insS, len_insS]
  simp only
  omega
end
end Go.Proofs.Ytjegohibpojneaa
