import Derived.Test.YtjegohibpojneaaTopOffer
set_option linter.unusedVariables false
set_option linter.unusedSimpArgs false
namespace Go.Proofs.Ytjegohibpojneaa
open Go.RowKit

theorem bestP_perm {a b : List (Int × Int)} (K : Int) (h : a.Perm b) : bestP K a = bestP K b := by unfold bestP; rw [sortP_of_perm h]
theorem bestP_take (K M : Int) (l : List (Int × Int)) (h : K ≤ M) : (bestP M l).take (bestP K l).length = bestP K l := by
  rw [bestP_len]
  unfold bestP
  rw [List.take_take]
  rcases Nat.le_total K.toNat l.length with h1 | h1
  · rw [Nat.min_eq_left h1, Nat.min_eq_left (by omega)]
  · rw [Nat.min_eq_right h1, List.take_of_length_le (l := sortP l) (i := K.toNat) (by rw [sortP_len]; exact h1), List.take_of_length_le (by rw [sortP_len]; omega)]
theorem countP_low (z : Int × Int) : ∀ (s : List (Int × Int)), (∀ e ∈ s, betP e z = false) → s.countP (fun x => betP x z) = 0
  | [], _ => rfl
  | e :: r, h => by rw [List.countP_cons_of_neg (by rw [h e (by simp)]; simp), countP_low z r (fun e he => h e (by simp [he]))]
/-- Fewer than are kept are better than the worst that is kept. -/
theorem best_count (K : Int) (l : List (Int × Int)) (h0 : 0 < (bestP K l).length) : l.countP (fun x => betP x (lastT (bestP K l))) < (bestP K l).length := by
  rw [← (sortP_perm l).countP_eq]
  have hl := bestP_len K l
  have hs := sortP_sort l
  obtain ⟨n, hn⟩ : ∃ n, n = (bestP K l).length - 1 := ⟨_, rfl⟩
  have hns : n < (sortP l).length := by rw [sortP_len]; omega
  have hz : lastT (bestP K l) = (sortP l)[n] := by
    unfold lastT
    rw [← hn, hp_eq _ _ (by omega)]
    unfold bestP
    rw [List.getElem_take]
  rw [hz]
  have e1 : sortP l = (sortP l).take n ++ (sortP l).drop n := (List.take_append_drop n _).symm
  have h1 : ((sortP l).drop n).countP (fun x => betP x (sortP l)[n]) = 0 := by
    refine countP_low _ _ (fun e he => ?_)
    obtain ⟨i, hi, rfl⟩ := List.mem_iff_getElem.1 he
    rw [List.getElem_drop]
    by_cases hi0 : i = 0
    · subst hi0; exact betP_self _
    · rw [List.length_drop] at hi
      exact (List.pairwise_iff_getElem.1 hs) n (n + i) hns (by omega) (by omega)
  have h2 : ((sortP l).take n).countP (fun x => betP x (sortP l)[n]) ≤ n := by
    have := List.countP_le_length (p := fun x => betP x (sortP l)[n]) (l := (sortP l).take n)
    rw [List.length_take] at this
    omega
  have h3 : (sortP l).countP (fun x => betP x (sortP l)[n]) = ((sortP l).take n).countP (fun x => betP x (sortP l)[n]) + ((sortP l).drop n).countP (fun x => betP x (sortP l)[n]) := by
    rw [← List.countP_append, List.take_append_drop]
  omega
theorem best_sorted (K : Int) (l : List (Int × Int)) (i : Nat) (h : i + 1 < (bestP K l).length) : betP (bestP K l)[i + 1] (bestP K l)[i] = false :=
  (List.pairwise_iff_getElem.1 (bestP_sort K l)) i (i + 1) (by omega) h (by omega)
end Go.Proofs.Ytjegohibpojneaa
