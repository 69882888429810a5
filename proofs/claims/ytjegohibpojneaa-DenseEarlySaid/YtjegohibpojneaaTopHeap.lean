import Derived.Test.YtjegohibpojneaaTopSpec
set_option linter.unusedVariables false
set_option linter.unusedSimpArgs false
namespace Go.Proofs.Ytjegohibpojneaa
open Go.RowKit

/-! plain: a heap whose first one is the worst -/
def hp (h : List (Int × Int)) (i : Nat) : Int × Int := h.getD i (0, 0)
theorem hp_eq (h : List (Int × Int)) (i : Nat) (hi : i < h.length) : hp h i = h[i] := by unfold hp; rw [List.getD_eq_getElem?_getD, List.getElem?_eq_getElem hi]; rfl
theorem hp_set (h : List (Int × Int)) (i j : Nat) (x : Int × Int) (hi : i < h.length) : hp (h.set i x) j = if j = i then x else hp h j := by
  unfold hp
  rw [List.getD_eq_getElem?_getD, List.getD_eq_getElem?_getD, List.getElem?_set]
  by_cases e : i = j
  · subst e; rw [if_pos rfl, if_pos hi, if_pos rfl]; rfl
  · rw [if_neg e, if_neg (fun h => e h.symm)]
def swapP (h : List (Int × Int)) (i j : Nat) : List (Int × Int) := (h.set i (hp h j)).set j (hp h i)
theorem swapP_len (h : List (Int × Int)) (i j : Nat) : (swapP h i j).length = h.length := by unfold swapP; simp
theorem swapP_hp (h : List (Int × Int)) (i j k : Nat) (hi : i < h.length) (hj : j < h.length) : hp (swapP h i j) k = if k = j then hp h i else if k = i then hp h j else hp h k := by
  unfold swapP
  rw [hp_set _ _ _ _ (by simpa using hj), hp_set _ _ _ _ hi]
theorem swapP_perm (h : List (Int × Int)) (i j : Nat) (hi : i < h.length) (hj : j < h.length) : (swapP h i j).Perm h := by
  unfold swapP
  rw [hp_eq h i hi, hp_eq h j hj]
  exact List.set_set_perm hi hj
def HeapP (h : List (Int × Int)) : Prop := ∀ j, 0 < j → j < h.length → noP (hp h j) (hp h ((j - 1) / 2))
def UpI (h : List (Int × Int)) (i : Nat) : Prop := (∀ j, 0 < j → j < h.length → j ≠ i → noP (hp h j) (hp h ((j - 1) / 2))) ∧ ∀ j, 0 < j → j < h.length → (j - 1) / 2 = i → 0 < i → noP (hp h j) (hp h ((i - 1) / 2))
theorem up_step (h : List (Int × Int)) (i : Nat) (hi : 0 < i) (hl : i < h.length) (hu : UpI h i) (hb : betP (hp h ((i - 1) / 2)) (hp h i) = true) : UpI (swapP h i ((i - 1) / 2)) ((i - 1) / 2) := by
  obtain ⟨h1, h2⟩ := hu
  have hpl : (i - 1) / 2 < h.length := by omega
  have hpi : (i - 1) / 2 < i := by omega
  obtain ⟨p, hp0⟩ : ∃ p, p = (i - 1) / 2 := ⟨_, rfl⟩
  rw [← hp0] at hb hpl hpi ⊢
  have hn := noP_of hb
  refine ⟨fun j j0 jl jp => ?_, fun j j0 jl jp pp => ?_⟩
  · rw [swapP_len] at jl
    rw [swapP_hp h i p _ hl hpl, swapP_hp h i p _ hl hpl, if_neg jp]
    by_cases hji : j = i
    · subst hji
      rw [if_pos rfl, ← hp0, if_pos rfl]
      exact hn
    · rw [if_neg hji]
      by_cases hc : (j - 1) / 2 = p
      · rw [if_pos hc]
        have := h1 j j0 jl hji
        rw [hc] at this
        exact this.trans hn
      · rw [if_neg hc]
        by_cases hd : (j - 1) / 2 = i
        · rw [if_pos hd]
          have := h2 j j0 jl hd hi
          rw [← hp0] at this
          exact this
        · rw [if_neg hd]
          exact h1 j j0 jl hji
  · rw [swapP_len] at jl
    rw [swapP_hp h i p _ hl hpl, swapP_hp h i p _ hl hpl, if_neg (by omega), if_neg (show ¬ (p - 1) / 2 = p by omega), if_neg (show ¬ (p - 1) / 2 = i by omega)]
    have hpp := h1 p pp hpl (by omega)
    by_cases hji : j = i
    · rw [if_pos hji]; exact hpp
    · rw [if_neg hji]
      have := h1 j j0 jl hji
      rw [jp] at this
      exact this.trans hpp
theorem up_stop (h : List (Int × Int)) (i : Nat) (hu : UpI h i) (hs : i = 0 ∨ noP (hp h i) (hp h ((i - 1) / 2))) : HeapP h := fun j j0 jl => by
  by_cases hji : j = i
  · subst hji
    rcases hs with h | h
    · omega
    · exact h
  · exact hu.1 j j0 jl hji
theorem hp_app (h : List (Int × Int)) (x : Int × Int) (j : Nat) (hj : j < h.length) : hp (h ++ [x]) j = hp h j := by
  rw [hp_eq _ _ (by simp; omega), hp_eq _ _ hj, List.getElem_append_left hj]
theorem up_init (h : List (Int × Int)) (x : Int × Int) (hh : HeapP h) : UpI (h ++ [x]) h.length := by
  refine ⟨fun j j0 jl jn => ?_, fun j j0 jl jn => ?_⟩
  · simp at jl
    rw [hp_app _ _ _ (by omega), hp_app _ _ _ (by omega)]
    exact hh j j0 (by omega)
  · simp at jl; omega
def DownI (h : List (Int × Int)) (i : Nat) : Prop := (∀ j, 0 < j → j < h.length → (j - 1) / 2 ≠ i → noP (hp h j) (hp h ((j - 1) / 2))) ∧ ∀ j, 0 < j → j < h.length → (j - 1) / 2 = i → 0 < i → noP (hp h j) (hp h ((i - 1) / 2))
/-- c is the worst child of i. -/
def WorstC (h : List (Int × Int)) (i c : Nat) : Prop := 0 < c ∧ (c - 1) / 2 = i ∧ ∀ j, 0 < j → j < h.length → (j - 1) / 2 = i → noP (hp h j) (hp h c)
theorem worst_one (h : List (Int × Int)) (i : Nat) (hn : ¬ 2 * i + 2 < h.length) : WorstC h i (2 * i + 1) :=
  ⟨by omega, by omega, fun j j0 jl jp => by obtain rfl : j = 2 * i + 1 := by omega
                                            exact noP_refl _⟩
theorem worst_left (h : List (Int × Int)) (i : Nat) (hb : betP (hp h (2 * i + 1)) (hp h (2 * i + 2)) = false) : WorstC h i (2 * i + 1) :=
  ⟨by omega, by omega, fun j j0 jl jp => by
    rcases (show j = 2 * i + 1 ∨ j = 2 * i + 2 by omega) with rfl | rfl
    · exact noP_refl _
    · exact hb⟩
theorem worst_right (h : List (Int × Int)) (i : Nat) (hb : betP (hp h (2 * i + 1)) (hp h (2 * i + 2)) = true) : WorstC h i (2 * i + 2) :=
  ⟨by omega, by omega, fun j j0 jl jp => by
    rcases (show j = 2 * i + 1 ∨ j = 2 * i + 2 by omega) with rfl | rfl
    · exact noP_of hb
    · exact noP_refl _⟩
theorem down_step (h : List (Int × Int)) (i c : Nat) (hl : c < h.length) (hd : DownI h i) (hw : WorstC h i c) (hb : betP (hp h i) (hp h c) = true) : DownI (swapP h i c) c := by
  obtain ⟨h1, h2⟩ := hd
  obtain ⟨c0, ci, cw⟩ := hw
  have hic : i < c := by omega
  have hil : i < h.length := by omega
  have hn := noP_of hb
  refine ⟨fun j j0 jl jp => ?_, fun j j0 jl jp pp => ?_⟩
  · rw [swapP_len] at jl
    rw [swapP_hp h i c _ hil hl, swapP_hp h i c _ hil hl, if_neg jp]
    by_cases hjc : j = c
    · subst hjc
      rw [if_pos rfl, if_pos ci]
      exact hn
    · rw [if_neg hjc]
      by_cases hji : j = i
      · subst hji
        rw [if_pos rfl, if_neg (by omega)]
        exact h2 c c0 hl ci (by omega)
      · rw [if_neg hji]
        by_cases hpi : (j - 1) / 2 = i
        · rw [if_pos hpi]; exact cw j j0 jl hpi
        · rw [if_neg hpi]; exact h1 j j0 jl hpi
  · rw [swapP_len] at jl
    rw [swapP_hp h i c _ hil hl, swapP_hp h i c _ hil hl, if_neg (by omega), if_neg (show ¬ j = i by omega), ci, if_neg (by omega), if_pos rfl]
    have := h1 j j0 jl (by omega)
    rw [jp] at this
    exact this
theorem down_stop (h : List (Int × Int)) (i c : Nat) (hd : DownI h i) (hw : WorstC h i c) (hs : h.length ≤ 2 * i + 1 ∨ betP (hp h i) (hp h c) = false) : HeapP h := fun j j0 jl => by
  by_cases hp : (j - 1) / 2 = i
  · rcases hs with h3 | h3
    · omega
    · rw [hp]
      exact (hw.2.2 j j0 jl hp).trans h3
  · exact hd.1 j j0 jl hp
theorem down_init (h : List (Int × Int)) (x : Int × Int) (hh : HeapP h) (hl : 0 < h.length) : DownI (h.set 0 x) 0 := by
  refine ⟨fun j j0 jl jp => ?_, fun j j0 jl jp pp => by omega⟩
  rw [List.length_set] at jl
  rw [hp_set _ _ _ _ hl, hp_set _ _ _ _ hl, if_neg (by omega), if_neg jp]
  exact hh j j0 jl
theorem heap_root (h : List (Int × Int)) (hh : HeapP h) : ∀ (n j : Nat), j ≤ n → j < h.length → noP (hp h j) (hp h 0)
  | 0, j, hn, _ => by obtain rfl : j = 0 := by omega
                      exact noP_refl _
  | n + 1, j, hn, hj => by
    by_cases h0 : j = 0
    · subst h0; exact noP_refl _
    · exact (hh j (by omega) hj).trans (heap_root h hh n ((j - 1) / 2) (by omega) (by omega))
theorem insP_last (x z : Int × Int) (hb : betP x z = true) : ∀ l, insP x (l ++ [z]) = insP x l ++ [z]
  | [] => by show insP x [z] = [x] ++ [z]; unfold insP; rw [if_pos hb]; rfl
  | e :: r => by
    show insP x (e :: (r ++ [z])) = insP x (e :: r) ++ [z]
    unfold insP
    split
    · rfl
    · rw [insP_last x z hb r]; rfl
theorem insP_end (x : Int × Int) : ∀ l, (∀ e ∈ l, betP x e = false) → insP x l = l ++ [x]
  | [], _ => rfl
  | e :: r, h => by
    unfold insP
    rw [if_neg (by rw [h e (by simp)]; simp), insP_end x r (fun e he => h e (by simp [he]))]
    rfl
theorem bestP_len (k : Int) (l : List (Int × Int)) : (bestP k l).length = min k.toNat l.length := by unfold bestP; rw [List.length_take, sortP_len]
theorem bestP_sort (k : Int) (l : List (Int × Int)) : SortP (bestP k l) := (sortP_sort l).sublist (List.take_sublist _ _)
theorem offer_less (h l : List (Int × Int)) (k : Int) (x : Int × Int) (hp : h.Perm (bestP k l)) (hl : h.length < k.toNat) : (h ++ [x]).Perm (bestP k (l ++ [x])) := by
  rw [bestP_snoc]
  have e := hp.length_eq
  have hlen := (insP_perm x (bestP k l)).length_eq
  rw [List.length_cons] at hlen
  rw [List.take_of_length_le (by omega)]
  refine List.Perm.trans ?_ (insP_perm x (bestP k l)).symm
  exact (List.perm_append_comm (l₁ := h) (l₂ := [x])).trans (hp.cons x)
theorem offer_no (h l : List (Int × Int)) (k : Int) (x : Int × Int) (hh : HeapP h) (hpm : h.Perm (bestP k l)) (hl : h.length = k.toNat) (hb : k.toNat = 0 ∨ betP x (hp h 0) = false) : h.Perm (bestP k (l ++ [x])) := by
  rw [bestP_snoc]
  rcases hb with h0 | hb
  · rw [h0] at hl
    rw [h0, List.take_zero, List.length_eq_zero_iff.1 hl]
  · have hs : ∀ e ∈ bestP k l, betP x e = false := fun e he => by
      obtain ⟨j, hj, rfl⟩ := List.mem_iff_getElem.1 (hpm.mem_iff.2 he)
      have h1 := heap_root h hh j j (Nat.le_refl _) hj
      rw [hp_eq h j hj] at h1
      exact h1.trans hb
    have e := hpm.length_eq
    rw [insP_end x _ hs, List.take_left' (by omega)]
    exact hpm
theorem offer_yes (h l : List (Int × Int)) (k : Int) (x : Int × Int) (hh : HeapP h) (hpm : h.Perm (bestP k l)) (hl : h.length = k.toNat) (h0 : 0 < k.toNat) (hb : betP x (hp h 0) = true) : (h.set 0 x).Perm (bestP k (l ++ [x])) := by
  rw [bestP_snoc]
  have hs := bestP_sort k l
  have e := hpm.length_eq
  generalize bestP k l = s at *
  obtain ⟨r, t, rfl⟩ : ∃ r t, h = r :: t := by
    cases h with
    | nil => simp at hl; omega
    | cons r t => exact ⟨r, t, rfl⟩
  have hr : hp (r :: t) 0 = r := rfl
  rw [hr] at hb
  obtain ⟨i, z, rfl⟩ : ∃ i z, s = i ++ [z] := ⟨s.dropLast, s.getLast (by intro h; subst h; simp at e), (List.dropLast_concat_getLast _).symm⟩
  have hz : r = z := by
    have h1 : noP z r := by
      obtain ⟨j, hj, hje⟩ := List.mem_iff_getElem.1 (hpm.mem_iff.2 (by simp : z ∈ i ++ [z]))
      have := heap_root _ hh j j (Nat.le_refl _) hj
      rw [hp_eq _ j hj, hje, hr] at this
      exact this
    have h2 : noP r z := by
      rcases List.mem_append.1 (hpm.mem_iff.1 (by simp : r ∈ r :: t)) with h | h
      · exact (List.pairwise_append.1 hs).2.2 r h z (by simp)
      · simp at h; rw [h]; exact noP_refl _
    exact h2.anti h1
  subst hz
  rw [insP_last x r hb]
  have hil := (insP_perm x i).length_eq
  rw [List.length_cons] at hil
  simp at e hl
  rw [List.take_left' (by omega)]
  have ht : t.Perm i := (List.perm_cons r).1 (hpm.trans List.perm_append_comm)
  exact (ht.cons x).trans (insP_perm x i).symm
end Go.Proofs.Ytjegohibpojneaa
