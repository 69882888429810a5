import Derived.Test.YtpgbnjneoejebaaLib
set_option linter.unusedVariables false
set_option linter.unusedSimpArgs false
namespace Go.Proofs.Ytpgbnjneoejebaa
open Go.RowKit

/-! plain: the best of any things with an order (TopSpec and TopHeap over any type) -/
class Bet (α : Type) extends Inhabited α where
  bet : α → α → Bool
  self : ∀ a, bet a a = false
  asym : ∀ a b, bet a b = true → bet b a = false
  tr : ∀ a b c, bet b a = false → bet c b = false → bet c a = false
  anti : ∀ a b, bet b a = false → bet a b = false → a = b
variable {α : Type} [Bet α]
/-- No worse. -/
def noG {α : Type} [Bet α] (a b : α) : Prop := Bet.bet b a = false
theorem noG.trans {a b c : α} (h1 : noG a b) (h2 : noG b c) : noG a c := Bet.tr a b c h1 h2
theorem noG.anti {a b : α} (h1 : noG a b) (h2 : noG b a) : a = b := Bet.anti a b h1 h2
theorem noG_of {a b : α} (h : Bet.bet a b = true) : noG a b := Bet.asym a b h
theorem noG_refl (a : α) : noG a a := Bet.self a
theorem betG_noG {a b c : α} (h1 : Bet.bet a b = true) (h2 : noG b c) : Bet.bet a c = true := by
  cases h : Bet.bet a c with
  | true => rfl
  | false => rw [Bet.tr b c a h2 h] at h1; cases h1
theorem noG_betG {a b c : α} (h1 : noG a b) (h2 : Bet.bet b c = true) : Bet.bet a c = true := by
  cases h : Bet.bet a c with
  | true => rfl
  | false => rw [Bet.tr c a b h h1] at h2; cases h2
def hpG {α : Type} [Bet α] (h : List α) (i : Nat) : α := h.getD i default
def insG (x : α) : List α → List α
  | [] => [x]
  | e :: r => if Bet.bet x e = true then x :: e :: r else e :: insG x r
theorem insG_perm (x : α) : ∀ l, (insG x l).Perm (x :: l)
  | [] => List.Perm.refl _
  | e :: r => by
    unfold insG
    split
    · exact List.Perm.refl _
    · exact ((insG_perm x r).cons e).trans (List.Perm.swap x e r)
def SortG (l : List α) : Prop := l.Pairwise noG
theorem insG_sort (x : α) : ∀ l, SortG l → SortG (insG x l)
  | [], _ => List.pairwise_singleton _ _
  | e :: r, h => by
    obtain ⟨h1, h2⟩ := List.pairwise_cons.1 h
    unfold insG
    split
    · rename_i hb
      refine List.pairwise_cons.2 ⟨fun y hy => ?_, h⟩
      rcases List.mem_cons.1 hy with rfl | hy
      · exact noG_of hb
      · exact (noG_of hb).trans (h1 y hy)
    · rename_i hb
      refine List.pairwise_cons.2 ⟨fun y hy => ?_, insG_sort x r h2⟩
      rcases List.mem_cons.1 ((insG_perm x r).mem_iff.1 hy) with rfl | hy
      · unfold noG; simpa using hb
      · exact h1 y hy
theorem insG_at (x : α) : ∀ (l : List α) (a : Nat), a ≤ l.length → (∀ j (h : j < l.length), j < a → Bet.bet x l[j] = false) → (∀ h : a < l.length, Bet.bet x l[a] = true) → insG x l = l.take a ++ x :: l.drop a
  | [], a, ha, _, _ => by simp at ha; subst ha; rfl
  | e :: r, 0, _, _, h2 => by
    have : Bet.bet x e = true := h2 (by simp)
    unfold insG
    rw [if_pos this]; rfl
  | e :: r, a + 1, ha, h1, h2 => by
    have h0 := h1 0 (by simp) (by omega)
    unfold insG
    rw [if_neg (by simpa using h0), insG_at x r a (by simpa using ha) (fun j h hj => h1 (j + 1) (by simpa using h) (by omega)) (fun h => h2 (by simpa using h))]
    rfl
def sortG (l : List α) : List α := l.foldl (fun o x => insG x o) []
theorem sortG_snoc (l : List α) (x : α) : sortG (l ++ [x]) = insG x (sortG l) := by unfold sortG; rw [List.foldl_append]; rfl
theorem sortG_props (l : List α) : (sortG l).Perm l ∧ SortG (sortG l) := by
  have key : ∀ (l o : List α), SortG o → (l.foldl (fun o x => insG x o) o).Perm (o ++ l) ∧ SortG (l.foldl (fun o x => insG x o) o) := by
    intro l
    induction l with
    | nil => intro o h; simp only [List.foldl_nil, List.append_nil]; exact ⟨List.Perm.refl _, h⟩
    | cons x l ih =>
      intro o h
      obtain ⟨p, s⟩ := ih (insG x o) (insG_sort x o h)
      refine ⟨p.trans ?_, s⟩
      have h1 := (insG_perm x o).append_right l
      refine h1.trans ?_
      show (x :: (o ++ l)).Perm (o ++ x :: l)
      exact List.perm_middle.symm
  have := key l [] List.Pairwise.nil
  simpa [sortG] using this
theorem sortG_perm (l : List α) : (sortG l).Perm l := (sortG_props l).1
theorem sortG_sort (l : List α) : SortG (sortG l) := (sortG_props l).2
theorem sortG_len (l : List α) : (sortG l).length = l.length := (sortG_perm l).length_eq
/-- Two ordered rows of the same ones are the same. -/
theorem gsort_uniq : ∀ (a b : List α), a.Perm b → SortG a → SortG b → a = b
  | [], b, h, _, _ => (List.Perm.nil_eq h)
  | x :: a, [], h, _, _ => by have := h.length_eq; simp at this
  | x :: a, y :: b, h, ha, hb => by
    obtain ⟨a1, a2⟩ := List.pairwise_cons.1 ha
    obtain ⟨b1, b2⟩ := List.pairwise_cons.1 hb
    have hx : noG y x := by
      rcases List.mem_cons.1 (h.mem_iff.1 (List.mem_cons_self)) with h | h
      · rw [h]; exact noG_refl _
      · exact b1 x h
    have hy : noG x y := by
      rcases List.mem_cons.1 (h.mem_iff.2 (List.mem_cons_self)) with h | h
      · rw [h]; exact noG_refl _
      · exact a1 y h
    obtain rfl : x = y := hy.anti hx
    rw [gsort_uniq a b ((List.perm_cons x).1 h) a2 b2]
def bestG (k : Int) (l : List α) : List α := (sortG l).take k.toNat
theorem sortG_uniq {a l : List α} (h : a.Perm l) (hs : SortG a) : a = sortG l := gsort_uniq a _ (h.trans (sortG_perm l).symm) hs (sortG_sort l)
theorem sortG_of_perm {a l : List α} (h : a.Perm l) : sortG a = sortG l := gsort_uniq _ _ ((sortG_perm a).trans (h.trans (sortG_perm l).symm)) (sortG_sort a) (sortG_sort l)
/-- A full bound: one that is no better than the worst changes nothing; one that is takes its place. -/
theorem gtake_ins (x : α) : ∀ (s : List α) (k : Nat), (insG x s).take k = (insG x (s.take k)).take k
  | s, 0 => by simp
  | [], k + 1 => by simp
  | e :: r, k + 1 => by
    rw [List.take_succ_cons]
    unfold insG
    split
    · cases k with
      | zero => rfl
      | succ k => simp [List.take_take, Nat.min_eq_left (Nat.le_succ k)]
    · rw [List.take_succ_cons, List.take_succ_cons, gtake_ins x r k]
theorem bestG_snoc (k : Int) (l : List α) (x : α) : bestG k (l ++ [x]) = (insG x (bestG k l)).take k.toNat := by
  unfold bestG
  rw [sortG_snoc]
  exact gtake_ins x _ _
/-! plain: a heap whose first one is the worst -/
theorem hpG_eq (h : List α) (i : Nat) (hi : i < h.length) : hpG h i = h[i] := by unfold hpG; rw [List.getD_eq_getElem?_getD, List.getElem?_eq_getElem hi]; rfl
theorem hpG_set (h : List α) (i j : Nat) (x : α) (hi : i < h.length) : hpG (h.set i x) j = if j = i then x else hpG h j := by
  unfold hpG
  rw [List.getD_eq_getElem?_getD, List.getD_eq_getElem?_getD, List.getElem?_set]
  by_cases e : i = j
  · subst e; rw [if_pos rfl, if_pos hi, if_pos rfl]; rfl
  · rw [if_neg e, if_neg (fun h => e h.symm)]
def swapG (h : List α) (i j : Nat) : List α := (h.set i (hpG h j)).set j (hpG h i)
theorem swapG_len (h : List α) (i j : Nat) : (swapG h i j).length = h.length := by unfold swapG; simp
theorem swapG_hp (h : List α) (i j k : Nat) (hi : i < h.length) (hj : j < h.length) : hpG (swapG h i j) k = if k = j then hpG h i else if k = i then hpG h j else hpG h k := by
  unfold swapG
  rw [hpG_set _ _ _ _ (by simpa using hj), hpG_set _ _ _ _ hi]
theorem swapG_perm (h : List α) (i j : Nat) (hi : i < h.length) (hj : j < h.length) : (swapG h i j).Perm h := by
  unfold swapG
  rw [hpG_eq h i hi, hpG_eq h j hj]
  exact List.set_set_perm hi hj
def HeapG (h : List α) : Prop := ∀ j, 0 < j → j < h.length → noG (hpG h j) (hpG h ((j - 1) / 2))
def UpG (h : List α) (i : Nat) : Prop := (∀ j, 0 < j → j < h.length → j ≠ i → noG (hpG h j) (hpG h ((j - 1) / 2))) ∧ ∀ j, 0 < j → j < h.length → (j - 1) / 2 = i → 0 < i → noG (hpG h j) (hpG h ((i - 1) / 2))
theorem gup_step (h : List α) (i : Nat) (hi : 0 < i) (hl : i < h.length) (hu : UpG h i) (hb : Bet.bet (hpG h ((i - 1) / 2)) (hpG h i) = true) : UpG (swapG h i ((i - 1) / 2)) ((i - 1) / 2) := by
  obtain ⟨h1, h2⟩ := hu
  have hpl : (i - 1) / 2 < h.length := by omega
  have hpi : (i - 1) / 2 < i := by omega
  obtain ⟨p, hp0⟩ : ∃ p, p = (i - 1) / 2 := ⟨_, rfl⟩
  rw [← hp0] at hb hpl hpi ⊢
  have hn := noG_of hb
  refine ⟨fun j j0 jl jp => ?_, fun j j0 jl jp pp => ?_⟩
  · rw [swapG_len] at jl
    rw [swapG_hp h i p _ hl hpl, swapG_hp h i p _ hl hpl, if_neg jp]
    by_cases hji : j = i
    · subst hji
      rw [if_pos rfl, ← hp0, if_pos rfl]
      exact hn
    · rw [if_neg hji]
      by_cases hc : (j - 1) / 2 = p
      · rw [if_pos hc]
        have := h1 j j0 jl hji
        rw [hc] at this
        exact this.trans hn
      · rw [if_neg hc]
        by_cases hd : (j - 1) / 2 = i
        · rw [if_pos hd]
          have := h2 j j0 jl hd hi
          rw [← hp0] at this
          exact this
        · rw [if_neg hd]
          exact h1 j j0 jl hji
  · rw [swapG_len] at jl
    rw [swapG_hp h i p _ hl hpl, swapG_hp h i p _ hl hpl, if_neg (by omega), if_neg (show ¬ (p - 1) / 2 = p by omega), if_neg (show ¬ (p - 1) / 2 = i by omega)]
    have hpp := h1 p pp hpl (by omega)
    by_cases hji : j = i
    · rw [if_pos hji]; exact hpp
    · rw [if_neg hji]
      have := h1 j j0 jl hji
      rw [jp] at this
      exact this.trans hpp
theorem gup_stop (h : List α) (i : Nat) (hu : UpG h i) (hs : i = 0 ∨ noG (hpG h i) (hpG h ((i - 1) / 2))) : HeapG h := fun j j0 jl => by
  by_cases hji : j = i
  · subst hji
    rcases hs with h | h
    · omega
    · exact h
  · exact hu.1 j j0 jl hji
theorem hpG_app (h : List α) (x : α) (j : Nat) (hj : j < h.length) : hpG (h ++ [x]) j = hpG h j := by
  rw [hpG_eq _ _ (by simp; omega), hpG_eq _ _ hj, List.getElem_append_left hj]
theorem gup_init (h : List α) (x : α) (hh : HeapG h) : UpG (h ++ [x]) h.length := by
  refine ⟨fun j j0 jl jn => ?_, fun j j0 jl jn => ?_⟩
  · simp at jl
    rw [hpG_app _ _ _ (by omega), hpG_app _ _ _ (by omega)]
    exact hh j j0 (by omega)
  · simp at jl; omega
def DownG (h : List α) (i : Nat) : Prop := (∀ j, 0 < j → j < h.length → (j - 1) / 2 ≠ i → noG (hpG h j) (hpG h ((j - 1) / 2))) ∧ ∀ j, 0 < j → j < h.length → (j - 1) / 2 = i → 0 < i → noG (hpG h j) (hpG h ((i - 1) / 2))
/-- c is the worst child of i. -/
def WorstG (h : List α) (i c : Nat) : Prop := 0 < c ∧ (c - 1) / 2 = i ∧ ∀ j, 0 < j → j < h.length → (j - 1) / 2 = i → noG (hpG h j) (hpG h c)
theorem gworst_one (h : List α) (i : Nat) (hn : ¬ 2 * i + 2 < h.length) : WorstG h i (2 * i + 1) :=
  ⟨by omega, by omega, fun j j0 jl jp => by obtain rfl : j = 2 * i + 1 := by omega
                                            exact noG_refl _⟩
theorem gworst_left (h : List α) (i : Nat) (hb : Bet.bet (hpG h (2 * i + 1)) (hpG h (2 * i + 2)) = false) : WorstG h i (2 * i + 1) :=
  ⟨by omega, by omega, fun j j0 jl jp => by
    rcases (show j = 2 * i + 1 ∨ j = 2 * i + 2 by omega) with rfl | rfl
    · exact noG_refl _
    · exact hb⟩
theorem gworst_right (h : List α) (i : Nat) (hb : Bet.bet (hpG h (2 * i + 1)) (hpG h (2 * i + 2)) = true) : WorstG h i (2 * i + 2) :=
  ⟨by omega, by omega, fun j j0 jl jp => by
    rcases (show j = 2 * i + 1 ∨ j = 2 * i + 2 by omega) with rfl | rfl
    · exact noG_of hb
    · exact noG_refl _⟩
theorem gdown_step (h : List α) (i c : Nat) (hl : c < h.length) (hd : DownG h i) (hw : WorstG h i c) (hb : Bet.bet (hpG h i) (hpG h c) = true) : DownG (swapG h i c) c := by
  obtain ⟨h1, h2⟩ := hd
  obtain ⟨c0, ci, cw⟩ := hw
  have hic : i < c := by omega
  have hil : i < h.length := by omega
  have hn := noG_of hb
  refine ⟨fun j j0 jl jp => ?_, fun j j0 jl jp pp => ?_⟩
  · rw [swapG_len] at jl
    rw [swapG_hp h i c _ hil hl, swapG_hp h i c _ hil hl, if_neg jp]
    by_cases hjc : j = c
    · subst hjc
      rw [if_pos rfl, if_pos ci]
      exact hn
    · rw [if_neg hjc]
      by_cases hji : j = i
      · subst hji
        rw [if_pos rfl, if_neg (by omega)]
        exact h2 c c0 hl ci (by omega)
      · rw [if_neg hji]
        by_cases hpi : (j - 1) / 2 = i
        · rw [if_pos hpi]; exact cw j j0 jl hpi
        · rw [if_neg hpi]; exact h1 j j0 jl hpi
  · rw [swapG_len] at jl
    rw [swapG_hp h i c _ hil hl, swapG_hp h i c _ hil hl, if_neg (by omega), if_neg (show ¬ j = i by omega), ci, if_neg (by omega), if_pos rfl]
    have := h1 j j0 jl (by omega)
    rw [jp] at this
    exact this
theorem gdown_stop (h : List α) (i c : Nat) (hd : DownG h i) (hw : WorstG h i c) (hs : h.length ≤ 2 * i + 1 ∨ Bet.bet (hpG h i) (hpG h c) = false) : HeapG h := fun j j0 jl => by
  by_cases hpG : (j - 1) / 2 = i
  · rcases hs with h3 | h3
    · omega
    · rw [hpG]
      exact (hw.2.2 j j0 jl hpG).trans h3
  · exact hd.1 j j0 jl hpG
theorem gdown_init (h : List α) (x : α) (hh : HeapG h) (hl : 0 < h.length) : DownG (h.set 0 x) 0 := by
  refine ⟨fun j j0 jl jp => ?_, fun j j0 jl jp pp => by omega⟩
  rw [List.length_set] at jl
  rw [hpG_set _ _ _ _ hl, hpG_set _ _ _ _ hl, if_neg (by omega), if_neg jp]
  exact hh j j0 jl
theorem gheap_root (h : List α) (hh : HeapG h) : ∀ (n j : Nat), j ≤ n → j < h.length → noG (hpG h j) (hpG h 0)
  | 0, j, hn, _ => by obtain rfl : j = 0 := by omega
                      exact noG_refl _
  | n + 1, j, hn, hj => by
    by_cases h0 : j = 0
    · subst h0; exact noG_refl _
    · exact (hh j (by omega) hj).trans (gheap_root h hh n ((j - 1) / 2) (by omega) (by omega))
theorem insG_last (x z : α) (hb : Bet.bet x z = true) : ∀ l, insG x (l ++ [z]) = insG x l ++ [z]
  | [] => by show insG x [z] = [x] ++ [z]; unfold insG; rw [if_pos hb]; rfl
  | e :: r => by
    show insG x (e :: (r ++ [z])) = insG x (e :: r) ++ [z]
    unfold insG
    split
    · rfl
    · rw [insG_last x z hb r]; rfl
theorem insG_end (x : α) : ∀ l, (∀ e ∈ l, Bet.bet x e = false) → insG x l = l ++ [x]
  | [], _ => rfl
  | e :: r, h => by
    unfold insG
    rw [if_neg (by rw [h e (by simp)]; simp), insG_end x r (fun e he => h e (by simp [he]))]
    rfl
theorem bestG_len (k : Int) (l : List α) : (bestG k l).length = min k.toNat l.length := by unfold bestG; rw [List.length_take, sortG_len]
theorem bestG_sort (k : Int) (l : List α) : SortG (bestG k l) := (sortG_sort l).sublist (List.take_sublist _ _)
theorem goffer_less (h l : List α) (k : Int) (x : α) (hpG : h.Perm (bestG k l)) (hl : h.length < k.toNat) : (h ++ [x]).Perm (bestG k (l ++ [x])) := by
  rw [bestG_snoc]
  have e := hpG.length_eq
  have hlen := (insG_perm x (bestG k l)).length_eq
  rw [List.length_cons] at hlen
  rw [List.take_of_length_le (by omega)]
  refine List.Perm.trans ?_ (insG_perm x (bestG k l)).symm
  exact (List.perm_append_comm (l₁ := h) (l₂ := [x])).trans (hpG.cons x)
theorem goffer_no (h l : List α) (k : Int) (x : α) (hh : HeapG h) (hpm : h.Perm (bestG k l)) (hl : h.length = k.toNat) (hb : k.toNat = 0 ∨ Bet.bet x (hpG h 0) = false) : h.Perm (bestG k (l ++ [x])) := by
  rw [bestG_snoc]
  rcases hb with h0 | hb
  · rw [h0] at hl
    rw [h0, List.take_zero, List.length_eq_zero_iff.1 hl]
  · have hs : ∀ e ∈ bestG k l, Bet.bet x e = false := fun e he => by
      obtain ⟨j, hj, rfl⟩ := List.mem_iff_getElem.1 (hpm.mem_iff.2 he)
      have h1 := gheap_root h hh j j (Nat.le_refl _) hj
      rw [hpG_eq h j hj] at h1
      exact h1.trans hb
    have e := hpm.length_eq
    rw [insG_end x _ hs, List.take_left' (by omega)]
    exact hpm
theorem goffer_yes (h l : List α) (k : Int) (x : α) (hh : HeapG h) (hpm : h.Perm (bestG k l)) (hl : h.length = k.toNat) (h0 : 0 < k.toNat) (hb : Bet.bet x (hpG h 0) = true) : (h.set 0 x).Perm (bestG k (l ++ [x])) := by
  rw [bestG_snoc]
  have hs := bestG_sort k l
  have e := hpm.length_eq
  generalize bestG k l = s at *
  obtain ⟨r, t, rfl⟩ : ∃ r t, h = r :: t := by
    cases h with
    | nil => simp at hl; omega
    | cons r t => exact ⟨r, t, rfl⟩
  have hr : hpG (r :: t) 0 = r := rfl
  rw [hr] at hb
  obtain ⟨i, z, rfl⟩ : ∃ i z, s = i ++ [z] := ⟨s.dropLast, s.getLast (by intro h; subst h; simp at e), (List.dropLast_concat_getLast _).symm⟩
  have hz : r = z := by
    have h1 : noG z r := by
      obtain ⟨j, hj, hje⟩ := List.mem_iff_getElem.1 (hpm.mem_iff.2 (by simp : z ∈ i ++ [z]))
      have := gheap_root _ hh j j (Nat.le_refl _) hj
      rw [hpG_eq _ j hj, hje, hr] at this
      exact this
    have h2 : noG r z := by
      rcases List.mem_append.1 (hpm.mem_iff.1 (by simp : r ∈ r :: t)) with h | h
      · exact (List.pairwise_append.1 hs).2.2 r h z (by simp)
      · simp at h; rw [h]; exact noG_refl _
    exact h2.anti h1
  subst hz
  rw [insG_last x r hb]
  have hil := (insG_perm x i).length_eq
  rw [List.length_cons] at hil
  simp at e hl
  rw [List.take_left' (by omega)]
  have ht : t.Perm i := (List.perm_cons r).1 (hpm.trans List.perm_append_comm)
  exact (ht.cons x).trans (insG_perm x i).symm
end Go.Proofs.Ytpgbnjneoejebaa
