import Derived.Test.YtjegohibpojneaaPairs
set_option linter.unusedVariables false
set_option linter.unusedSimpArgs false
namespace Go.Proofs.Ytjegohibpojneaa
open Go.RowKit

/-! plain: the best of documents (a document's number, its score) -/
def betP (a b : Int × Int) : Bool := decide (b.2 < a.2) || (decide (a.2 = b.2) && decide (a.1 < b.1))
theorem betP_iff (a b : Int × Int) : betP a b = true ↔ b.2 < a.2 ∨ (a.2 = b.2 ∧ a.1 < b.1) := by unfold betP; simp
theorem betP_no (a b : Int × Int) : betP a b = false ↔ a.2 < b.2 ∨ (a.2 = b.2 ∧ b.1 ≤ a.1) := by
  cases h : betP a b with
  | true => simp; have := (betP_iff a b).1 h; omega
  | false =>
    simp only [true_iff]
    have h2 : ¬ (b.2 < a.2 ∨ (a.2 = b.2 ∧ a.1 < b.1)) := fun h3 => by rw [(betP_iff a b).2 h3] at h; cases h
    omega
theorem betP_self (a : Int × Int) : betP a a = false := by rw [betP_no]; omega
/-- No worse. -/
def noP (a b : Int × Int) : Prop := betP b a = false
theorem noP.trans {a b c : Int × Int} (h1 : noP a b) (h2 : noP b c) : noP a c := by unfold noP at *; rw [betP_no] at *; omega
theorem noP.anti {a b : Int × Int} (h1 : noP a b) (h2 : noP b a) : a = b := by
  unfold noP at *; rw [betP_no] at *
  exact Prod.ext (by omega) (by omega)
theorem noP_of {a b : Int × Int} (h : betP a b = true) : noP a b := by unfold noP; rw [betP_no]; rw [betP_iff] at h; omega
theorem noP_refl (a : Int × Int) : noP a a := betP_self a
theorem betP_noP {a b c : Int × Int} (h1 : betP a b = true) (h2 : noP b c) : betP a c = true := by unfold noP at h2; rw [betP_no] at h2; rw [betP_iff] at *; omega
theorem noP_betP {a b c : Int × Int} (h1 : noP a b) (h2 : betP b c = true) : betP a c = true := by unfold noP at h1; rw [betP_no] at h1; rw [betP_iff] at *; omega
def insP (x : Int × Int) : List (Int × Int) → List (Int × Int)
  | [] => [x]
  | e :: r => if betP x e = true then x :: e :: r else e :: insP x r
theorem insP_perm (x : Int × Int) : ∀ l, (insP x l).Perm (x :: l)
  | [] => List.Perm.refl _
  | e :: r => by
    unfold insP
    split
    · exact List.Perm.refl _
    · exact ((insP_perm x r).cons e).trans (List.Perm.swap x e r)
def SortP (l : List (Int × Int)) : Prop := l.Pairwise noP
theorem insP_sort (x : Int × Int) : ∀ l, SortP l → SortP (insP x l)
  | [], _ => List.pairwise_singleton _ _
  | e :: r, h => by
    obtain ⟨h1, h2⟩ := List.pairwise_cons.1 h
    unfold insP
    split
    · rename_i hb
      refine List.pairwise_cons.2 ⟨fun y hy => ?_, h⟩
      rcases List.mem_cons.1 hy with rfl | hy
      · exact noP_of hb
      · exact (noP_of hb).trans (h1 y hy)
    · rename_i hb
      refine List.pairwise_cons.2 ⟨fun y hy => ?_, insP_sort x r h2⟩
      rcases List.mem_cons.1 ((insP_perm x r).mem_iff.1 hy) with rfl | hy
      · unfold noP; simpa using hb
      · exact h1 y hy
theorem insP_at (x : Int × Int) : ∀ (l : List (Int × Int)) (a : Nat), a ≤ l.length → (∀ j (h : j < l.length), j < a → betP x l[j] = false) → (∀ h : a < l.length, betP x l[a] = true) → insP x l = l.take a ++ x :: l.drop a
  | [], a, ha, _, _ => by simp at ha; subst ha; rfl
  | e :: r, 0, _, _, h2 => by
    have : betP x e = true := h2 (by simp)
    unfold insP
    rw [if_pos this]; rfl
  | e :: r, a + 1, ha, h1, h2 => by
    have h0 := h1 0 (by simp) (by omega)
    unfold insP
    rw [if_neg (by simpa using h0), insP_at x r a (by simpa using ha) (fun j h hj => h1 (j + 1) (by simpa using h) (by omega)) (fun h => h2 (by simpa using h))]
    rfl
def sortP (l : List (Int × Int)) : List (Int × Int) := l.foldl (fun o x => insP x o) []
theorem sortP_snoc (l : List (Int × Int)) (x : Int × Int) : sortP (l ++ [x]) = insP x (sortP l) := by unfold sortP; rw [List.foldl_append]; rfl
theorem sortP_props (l : List (Int × Int)) : (sortP l).Perm l ∧ SortP (sortP l) := by
  have key : ∀ (l o : List (Int × Int)), SortP o → (l.foldl (fun o x => insP x o) o).Perm (o ++ l) ∧ SortP (l.foldl (fun o x => insP x o) o) := by
    intro l
    induction l with
    | nil => intro o h; simp only [List.foldl_nil, List.append_nil]; exact ⟨List.Perm.refl _, h⟩
    | cons x l ih =>
      intro o h
      obtain ⟨p, s⟩ := ih (insP x o) (insP_sort x o h)
      refine ⟨p.trans ?_, s⟩
      have h1 := (insP_perm x o).append_right l
      refine h1.trans ?_
      show (x :: (o ++ l)).Perm (o ++ x :: l)
      exact List.perm_middle.symm
  have := key l [] List.Pairwise.nil
  simpa [sortP] using this
theorem sortP_perm (l : List (Int × Int)) : (sortP l).Perm l := (sortP_props l).1
theorem sortP_sort (l : List (Int × Int)) : SortP (sortP l) := (sortP_props l).2
theorem sortP_len (l : List (Int × Int)) : (sortP l).length = l.length := (sortP_perm l).length_eq
/-- Two ordered rows of the same ones are the same. -/
theorem sort_uniq : ∀ (a b : List (Int × Int)), a.Perm b → SortP a → SortP b → a = b
  | [], b, h, _, _ => (List.Perm.nil_eq h)
  | x :: a, [], h, _, _ => by have := h.length_eq; simp at this
  | x :: a, y :: b, h, ha, hb => by
    obtain ⟨a1, a2⟩ := List.pairwise_cons.1 ha
    obtain ⟨b1, b2⟩ := List.pairwise_cons.1 hb
    have hx : noP y x := by
      rcases List.mem_cons.1 (h.mem_iff.1 (List.mem_cons_self)) with h | h
      · rw [h]; exact noP_refl _
      · exact b1 x h
    have hy : noP x y := by
      rcases List.mem_cons.1 (h.mem_iff.2 (List.mem_cons_self)) with h | h
      · rw [h]; exact noP_refl _
      · exact a1 y h
    obtain rfl : x = y := hy.anti hx
    rw [sort_uniq a b ((List.perm_cons x).1 h) a2 b2]
def kP (k : Int) : Nat := k.toNat
def bestP (k : Int) (l : List (Int × Int)) : List (Int × Int) := (sortP l).take k.toNat
theorem sortP_uniq {a l : List (Int × Int)} (h : a.Perm l) (hs : SortP a) : a = sortP l := sort_uniq a _ (h.trans (sortP_perm l).symm) hs (sortP_sort l)
theorem sortP_of_perm {a l : List (Int × Int)} (h : a.Perm l) : sortP a = sortP l := sort_uniq _ _ ((sortP_perm a).trans (h.trans (sortP_perm l).symm)) (sortP_sort a) (sortP_sort l)
/-- A full bound: one that is no better than the worst changes nothing; one that is takes its place. -/
theorem take_ins (x : Int × Int) : ∀ (s : List (Int × Int)) (k : Nat), (insP x s).take k = (insP x (s.take k)).take k
  | s, 0 => by simp
  | [], k + 1 => by simp
  | e :: r, k + 1 => by
    rw [List.take_succ_cons]
    unfold insP
    split
    · cases k with
      | zero => rfl
      | succ k => simp [List.take_take, Nat.min_eq_left (Nat.le_succ k)]
    · rw [List.take_succ_cons, List.take_succ_cons, take_ins x r k]
theorem bestP_snoc (k : Int) (l : List (Int × Int)) (x : Int × Int) : bestP k (l ++ [x]) = (insP x (bestP k l)).take k.toNat := by
  unfold bestP
  rw [sortP_snoc]
  exact take_ins x _ _
end Go.Proofs.Ytjegohibpojneaa
