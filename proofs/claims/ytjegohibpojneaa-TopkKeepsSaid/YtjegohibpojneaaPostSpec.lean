import Derived.Test.YtjegohibpojneaaDocSpec
set_option linter.unusedVariables false
set_option linter.unusedSimpArgs false
namespace Go.Proofs.Ytjegohibpojneaa
open Go.RowKit

/-! plain: lists of posts, their blocks -/
def okPost (p : Int × Int) : Bool := decide (0 ≤ p.1) && decide (p.1 ≤ 2147483647) && decide (1 ≤ p.2) && decide (p.2 ≤ 65535)
def docsP (l : List (Int × Int)) : List Int := l.map (·.1)
def wtsP (l : List (Int × Int)) : List Int := l.map (·.2)
def rightB (l : List (Int × Int)) : Bool := l.all okPost && decide ((docsP l).Pairwise (· < ·))
theorem docsP_len (l : List (Int × Int)) : (docsP l).length = l.length := by simp [docsP]
theorem docsP_get (l : List (Int × Int)) (k : Nat) (h : k < l.length) : (docsP l).getD k 0 = l[k].1 := by
  rw [List.getD_eq_getElem?_getD, List.getElem?_eq_getElem (by simpa [docsP] using h)]
  simp [docsP]
theorem rightB_step (l : List (Int × Int)) (k : Nat) (h : k < l.length) : rightB (l.take (k + 1)) = (rightB (l.take k) && (okPost l[k] && (decide (k = 0) || decide ((docsP l).getD (k - 1) 0 < l[k].1)))) := by
  unfold rightB
  have h1 := pw_step (docsP l) k (by simpa [docsP] using h)
  have e1 : docsP (l.take (k + 1)) = (docsP l).take (k + 1) := by simp [docsP, List.map_take]
  have e2 : docsP (l.take k) = (docsP l).take k := by simp [docsP, List.map_take]
  have e3 : (docsP l)[k]'(by simpa [docsP] using h) = l[k].1 := by simp [docsP]
  rw [e3] at h1
  rw [e1, e2, h1, take_snocI l k h, List.all_append]
  simp only [List.all_cons, List.all_nil, Bool.and_true]
  cases (l.take k).all okPost <;> cases okPost l[k] <;> cases decide (List.Pairwise (· < ·) ((docsP l).take k)) <;> simp
theorem rightB_take (l : List (Int × Int)) (h : rightB l = true) (k : Nat) : rightB (l.take k) = true := by
  unfold rightB at h ⊢
  simp only [Bool.and_eq_true, decide_eq_true_iff] at h ⊢
  refine ⟨?_, ?_⟩
  · rw [List.all_eq_true] at h ⊢
    exact fun x hx => h.1 x (List.mem_of_mem_take hx)
  · have e2 : docsP (l.take k) = (docsP l).take k := by simp [docsP, List.map_take]
    rw [e2]
    exact h.2.sublist (List.take_sublist _ _)
theorem rightB_no (l : List (Int × Int)) (k : Nat) (h : rightB (l.take k) = false) : rightB l = false := by
  cases hr : rightB l with
  | false => rfl
  | true => rw [rightB_take l hr k] at h; cases h
structure RightP (l : List (Int × Int)) : Prop where
  rng : ∀ p ∈ l, 0 ≤ p.1 ∧ p.1 ≤ 2147483647 ∧ 1 ≤ p.2 ∧ p.2 ≤ 65535
  rises : (docsP l).Pairwise (· < ·)
theorem rightB_iff (l : List (Int × Int)) : rightB l = true ↔ RightP l := by
  unfold rightB
  rw [Bool.and_eq_true, List.all_eq_true, decide_eq_true_iff]
  constructor
  · rintro ⟨h1, h2⟩
    refine ⟨fun p hp => ?_, h2⟩
    have := h1 p hp
    unfold okPost at this
    simp only [Bool.and_eq_true, decide_eq_true_iff] at this
    omega
  · rintro ⟨h1, h2⟩
    refine ⟨fun p hp => ?_, h2⟩
    have := h1 p hp
    unfold okPost
    simp only [Bool.and_eq_true, decide_eq_true_iff]
    omega

def maxP (l : List (Int × Int)) : Int := l.foldl (fun m p => max m p.2) 0
theorem foldl_max (l : List (Int × Int)) : ∀ m : Int, l.foldl (fun m p => max m p.2) m = max m (l.foldl (fun m p => max m p.2) m) := by
  induction l with
  | nil => intro m; simp
  | cons p l ih => intro m; simp only [List.foldl_cons]; rw [ih]; omega
theorem foldl_max2 (l : List (Int × Int)) : ∀ m k : Int, l.foldl (fun m p => max m p.2) (max m k) = max m (l.foldl (fun m p => max m p.2) k) := by
  induction l with
  | nil => intro m k; rfl
  | cons p l ih => intro m k; simp only [List.foldl_cons]; rw [Int.max_assoc, ih]
theorem maxP_nil : maxP [] = 0 := rfl
theorem maxP_snoc (l : List (Int × Int)) (p : Int × Int) : maxP (l ++ [p]) = max (maxP l) p.2 := by unfold maxP; rw [List.foldl_append]; rfl
theorem maxP_nonneg (l : List (Int × Int)) : 0 ≤ maxP l := by
  unfold maxP
  have := foldl_max2 l 0 0
  rw [Int.max_self] at this
  omega
theorem maxP_append (l m : List (Int × Int)) : maxP (l ++ m) = max (maxP l) (maxP m) := by
  have h := maxP_nonneg l
  unfold maxP at *
  rw [List.foldl_append]
  have := foldl_max2 m (l.foldl (fun m p => max m p.2) 0) 0
  rw [← this]
  congr 1
  omega
theorem maxP_ge (l : List (Int × Int)) : ∀ p ∈ l, p.2 ≤ maxP l := by
  intro p hp
  obtain ⟨a, b, rfl⟩ := List.append_of_mem hp
  rw [show a ++ p :: b = (a ++ [p]) ++ b by simp, maxP_append, maxP_snoc]
  omega
theorem maxP_le (l : List (Int × Int)) (B : Int) (h0 : 0 ≤ B) (h : ∀ p ∈ l, p.2 ≤ B) : maxP l ≤ B := by
  have key : ∀ (l : List (Int × Int)) (m : Int), m ≤ B → (∀ p ∈ l, p.2 ≤ B) → l.foldl (fun m p => max m p.2) m ≤ B := by
    intro l
    induction l with
    | nil => intro m hm _; exact hm
    | cons p l ih =>
      intro m hm h
      have := h p (by simp)
      exact ih _ (by show max m p.2 ≤ B; omega) (fun q hq => h q (by simp [hq]))
  exact key l 0 h0 h

def chunkP (l : List (Int × Int)) (j : Nat) : List (Int × Int) := (l.drop (4 * j)).take 4
def lastP (l : List (Int × Int)) (j : Nat) : Int := (docsP l).getD (min (4 * j + 4) l.length - 1) 0
def blkP (l : List (Int × Int)) (j : Nat) : Int × Int := (maxP (chunkP l j), lastP l j)
def nbP (l : List (Int × Int)) : Nat := (l.length + 3) / 4
def blksP (l : List (Int × Int)) : List (Int × Int) := (List.range (nbP l)).map (blkP l)
theorem blksP_len (l : List (Int × Int)) : (blksP l).length = nbP l := by simp [blksP]
theorem chunkP_len (l : List (Int × Int)) (j : Nat) : (chunkP l j).length = min 4 (l.length - 4 * j) := by simp [chunkP]
theorem chunkP_get (l : List (Int × Int)) (j k : Nat) (h : k < (chunkP l j).length) : (chunkP l j)[k] = l[4 * j + k]'(by rw [chunkP_len] at h; omega) := by
  simp [chunkP]
theorem chunks_take (l : List (Int × Int)) (j : Nat) : l.take (4 * (j + 1)) = l.take (4 * j) ++ chunkP l j := by
  rw [show 4 * (j + 1) = 4 * j + 4 by omega, List.take_add]
  rfl
theorem maxP_chunks (l : List (Int × Int)) (j : Nat) : maxP (l.take (4 * (j + 1))) = max (maxP (l.take (4 * j))) (maxP (chunkP l j)) := by
  rw [chunks_take, maxP_append]
theorem docs_lt (l : List (Int × Int)) (h : RightP l) (a b : Nat) (hab : a < b) (hb : b < l.length) : (docsP l).getD a 0 < (docsP l).getD b 0 := by
  rw [List.getD_eq_getElem?_getD, List.getD_eq_getElem?_getD, List.getElem?_eq_getElem (by rw [docsP_len]; omega), List.getElem?_eq_getElem (by rw [docsP_len]; omega)]
  exact List.pairwise_iff_getElem.1 h.rises a b (by rw [docsP_len]; omega) (by rw [docsP_len]; omega) hab
theorem docs_le (l : List (Int × Int)) (h : RightP l) (a b : Nat) (hab : a ≤ b) (hb : b < l.length) : (docsP l).getD a 0 ≤ (docsP l).getD b 0 := by
  rcases Nat.lt_or_eq_of_le hab with h1 | rfl
  · have := docs_lt l h a b h1 hb; omega
  · omega
theorem docs_rng (l : List (Int × Int)) (h : RightP l) (a : Nat) (ha : a < l.length) : 0 ≤ (docsP l).getD a 0 ∧ (docsP l).getD a 0 ≤ 2147483647 := by
  rw [docsP_get l a ha]
  have := h.rng l[a] (List.getElem_mem ha)
  omega
theorem last_lt (l : List (Int × Int)) (h : RightP l) (a b : Nat) (hab : a < b) (hb : b < nbP l) : lastP l a < lastP l b := by
  unfold nbP at hb
  exact docs_lt l h _ _ (by omega) (by omega)
theorem last_rng (l : List (Int × Int)) (h : RightP l) (a : Nat) (ha : a < nbP l) : 0 ≤ lastP l a ∧ lastP l a ≤ 2147483647 := by
  unfold nbP at ha
  exact docs_rng l h _ (by omega)
/-- The first block in which a document would be. -/
def findP (l : List (Int × Int)) (doc : Int) : Nat := ((blksP l).map (·.2)).findIdx fun x => decide (doc ≤ x)
theorem findP_is (l : List (Int × Int)) (doc : Int) (i : Nat) (hi : i ≤ nbP l) (h1 : ∀ k, k < i → lastP l k < doc) (h2 : i < nbP l → doc ≤ lastP l i) : findP l doc = i := by
  unfold findP
  have hlen : ((blksP l).map (·.2)).length = nbP l := by simp [blksP]
  have hget : ∀ k (hk : k < ((blksP l).map (·.2)).length), ((blksP l).map (·.2))[k] = lastP l k := by intro k hk; simp [blksP, blkP]
  rcases Nat.lt_or_eq_of_le hi with h | rfl
  · rw [List.findIdx_eq (by rw [hlen]; exact h)]
    refine ⟨?_, fun j hj => ?_⟩
    · rw [hget]; exact decide_eq_true (h2 h)
    · rw [hget]; have := h1 j hj; exact decide_eq_false (by omega)
  · rw [← hlen]
    rw [List.findIdx_eq_length]
    intro x hx
    obtain ⟨k, hk, rfl⟩ := List.mem_iff_getElem.1 hx
    rw [hget]
    have := h1 k (by rw [hlen] at hk; exact hk)
    simpa using this
theorem findP_spec (l : List (Int × Int)) (doc : Int) : findP l doc ≤ nbP l ∧ (∀ k, k < findP l doc → lastP l k < doc) ∧ (findP l doc < nbP l → doc ≤ lastP l (findP l doc)) := by
  have hlen : ((blksP l).map (·.2)).length = nbP l := by simp [blksP]
  have hget : ∀ k (hk : k < ((blksP l).map (·.2)).length), ((blksP l).map (·.2))[k] = lastP l k := by intro k hk; simp [blksP, blkP]
  have hle : findP l doc ≤ nbP l := by unfold findP; rw [← hlen]; exact List.findIdx_le_length
  refine ⟨hle, fun k hk => ?_, fun h => ?_⟩
  · have hk2 : k < ((blksP l).map (·.2)).length := by rw [hlen]; omega
    have := List.not_of_lt_findIdx (p := fun x => decide (doc ≤ x)) (xs := (blksP l).map (·.2)) hk
    rw [hget] at this
    simpa using this
  · have := List.findIdx_getElem (p := fun x => decide (doc ≤ x)) (xs := (blksP l).map (·.2)) (w := by rw [hlen]; exact h)
    rw [hget] at this
    exact of_decide_eq_true this
def seekP (l : List (Int × Int)) (a : Nat) (doc : Int) : Nat := a + ((l.drop a).takeWhile fun p => decide (p.1 < doc)).length
theorem seekP_step (l : List (Int × Int)) (a : Nat) (doc : Int) (h : a < l.length) (hd : l[a].1 < doc) : seekP l a doc = seekP l (a + 1) doc := by
  unfold seekP
  rw [List.drop_eq_getElem_cons h, List.takeWhile_cons_of_pos (by simpa using hd)]
  simp
  omega
theorem seekP_stop (l : List (Int × Int)) (a : Nat) (doc : Int) (h : a < l.length) (hd : ¬ l[a].1 < doc) : seekP l a doc = a := by
  unfold seekP
  rw [List.drop_eq_getElem_cons h, List.takeWhile_cons_of_neg (by simpa using hd)]
  rfl
theorem seekP_end (l : List (Int × Int)) (a : Nat) (doc : Int) (h : l.length ≤ a) : seekP l a doc = a := by
  unfold seekP
  rw [List.drop_eq_nil_of_le h]
  rfl
theorem seekP_le (l : List (Int × Int)) (a : Nat) (doc : Int) (h : a ≤ l.length) : a ≤ seekP l a doc ∧ seekP l a doc ≤ l.length := by
  unfold seekP
  have := (List.takeWhile_sublist (fun p : Int × Int => decide (p.1 < doc)) (l := l.drop a)).length_le
  rw [List.length_drop] at this
  omega
/-- What stands ahead of a place is passed by. -/
theorem seekP_skip (l : List (Int × Int)) (doc : Int) (b : Nat) (hb : b ≤ l.length) : ∀ (n a : Nat), n = b - a → (∀ k, a ≤ k → k < b → (docsP l).getD k 0 < doc) → a ≤ b → seekP l a doc = seekP l b doc
  | 0, a, hn, _, hab => by obtain rfl : a = b := by omega
                           rfl
  | n + 1, a, hn, h, hab => by
    have ha : a < l.length := by omega
    have h1 := h a (Nat.le_refl _) (by omega)
    rw [docsP_get l a ha] at h1
    rw [seekP_step l a doc ha h1]
    exact seekP_skip l doc b hb n (a + 1) (by omega) (fun k hk1 hk2 => h k (by omega) hk2) (by omega)
theorem seekP_neg (l : List (Int × Int)) (h : RightP l) (a : Nat) (doc : Int) (hd : doc < 0) : seekP l a doc = a := by
  by_cases ha : a < l.length
  · have := docs_rng l h a ha
    rw [docsP_get l a ha] at this
    exact seekP_stop l a doc ha (by omega)
  · exact seekP_end l a doc (by omega)
/-- The program's leap over blocks comes to the same. -/
theorem seekP_leap (l : List (Int × Int)) (h : RightP l) (a : Nat) (doc : Int) (ha : a ≤ l.length) (hd : 0 ≤ doc) :
    seekP l (max a (min (findP l (min doc 2147483648) * 4) l.length)) doc = seekP l a doc := by
  obtain ⟨f1, f2, f3⟩ := findP_spec l (min doc 2147483648)
  generalize findP l (min doc 2147483648) = f at *
  have hb : min (f * 4) l.length ≤ l.length := by omega
  by_cases hab : min (f * 4) l.length ≤ a
  · rw [Nat.max_eq_left hab]
  · rw [Nat.max_eq_right (by omega)]
    symm
    refine seekP_skip l doc _ hb _ a rfl (fun k hk1 hk2 => ?_) (by omega)
    have hk : k < l.length := by omega
    have hkb : k / 4 < f := by omega
    have h1 := f2 (k / 4) hkb
    unfold lastP at h1
    have h2 := docs_le l h k (min (4 * (k / 4) + 4) l.length - 1) (by omega) (by omega)
    omega
def blockP (l : List (Int × Int)) (doc : Int) : Int × Int := if findP l doc < nbP l then blkP l (findP l doc) else (0, -1)
theorem findP_clamp (l : List (Int × Int)) (h : RightP l) (doc : Int) : findP l (max 0 (min doc 2147483648)) = findP l doc := by
  obtain ⟨f1, f2, f3⟩ := findP_spec l doc
  refine findP_is l _ _ f1 (fun k hk => ?_) (fun hf => ?_)
  · have := f2 k hk
    have := last_rng l h k (by omega)
    omega
  · have := f3 hf
    have := last_rng l h _ hf
    omega
end Go.Proofs.Ytjegohibpojneaa
