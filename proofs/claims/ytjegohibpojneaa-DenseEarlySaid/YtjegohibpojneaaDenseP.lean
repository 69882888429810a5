import Derived.Test.YtjegohibpojneaaDenseRows
import Derived.Test.YtjegohibpojneaaTopHeap
set_option linter.unusedVariables false
set_option linter.unusedSimpArgs false
namespace Go.Proofs.Ytjegohibpojneaa
open Go.RowKit

/-! dense, plain: what could come, and that giving up early changes nothing -/
def couldP (m x : Int) : Int := if m = 0 then 127 * max x (-x) else 0
/-- What could come of the last n numbers. -/
def leftS (m : Int) (q : List Int) : Nat → Int
  | 0 => 0
  | n + 1 => leftS m q n + couldP m (q.getD (7 - n) 0)
theorem could_ge (m x y : Int) (hx : -127 ≤ x ∧ x ≤ 127) (hy : -127 ≤ y ∧ y ≤ 127) : brP m x y ≤ couldP m x := by
  unfold brP couldP
  split
  · rcases Int.le_total 0 x with h | h
    · have h1 : x * (127 - y) ≥ 0 := Int.mul_nonneg h (by omega)
      simp only [Int.mul_sub] at h1
      omega
    · have h1 : (-x) * (127 + y) ≥ 0 := Int.mul_nonneg (by omega) (by omega)
      simp only [Int.mul_add, Int.neg_mul] at h1
      omega
  · obtain ⟨d, hd⟩ : ∃ d, d = x - y := ⟨_, rfl⟩
    rw [← hd]
    have h2 : d * d ≥ 0 := by
      rcases Int.le_total 0 d with h | h
      · exact Int.mul_nonneg h h
      · have := Int.mul_nonneg (show (0:Int) ≤ -d by omega) (show (0:Int) ≤ -d by omega)
        rwa [Int.neg_mul_neg] at this
    simp only [Int.neg_mul]
    omega
theorem getD_range {l : List Int} (h : ∀ x ∈ l, -127 ≤ x ∧ x ≤ 127) (n : Nat) : -127 ≤ l.getD n 0 ∧ l.getD n 0 ≤ 127 := by
  rw [List.getD_eq_getElem?_getD]
  cases e : l[n]? with
  | none => simp
  | some x => exact h x (List.mem_of_getElem? e)
theorem could_range (m x : Int) (hx : -127 ≤ x ∧ x ≤ 127) : 0 ≤ couldP m x ∧ couldP m x ≤ 20000 := by unfold couldP; split <;> omega
theorem left_range (m : Int) (q : List Int) (hq : ∀ x ∈ q, -127 ≤ x ∧ x ≤ 127) : ∀ n : Nat, 0 ≤ leftS m q n ∧ leftS m q n ≤ 20000 * (n : Int)
  | 0 => by simp [leftS]
  | n + 1 => by
    have h := left_range m q hq n
    have h2 := could_range m _ (getD_range hq (7 - n))
    simp only [leftS]
    omega
theorem sc_left (m : Int) (q v : List Int) (hq : ∀ x ∈ q, -127 ≤ x ∧ x ≤ 127) (hv : ∀ x ∈ v, -127 ≤ x ∧ x ≤ 127) : ∀ n : Nat, n ≤ 8 → scS m q v 8 ≤ scS m q v (8 - n) + leftS m q n
  | 0, _ => by simp [leftS]
  | n + 1, h => by
    have h1 := sc_left m q v hq hv n (by omega)
    have h2 := could_ge m _ _ (getD_range hq (7 - n)) (getD_range hv (7 - n))
    have e : 8 - n = (7 - n) + 1 := by omega
    have e2 : 8 - (n + 1) = 7 - n := by omega
    rw [e] at h1
    rw [e2]
    simp only [scS, leftS] at h1 ⊢
    omega
/-- The documents that may be, with their scores. -/
def offsP (m : Int) (q : List Int) (P : Int → Bool) (l : List RowP) : List (Int × Int) := (l.filter fun r => P r.1).map fun r => (r.1, scS m q r.2 8)
theorem offs_snoc (m : Int) (q : List Int) (P : Int → Bool) (l : List RowP) (r : RowP) : offsP m q P (l ++ [r]) = offsP m q P l ++ if P r.1 = true then [(r.1, scS m q r.2 8)] else [] := by
  unfold offsP
  rw [List.filter_append, List.map_append, List.filter_cons]
  split <;> simp
theorem offs_len (m : Int) (q : List Int) (P : Int → Bool) (l : List RowP) : (offsP m q P l).length ≤ l.length := by
  unfold offsP; rw [List.length_map]; exact List.length_filter_le _ _
def dfindP (m : Int) (q : List Int) (l : List RowP) (k : Int) (P : Int → Bool) : List (Int × Int) × Int :=
  if m < 0 ∨ 1 < m ∨ k < 1 ∨ 1000 < k then ([], 1) else if (vecB q && riseB l l.length) = false then ([], 2) else (bestP k (offsP m q P l), 0)
theorem rise_row {l : List RowP} : ∀ (n : Nat), riseB l n = true → ∀ i, i < n → rowB (l.getD i (0, [])) = true ∧ (0 < i → (l.getD (i - 1) (0, [])).1 < (l.getD i (0, [])).1)
  | 0, _, i, h => by omega
  | n + 1, hr, i, h => by
    rw [riseB_succ] at hr
    simp only [Bool.and_eq_true, Bool.or_eq_true, decide_eq_true_eq] at hr
    by_cases e : i = n
    · subst e; exact ⟨hr.2.1, fun h0 => by rcases hr.2.2 with h | h <;> first | omega | exact h⟩
    · exact rise_row n hr.1 i (by omega)
/-- All documents ahead are less. -/
theorem rise_lt {l : List RowP} (h : riseB l l.length = true) (i j : Nat) (hij : i < j) (hj : j < l.length) : (l.getD i (0, [])).1 < (l.getD j (0, [])).1 := by
  have key : ∀ d, i + 1 + d < l.length → (l.getD i (0, [])).1 < (l.getD (i + 1 + d) (0, [])).1 := by
    intro d
    induction d with
    | zero => intro hd; exact (rise_row _ h (i + 1) hd).2 (by omega)
    | succ d ih =>
      intro hd
      have h1 := ih (by omega)
      have h2 := (rise_row _ h (i + 1 + (d + 1)) hd).2 (by omega)
      have e : i + 1 + (d + 1) - 1 = i + 1 + d := by omega
      rw [e] at h2
      omega
  have := key (j - i - 1) (by omega)
  rwa [show i + 1 + (j - i - 1) = j by omega] at this
theorem getD_row (l : List RowP) (i : Nat) (h : i < l.length) : l.getD i (0, []) = l[i] := by rw [List.getD_eq_getElem?_getD, List.getElem?_eq_getElem h]; rfl
theorem rise_at {l : List RowP} (h : riseB l l.length = true) (i : Nat) (hi : i < l.length) : 0 ≤ l[i].1 ∧ l[i].1 ≤ 2147483647 ∧ l[i].2.length = 8 ∧ ∀ x ∈ l[i].2, -127 ≤ x ∧ x ≤ 127 := by
  have := (rise_row _ h i hi).1
  rw [getD_row l i hi] at this
  unfold rowB at this
  simp only [Bool.and_eq_true, decide_eq_true_eq] at this
  exact ⟨this.1.1, this.1.2, vecB_facts this.2⟩
/-- All that were offered ahead have lesser documents. -/
theorem offs_lt {l : List RowP} (h : riseB l l.length = true) (m : Int) (q : List Int) (P : Int → Bool) (k : Nat) (hk : k < l.length) : ∀ x ∈ offsP m q P (l.take k), x.1 < l[k].1 := by
  intro x hx
  unfold offsP at hx
  obtain ⟨r, hr, rfl⟩ := List.mem_map.1 hx
  have hr := (List.mem_filter.1 hr).1
  obtain ⟨i, hi, rfl⟩ := List.mem_iff_getElem.1 hr
  rw [List.getElem_take]
  have hi2 : i < k := by have := List.length_take_le k l; simp at hi; omega
  have := rise_lt h i k hi2 hk
  rwa [getD_row l i (by omega), getD_row l k hk] at this
/-- Giving up is right. -/
theorem early_no (h L : List (Int × Int)) (K : Int) (d s : Int) (hh : HeapP h) (hpm : h.Perm (bestP K L)) (hl : h.length = K.toNat) (h0 : 0 < h.length) (hs : s ≤ (hp h 0).2) (hd : ∀ x ∈ L, x.1 < d) : h.Perm (bestP K (L ++ [(d, s)])) := by
  refine offer_no h L K (d, s) hh hpm hl (.inr ?_)
  rw [betP_no]
  have hm : hp h 0 ∈ L := by
    rw [hp_eq h 0 h0]
    have : h[0] ∈ bestP K L := hpm.mem_iff.1 (List.getElem_mem h0)
    exact (sortP_perm L).mem_iff.1 (List.mem_of_mem_take this)
  have := hd _ hm
  show s < _ ∨ s = _ ∧ _ ≤ d
  omega
end Go.Proofs.Ytjegohibpojneaa
