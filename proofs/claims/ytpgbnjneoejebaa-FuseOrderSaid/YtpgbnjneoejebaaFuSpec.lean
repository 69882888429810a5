import Derived.Test.YtpgbnjneoejebaaFuRight
import Derived.Test.YtpgbnjneoejebaaTvLib
import Derived.KernelRfl
set_option linter.unusedVariables false
set_option linter.unusedSimpArgs false
namespace Go.Proofs.Ytpgbnjneoejebaa
open Go.RowKit

/-! plain: what two lists bring, document by document -/
def ratV (q : QV) : Value := .agg #[.int .i64 q.1.num, .int .i64 q.1.den]
instance (q : Rat) : Decidable (QIn q) := inferInstanceAs (Decidable (_ ∧ _))
def qadd (p q : QV) : QV := if h : QIn (p.1 + q.1) then ⟨p.1 + q.1, h⟩ else qz
theorem qadd_val {p q : QV} (h : QIn (p.1 + q.1)) : (qadd p q).1 = p.1 + q.1 := by unfold qadd; rw [dif_pos h]
/-- F is F0 with what the first n of l bring. -/
def AddI (F0 : EnI QV) (l : List (Int × Int)) (B : Nat → Int → QV) (F : EnI QV) (n : Nat) : Prop :=
  (∀ i (h : i < l.length), i < n → getI F l[i].1 = some (qadd ((getI F0 l[i].1).getD qz) (B (i + 1) l[i].2))) ∧ ∀ d, d ∉ docsF (l.take n) → getI F d = getI F0 d
theorem addI_start (F0 : EnI QV) (l : List (Int × Int)) (B : Nat → Int → QV) : AddI F0 l B F0 0 := ⟨fun i _ h => absurd h (by omega), fun _ _ => rfl⟩
theorem fdocs_get (l : List (Int × Int)) (i : Nat) (h : i < l.length) : (docsF l)[i]'(by unfold docsF; rw [List.length_map]; exact h) = l[i].1 := by unfold docsF; rw [List.getElem_map]
theorem fdocs_ne {l : List (Int × Int)} (hn : (docsF l).Nodup) {i j : Nat} (hi : i < l.length) (hj : j < l.length) (h : i ≠ j) : l[i].1 ≠ l[j].1 := by
  intro e
  rw [← fdocs_get l i hi, ← fdocs_get l j hj] at e
  exact h ((List.getElem_inj hn).1 e)
theorem fdocs_fresh {l : List (Int × Int)} (hn : (docsF l).Nodup) {n : Nat} (h : n < l.length) : l[n].1 ∉ docsF (l.take n) := by
  intro hm
  unfold docsF at hm
  obtain ⟨p, hp, e⟩ := List.mem_map.1 hm
  obtain ⟨i, hi, rfl⟩ := List.mem_iff_getElem.1 hp
  rw [List.length_take] at hi
  rw [List.getElem_take] at e
  exact fdocs_ne hn (by omega) h (by omega) e
theorem addI_step {F0 F : EnI QV} {l : List (Int × Int)} {B : Nat → Int → QV} {n : Nat} (hs : SortI F) (hn : (docsF l).Nodup) (h : n < l.length) (hA : AddI F0 l B F n) :
    getI F l[n].1 = getI F0 l[n].1 ∧ AddI F0 l B (putI F l[n].1 (qadd ((getI F0 l[n].1).getD qz) (B (n + 1) l[n].2))) (n + 1) := by
  refine ⟨hA.2 _ (fdocs_fresh hn h), fun i hi hlt => ?_, fun d hd => ?_⟩
  · rw [getI_put hs]
    by_cases e : i = n
    · subst e; rw [if_pos rfl]
    · rw [if_neg (fdocs_ne hn hi h e)]
      exact hA.1 i hi (by omega)
  · rw [fdocs_take l n h] at hd
    rw [getI_put hs, if_neg (fun e => hd (List.mem_append_right _ (by simp [e])))]
    exact hA.2 d (fun h => hd (List.mem_append_left _ h))
end Go.Proofs.Ytpgbnjneoejebaa

namespace Go.Proofs.Ytpgbnjneoejebaa
open Go.RowKit

/-! plain: the values of two lists -/
theorem qadd_z (b : QV) : qadd qz b = b := by
  have e : qz.1 + b.1 = b.1 := Rat.zero_add _
  have h : QIn (qz.1 + b.1) := by rw [e]; exact b.2
  exact Subtype.ext ((qadd_val h).trans e)
theorem qadd_comm (a b : QV) : qadd a b = qadd b a := by
  have e : a.1 + b.1 = b.1 + a.1 := Rat.add_comm _ _
  by_cases h : QIn (a.1 + b.1)
  · have h2 : QIn (b.1 + a.1) := by rw [← e]; exact h
    exact Subtype.ext ((qadd_val h).trans (e.trans (qadd_val h2).symm))
  · have h2 : ¬ QIn (b.1 + a.1) := by rw [← e]; exact h
    unfold qadd
    rw [dif_neg h, dif_neg h2]
/-- The values of all documents of two lists. -/
def FuI (x y : List (Int × Int)) (B C : Nat → Int → QV) (F : EnI QV) : Prop :=
  SortI F ∧ F.length ≤ x.length + y.length ∧ ∃ F1, SortI F1 ∧ AddI [] x B F1 x.length ∧ AddI F1 y C F y.length
theorem fdocs_at {l : List (Int × Int)} {d : Int} (h : d ∈ docsF l) : ∃ i, ∃ h : i < l.length, l[i].1 = d := by
  unfold docsF at h
  obtain ⟨p, hp, e⟩ := List.mem_map.1 h
  obtain ⟨i, hi, rfl⟩ := List.mem_iff_getElem.1 hp
  exact ⟨i, hi, e⟩
theorem fdocs_in (l : List (Int × Int)) (i : Nat) (h : i < l.length) : l[i].1 ∈ docsF l := List.mem_map.2 ⟨_, List.getElem_mem h, rfl⟩
theorem addI_in {F0 F : EnI QV} {l : List (Int × Int)} {B : Nat → Int → QV} (h : AddI F0 l B F l.length) (i : Nat) (hi : i < l.length) : getI F l[i].1 = some (qadd ((getI F0 l[i].1).getD qz) (B (i + 1) l[i].2)) := h.1 i hi hi
theorem addI_out {F0 F : EnI QV} {l : List (Int × Int)} {B : Nat → Int → QV} (h : AddI F0 l B F l.length) (d : Int) (hd : d ∉ docsF l) : getI F d = getI F0 d := h.2 d (by rw [List.take_length]; exact hd)
theorem addI_nil {l : List (Int × Int)} {B : Nat → Int → QV} {F : EnI QV} (h : AddI [] l B F l.length) (i : Nat) (hi : i < l.length) : getI F l[i].1 = some (B (i + 1) l[i].2) := by
  rw [addI_in h i hi]
  exact congrArg some (qadd_z _)
theorem fu_both {x y : List (Int × Int)} {B C : Nat → Int → QV} {F : EnI QV} (h : FuI x y B C F) (i j : Nat) (hi : i < x.length) (hj : j < y.length) (e : x[i].1 = y[j].1) : getI F x[i].1 = some (qadd (B (i + 1) x[i].2) (C (j + 1) y[j].2)) := by
  obtain ⟨_, _, F1, _, h1, h2⟩ := h
  have g1 := addI_nil h1 i hi
  rw [e] at g1 ⊢
  rw [addI_in h2 j hj, g1]; rfl
theorem fu_left {x y : List (Int × Int)} {B C : Nat → Int → QV} {F : EnI QV} (h : FuI x y B C F) (i : Nat) (hi : i < x.length) (hn : x[i].1 ∉ docsF y) : getI F x[i].1 = some (B (i + 1) x[i].2) := by
  obtain ⟨_, _, F1, _, h1, h2⟩ := h
  rw [addI_out h2 _ hn]
  exact addI_nil h1 i hi
theorem fu_right {x y : List (Int × Int)} {B C : Nat → Int → QV} {F : EnI QV} (h : FuI x y B C F) (j : Nat) (hj : j < y.length) (hn : y[j].1 ∉ docsF x) : getI F y[j].1 = some (C (j + 1) y[j].2) := by
  obtain ⟨_, _, F1, _, h1, h2⟩ := h
  rw [addI_in h2 j hj, addI_out h1 _ hn]
  exact congrArg some (qadd_z _)
theorem fu_none {x y : List (Int × Int)} {B C : Nat → Int → QV} {F : EnI QV} (h : FuI x y B C F) (d : Int) (hx : d ∉ docsF x) (hy : d ∉ docsF y) : getI F d = none := by
  obtain ⟨_, _, F1, _, h1, h2⟩ := h
  rw [addI_out h2 _ hy, addI_out h1 _ hx]; rfl
theorem fu_cases (x y : List (Int × Int)) (d : Int) : (∃ i j, ∃ (hi : i < x.length) (hj : j < y.length), x[i].1 = d ∧ y[j].1 = d) ∨ (∃ i, ∃ hi : i < x.length, x[i].1 = d ∧ d ∉ docsF y) ∨ (∃ j, ∃ hj : j < y.length, y[j].1 = d ∧ d ∉ docsF x) ∨ (d ∉ docsF x ∧ d ∉ docsF y) := by
  by_cases hx : d ∈ docsF x
  · obtain ⟨i, hi, e⟩ := fdocs_at hx
    by_cases hy : d ∈ docsF y
    · obtain ⟨j, hj, e2⟩ := fdocs_at hy
      exact .inl ⟨i, j, hi, hj, e, e2⟩
    · exact .inr (.inl ⟨i, hi, e, hy⟩)
  · by_cases hy : d ∈ docsF y
    · obtain ⟨j, hj, e2⟩ := fdocs_at hy
      exact .inr (.inr (.inl ⟨j, hj, e2, hx⟩))
    · exact .inr (.inr (.inr ⟨hx, hy⟩))
/-- The lists may be turned about. -/
theorem fu_turn {x y : List (Int × Int)} {B C : Nat → Int → QV} {F G : EnI QV} (h : FuI x y B C F) (g : FuI y x C B G) : F = G := by
  refine enI_ext h.1 g.1 (fun d => ?_)
  rcases fu_cases x y d with ⟨i, j, hi, hj, e1, e2⟩ | ⟨i, hi, e, hn⟩ | ⟨j, hj, e, hn⟩ | ⟨hx, hy⟩
  · have a := fu_both h i j hi hj (e1.trans e2.symm)
    have b := fu_both g j i hj hi (e2.trans e1.symm)
    rw [e1] at a; rw [e2] at b
    rw [a, b, qadd_comm]
  · subst e
    rw [fu_left h i hi hn, fu_right g i hi hn]
  · subst e
    rw [fu_right h j hj hn, fu_left g j hj hn]
  · rw [fu_none h d hx hy, fu_none g d hy hx]
theorem fu_uniq {x y : List (Int × Int)} {B C : Nat → Int → QV} {F G : EnI QV} (h : FuI x y B C F) (g : FuI x y B C G) : F = G := by
  refine enI_ext h.1 g.1 (fun d => ?_)
  rcases fu_cases x y d with ⟨i, j, hi, hj, e1, e2⟩ | ⟨i, hi, e, hn⟩ | ⟨j, hj, e, hn⟩ | ⟨hx, hy⟩
  · have a := fu_both h i j hi hj (e1.trans e2.symm)
    have b := fu_both g i j hi hj (e1.trans e2.symm)
    rw [e1] at a b
    rw [a, b]
  · subst e
    rw [fu_left h i hi hn, fu_left g i hi hn]
  · subst e
    rw [fu_right h j hj hn, fu_right g j hj hn]
  · rw [fu_none h d hx hy, fu_none g d hx hy]
/-- Values of numbers. -/
def qmk (n : Int) (d : Nat) : QV := if h : QIn (mkRat n d) then ⟨mkRat n d, h⟩ else qz
theorem mkRat_unit (d : Nat) (h : 0 < d) : (mkRat 1 d).num = 1 ∧ (mkRat 1 d).den = d := by
  have := Rat.mk_eq_mkRat 1 d (by omega) (by simp)
  rw [← this]
  exact ⟨rfl, rfl⟩
theorem mkRat_whole (n : Int) : (mkRat n 1).num = n ∧ (mkRat n 1).den = 1 := by
  have := Rat.mk_eq_mkRat n 1 (by omega) (by simp)
  rw [← this]
  exact ⟨rfl, rfl⟩
theorem unit_in (d : Nat) (h : 0 < d) (h2 : d ≤ 9223372036854775807) : QIn (mkRat 1 d) := by
  obtain ⟨a, b⟩ := mkRat_unit d h
  unfold QIn i64in
  rw [a, b]; omega
theorem whole_in (n : Int) (h : i64in n) : QIn (mkRat n 1) := by
  obtain ⟨a, b⟩ := mkRat_whole n
  unfold QIn
  rw [a, b]
  exact ⟨h, by unfold i64in; omega⟩
theorem qmk_val {n : Int} {d : Nat} (h : QIn (mkRat n d)) : (qmk n d).1 = mkRat n d := by unfold qmk; rw [dif_pos h]
/-- What a rank brings. -/
def rkB (c : Int) (r : Nat) (_ : Int) : QV := qmk 1 (c + r).toNat
/-- What a score brings. -/
def wtB (a : Int) (_ : Nat) (s : Int) : QV := qmk (a * s) 1
theorem rkB_val (c : Int) (r : Nat) (s : Int) (hc : 1 ≤ c ∧ c ≤ 1000000) (hr : r ≤ 1000000) : (rkB c r s).1 = mkRat 1 (c + r).toNat := qmk_val (unit_in _ (by omega) (by omega))
theorem unit_lt {m n : Nat} (h : 0 < n) (h2 : n < m) : mkRat 1 m < mkRat 1 n := by
  obtain ⟨a, b⟩ := mkRat_unit m (by omega)
  obtain ⟨c, d⟩ := mkRat_unit n h
  rw [Rat.lt_iff, a, b, c, d]; omega
theorem unit_pos {n : Nat} (h : 0 < n) : 0 < mkRat 1 n := by
  obtain ⟨c, d⟩ := mkRat_unit n h
  rw [Rat.lt_iff, c, d]; show (0 : Int) * _ < 1 * 1; omega
theorem unit_sum_in (p q : Nat) (hp : 0 < p) (hq : 0 < q) (hp2 : p ≤ 2000000) (hq2 : q ≤ 2000000) : QIn (mkRat 1 p + mkRat 1 q) := by
  have h1 := Rat.mkRat_add_mkRat 1 1 (d₁ := p) (d₂ := q) (by omega) (by omega)
  rw [h1]
  have h2 : 0 < p * q := Nat.mul_pos hp hq
  have h3 : p * q ≤ 2000000 * 2000000 := Nat.mul_le_mul hp2 hq2
  unfold QIn i64in
  rw [Rat.num_mkRat, Rat.den_mkRat, if_neg (by omega), if_neg (by omega)]
  generalize p * q = d at *
  have hn : (1 : Int) * q + 1 * p = ((q + p : Nat) : Int) := by push_cast; omega
  rw [hn, Int.natAbs_natCast]
  have hg : 0 < d.gcd (q + p) := Nat.gcd_pos_of_pos_left _ h2
  have h4 : (q + p) / d.gcd (q + p) ≤ q + p := Nat.div_le_self _ _
  have h5 : d / d.gcd (q + p) ≤ d := Nat.div_le_self _ _
  rw [← Int.natCast_ediv]
  generalize (q + p) / d.gcd (q + p) = u at *
  generalize d / d.gcd (q + p) = v at *
  omega
end Go.Proofs.Ytpgbnjneoejebaa

namespace Go.Proofs.Ytpgbnjneoejebaa
open Go.RowKit

/-! plain: orders of what is fused -/
theorem sortI_nodup {α : Type} {F : EnI α} (h : SortI F) : F.Nodup := List.Pairwise.imp (fun {a b} h e => by subst e; exact absurd h (Int.lt_irrefl _)) h
theorem sortI_uniq {α : Type} {F : EnI α} (h : SortI F) {p q : Int × α} (hp : p ∈ F) (hq : q ∈ F) (e : p.1 = q.1) : p = q := by
  have h1 := (getI_iff h).2 (show (p.1, p.2) ∈ F from hp)
  have h2 := (getI_iff h).2 (show (q.1, q.2) ∈ F from hq)
  rw [e, h2] at h1
  exact Prod.ext e (Option.some.inj h1).symm
theorem bet_val {a b : VP} (h : b.2.1 < a.2.1) : Bet.bet a b = true := (betV_iff a b).2 (.inl h)
/-- A list alone, in its order. -/
def aloneP (c : Int) (x : List (Int × Int)) : List VP := x.mapIdx fun i p => (p.1, rkB c (i + 1) p.2)
theorem alone_len (c : Int) (x : List (Int × Int)) : (aloneP c x).length = x.length := by unfold aloneP; rw [List.length_mapIdx]
theorem alone_at (c : Int) (x : List (Int × Int)) (i : Nat) (h : i < x.length) : (aloneP c x)[i]'(by rw [alone_len]; exact h) = (x[i].1, rkB c (i + 1) x[i].2) := by unfold aloneP; rw [List.getElem_mapIdx]
theorem alone_sort {c : Int} {x : List (Int × Int)} {F : EnI QV} (hF : FuI x [] (rkB c) (rkB c) F) (hn : (docsF x).Nodup) (hc : 1 ≤ c ∧ c ≤ 1000000) (hl : x.length ≤ 1000) : sortG F = aloneP c x := by
  refine (sortG_uniq ?_ ?_).symm
  · refine (List.perm_ext_iff_of_nodup ?_ (sortI_nodup hF.1)).2 (fun p => ?_)
    · rw [List.nodup_iff_pairwise_ne, List.pairwise_iff_getElem]
      intro i j hi hj hij e
      rw [alone_len] at hi hj
      rw [alone_at c x i hi, alone_at c x j hj] at e
      exact fdocs_ne hn hi hj (by omega) (Prod.mk.inj e).1
    · rw [show p = (p.1, p.2) from rfl, ← getI_iff hF.1]
      constructor
      · intro h
        obtain ⟨i, hi, e⟩ := List.mem_iff_getElem.1 h
        rw [alone_len] at hi
        rw [alone_at c x i hi] at e
        obtain ⟨e1, e2⟩ := Prod.mk.inj e
        rw [← e1, ← e2]
        exact fu_left hF i hi (by simp [docsF])
      · intro h
        rcases fu_cases x [] p.1 with ⟨i, j, hi, hj, _, _⟩ | ⟨i, hi, e, hn2⟩ | ⟨j, hj, _, _⟩ | ⟨hx, hy⟩
        · simp at hj
        · rw [← e, fu_left hF i hi (by simp [docsF])] at h
          rw [← e, ← Option.some.inj h, ← alone_at c x i hi]
          exact List.getElem_mem _
        · simp at hj
        · rw [fu_none hF _ hx hy] at h; cases h
  · unfold SortG
    rw [List.pairwise_iff_getElem]
    intro i j hi hj hij
    rw [alone_len] at hi hj
    rw [alone_at c x i hi, alone_at c x j hj]
    refine noG_of (bet_val ?_)
    show (rkB c (j + 1) x[j].2).1 < (rkB c (i + 1) x[i].2).1
    rw [rkB_val c _ _ hc (by omega), rkB_val c _ _ hc (by omega)]
    exact unit_lt (by omega) (by omega)
/-- What stands in its order stands strictly so, where documents differ. -/
theorem best_strict {K : Int} {F : EnI QV} (hs : SortI F) (i j : Nat) (hi : i < j) (hj : j < (bestG K F).length) : Bet.bet (bestG K F)[i] (bestG K F)[j] = true ∧ (bestG K F)[i].1 ≠ (bestG K F)[j].1 := by
  have hnd : (bestG K F).Nodup := ((sortG_perm F).nodup_iff.2 (sortI_nodup hs)).sublist (List.take_sublist _ _)
  have hm : ∀ n (h : n < (bestG K F).length), (bestG K F)[n] ∈ F := fun n h => (sortG_perm F).mem_iff.1 ((List.take_sublist _ _).mem (List.getElem_mem h))
  have hne : (bestG K F)[i] ≠ (bestG K F)[j] := fun e => by have := (List.getElem_inj hnd).1 e; omega
  have hn1 : (bestG K F)[i].1 ≠ (bestG K F)[j].1 := fun e => hne (sortI_uniq hs (hm i (by omega)) (hm j hj) e)
  refine ⟨?_, hn1⟩
  have h1 : Bet.bet (bestG K F)[j] (bestG K F)[i] = false := (List.pairwise_iff_getElem.1 (bestG_sort K F)) i j (by omega) hj hi
  cases h2 : Bet.bet (bestG K F)[i] (bestG K F)[j] with
  | true => rfl
  | false => exact absurd (Bet.anti _ _ h2 h1) (fun e => hne e.symm)
/-- What both have first is first. -/
theorem both_first {c K : Int} {x y : List (Int × Int)} {F : EnI QV} (hF : FuI x y (rkB c) (rkB c) F) (hx : (docsF x).Nodup) (hy : (docsF y).Nodup) (hc : 1 ≤ c ∧ c ≤ 1000000) (lx : x.length ≤ 1000) (ly : y.length ≤ 1000)
    (h0 : 0 < x.length) (h1 : 0 < y.length) (e : x[0].1 = y[0].1) (hK : 0 < (bestG K F).length) : (bestG K F)[0].1 = x[0].1 := by
  by_cases hd : (bestG K F)[0].1 = x[0].1
  · exact hd
  exfalso
  have hb := fu_both hF 0 0 h0 h1 e
  have hin : (x[0].1, qadd (rkB c 1 x[0].2) (rkB c 1 y[0].2)) ∈ F := (getI_iff hF.1).1 hb
  have hu : ∀ (r : Nat) (s : Int), r ≤ 1001 → (rkB c r s).1 = mkRat 1 (c + r).toNat := fun r s h => rkB_val c r s hc (by omega)
  have hsum : ∀ (r t : Nat) (s u : Int), 1 ≤ r → 1 ≤ t → r ≤ 1001 → t ≤ 1001 → (qadd (rkB c r s) (rkB c t u)).1 = mkRat 1 (c + r).toNat + mkRat 1 (c + t).toNat := fun r t s u hr ht h2 h3 => by
    have e1 := hu r s h2; have e2 := hu t u h3
    rw [qadd_val (by rw [e1, e2]; exact unit_sum_in _ _ (by omega) (by omega) (by omega) (by omega)), e1, e2]
  have hv0 := hsum 1 1 x[0].2 y[0].2 (by omega) (by omega) (by omega) (by omega)
  have hpos : 0 < mkRat 1 (c + (1 : Nat)).toNat := unit_pos (by omega)
  have hless : ∀ r : Nat, 2 ≤ r → r ≤ 1001 → mkRat 1 (c + r).toNat < mkRat 1 (c + (1 : Nat)).toNat := fun r h2 h3 => unit_lt (by omega) (by omega)
  have hbest : ∀ p ∈ F, p.1 ≠ x[0].1 → Bet.bet (x[0].1, qadd (rkB c 1 x[0].2) (rkB c 1 y[0].2)) p = true := by
    intro p hp hne
    refine bet_val ?_
    show p.2.1 < (qadd (rkB c 1 x[0].2) (rkB c 1 y[0].2)).1
    rw [hv0]
    have hg := (getI_iff hF.1).2 (show (p.1, p.2) ∈ F from hp)
    rcases fu_cases x y p.1 with ⟨i, j, hi, hj, e1, e2⟩ | ⟨i, hi, e1, hn⟩ | ⟨j, hj, e1, hn⟩ | ⟨n1, n2⟩
    · have i0 : i ≠ 0 := fun h => by subst h; exact hne e1.symm
      have j0 : j ≠ 0 := fun h => by subst h; exact hne (e2.symm.trans e.symm)
      rw [← e1, fu_both hF i j hi hj (e1.trans e2.symm)] at hg
      rw [← Option.some.inj hg, hsum _ _ _ _ (by omega) (by omega) (by omega) (by omega)]
      have a := hless (i + 1) (by omega) (by omega)
      have b := hless (j + 1) (by omega) (by omega)
      generalize mkRat 1 (c + ((i + 1 : Nat) : Int)).toNat = u at *
      generalize mkRat 1 (c + ((j + 1 : Nat) : Int)).toNat = v at *
      generalize mkRat 1 (c + ((1 : Nat) : Int)).toNat = z at *
      clear hless hsum hu hv0
      grind
    · have i0 : i ≠ 0 := fun h => by subst h; exact hne e1.symm
      rw [← e1, fu_left hF i hi (by rw [e1]; exact hn)] at hg
      rw [← Option.some.inj hg, hu _ _ (by omega)]
      have a := hless (i + 1) (by omega) (by omega)
      generalize mkRat 1 (c + ((i + 1 : Nat) : Int)).toNat = u at *
      generalize mkRat 1 (c + ((1 : Nat) : Int)).toNat = z at *
      clear hless hsum hu hv0
      grind
    · have j0 : j ≠ 0 := fun h => by subst h; exact hne (e1.symm.trans e.symm)
      rw [← e1, fu_right hF j hj (by rw [e1]; exact hn)] at hg
      rw [← Option.some.inj hg, hu _ _ (by omega)]
      have a := hless (j + 1) (by omega) (by omega)
      generalize mkRat 1 (c + ((j + 1 : Nat) : Int)).toNat = u at *
      generalize mkRat 1 (c + ((1 : Nat) : Int)).toNat = z at *
      clear hless hsum hu hv0
      grind
    · rw [fu_none hF _ n1 n2] at hg; cases hg
  have hlen : 0 < (sortG F).length := by have := bestG_len K F; rw [sortG_len]; omega
  have hp0 : (bestG K F)[0] = (sortG F)[0] := List.getElem_take (h := show 0 < (List.take K.toNat (sortG F)).length from hK)
  have hmem : (bestG K F)[0] ∈ F := by rw [hp0]; exact (sortG_perm F).mem_iff.1 (List.getElem_mem _)
  have hbt := hbest _ hmem hd
  obtain ⟨i, hi, ei⟩ := List.mem_iff_getElem.1 ((sortG_perm F).mem_iff.2 hin)
  by_cases i0 : i = 0
  · subst i0
    rw [hp0, ei] at hd
    exact hd rfl
  · have := (List.pairwise_iff_getElem.1 (sortG_sort F)) 0 i (by omega) hi (by omega)
    unfold noG at this
    rw [ei, ← hp0, hbt] at this
    cases this
end Go.Proofs.Ytpgbnjneoejebaa

namespace Go.Proofs.Ytpgbnjneoejebaa
open Go.RowKit

/-! plain: the values of two lists, reckoned -/
def addP (F0 : EnI QV) (l : List (Int × Int)) (B : Nat → Int → QV) : Nat → EnI QV
  | 0 => F0
  | n + 1 => match l[n]? with
    | some p => putI (addP F0 l B n) p.1 (qadd ((getI F0 p.1).getD qz) (B (n + 1) p.2))
    | none => addP F0 l B n
theorem addP_ok {F0 : EnI QV} {l : List (Int × Int)} {B : Nat → Int → QV} (h0 : SortI F0) (hn : (docsF l).Nodup) : ∀ n, n ≤ l.length → SortI (addP F0 l B n) ∧ AddI F0 l B (addP F0 l B n) n ∧ (addP F0 l B n).length ≤ F0.length + n
  | 0, _ => ⟨h0, addI_start _ _ _, Nat.le_refl _⟩
  | n + 1, h => by
    obtain ⟨h1, h2, h3⟩ := addP_ok (B := B) h0 hn n (by omega)
    obtain ⟨_, s2⟩ := addI_step h1 hn (show n < l.length by omega) h2
    unfold addP
    rw [List.getElem?_eq_getElem (show n < l.length by omega)]
    refine ⟨sort_putI h1 _ _, s2, ?_⟩
    have := len_putI l[n].1 (qadd ((getI F0 l[n].1).getD qz) (B (n + 1) l[n].2)) (addP F0 l B n)
    simp only
    omega
def fuP (x y : List (Int × Int)) (B C : Nat → Int → QV) : EnI QV := addP (addP [] x B x.length) y C y.length
theorem fuP_ok {x y : List (Int × Int)} {B C : Nat → Int → QV} (hx : (docsF x).Nodup) (hy : (docsF y).Nodup) : FuI x y B C (fuP x y B C) := by
  obtain ⟨a1, a2, a3⟩ := addP_ok (F0 := []) (B := B) List.Pairwise.nil hx x.length (Nat.le_refl _)
  obtain ⟨b1, b2, b3⟩ := addP_ok (B := C) a1 hy y.length (Nat.le_refl _)
  refine ⟨b1, ?_, _, a1, a2, b2⟩
  unfold fuP
  simp at a3
  omega
theorem fuP_eq {x y : List (Int × Int)} {B C : Nat → Int → QV} {F : EnI QV} (hF : FuI x y B C F) (hx : (docsF x).Nodup) (hy : (docsF y).Nodup) : F = fuP x y B C := fu_uniq hF (fuP_ok hx hy)
def q1 (n : Int) (d : Nat) : QV := qmk n d
theorem aw_ranks : (bestG 9 (fuP [(5, 2)] [(5, 3), (6, 1)] (rkB 1) (rkB 1))).map (fun x : VP => (x.1, vb x, vc x)) = [(5, 1, 1), (6, 1, 3)] := by kernel_rfl
theorem aw_weights : (bestG 1 (fuP [(5, 2)] [(5, 3), (6, 1)] (wtB 10) (wtB 1))).map (fun x : VP => (x.1, vb x, vc x)) = [(5, 23, 1)] := by kernel_rfl
end Go.Proofs.Ytpgbnjneoejebaa
