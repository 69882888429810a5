import Derived.Test.YtpgbnjneoejebaaRatQ
import Derived.Test.YtpgbnjneoejebaaFacts
import Derived.BigQuiet
set_option linter.unusedVariables false
set_option linter.unusedSimpArgs false
namespace Go.Proofs.Ytpgbnjneoejebaa
open Go.RowKit

/-! slices of documents with their values (three cells each) -/
def cells3 (l : List VP) : List Value := l.flatMap fun p => [.int .i64 p.1, .int .i64 (vb p), .int .i64 (vc p)]
theorem cells3_len (l : List VP) : (cells3 l).length = l.length * 3 := by
  induction l with
  | nil => rfl
  | cons p l ih => unfold cells3 at ih ⊢; rw [List.flatMap_cons, List.length_append, ih]; simp; omega
theorem cells3_at : ∀ (l : List VP) (i : Nat) (h : i < l.length), (cells3 l)[i * 3]? = some (.int .i64 l[i].1) ∧ (cells3 l)[i * 3 + 1]? = some (.int .i64 (vb l[i])) ∧ (cells3 l)[i * 3 + 2]? = some (.int .i64 (vc l[i]))
  | p :: l, 0, _ => ⟨rfl, rfl, rfl⟩
  | p :: l, i + 1, h => by
    have := cells3_at l i (by simpa using h)
    unfold cells3 at this ⊢
    rw [List.flatMap_cons, show (i + 1) * 3 = i * 3 + 1 + 1 + 1 by omega]
    simpa using this
theorem cells3_snoc (l : List VP) (p : VP) : cells3 (l ++ [p]) = cells3 l ++ [.int .i64 p.1, .int .i64 (vb p), .int .i64 (vc p)] := by unfold cells3; simp
theorem cells3_one (l : List VP) : ∀ u ∈ cells3 l, u.oneCell' = true := by
  intro u hu
  obtain ⟨p, _, hp⟩ := List.mem_flatMap.1 hu
  simp at hp
  rcases hp with rfl | rfl | rfl <;> rfl
theorem cells3_set : ∀ (h : List VP) (i : Nat) (x : VP), cells3 (h.set i x) = (((cells3 h).set (i * 3) (.int .i64 x.1)).set (i * 3 + 1) (.int .i64 (vb x))).set (i * 3 + 2) (.int .i64 (vc x))
  | [], i, x => by simp [cells3]
  | e :: r, 0, x => by simp [cells3]
  | e :: r, i + 1, x => by
    have := cells3_set r i x
    simp only [cells3, List.flatMap_cons, List.set_cons_succ] at this ⊢
    rw [show (i + 1) * 3 = i * 3 + 1 + 1 + 1 by omega]
    simp [this]
def SlV (w : World) (v : Value) (l : List VP) : Prop :=
  ∃ ad c, v = .slice ad l.length c ∧ l.length ≤ c ∧ c ≤ maxLen ∧ (ad = none → c = 0) ∧ (0 < l.length → ∃ b off, ad = some ⟨b, off, none⟩ ∧ ∀ i (h : i < l.length),
    w.cell? ⟨b, off + i * 3, none⟩ = some (.int .i64 l[i].1) ∧ w.cell? ⟨b, off + i * 3 + 1, none⟩ = some (.int .i64 (vb l[i])) ∧ w.cell? ⟨b, off + i * 3 + 2, none⟩ = some (.int .i64 (vc l[i])))
theorem SlV.lit {w : World} {v : Value} {l : List VP} (h : SlV w v l) : ∃ ad c, v = .slice ad l.length c ∧ l.length ≤ c ∧ c ≤ maxLen := by
  obtain ⟨ad, c, h1, h2, h3, _⟩ := h; exact ⟨ad, c, h1, h2, h3⟩
theorem SlV.spot {w : World} {ad : Option Addr} {n c : Nat} {l : List VP} (h : SlV w (.slice ad n c) l) (h0 : 0 < l.length) : ∃ b off, ad = some ⟨b, off, none⟩ ∧ ∀ i (h : i < l.length), w.cell? ⟨b, off + i * 3, none⟩ = some (.int .i64 l[i].1) ∧ w.cell? ⟨b, off + i * 3 + 1, none⟩ = some (.int .i64 (vb l[i])) ∧ w.cell? ⟨b, off + i * 3 + 2, none⟩ = some (.int .i64 (vc l[i])) := by
  obtain ⟨ad', c', e, _, _, _, h4⟩ := h
  simp only [Value.slice.injEq] at e
  obtain ⟨rfl, _, rfl⟩ := e
  exact h4 h0
theorem SlV.nil (w : World) : SlV w (.slice none 0 0) [] := ⟨none, 0, rfl, by simp, by simp, fun _ => rfl, fun h => absurd h (by simp)⟩
theorem SlV.only {S : Nat → Prop} {w w' : World} {v : Value} {l : List VP} (h : SlV w v l) (ho : Only S w w') (hS : ∀ b, S b → w.heap.size ≤ b) : SlV w' v l := by
  obtain ⟨ad, c, rfl, h1, h2, h3, h4⟩ := h
  refine ⟨ad, c, rfl, h1, h2, h3, fun h0 => ?_⟩
  obtain ⟨b, off, rfl, hc⟩ := h4 h0
  refine ⟨b, off, rfl, fun i hi => ?_⟩
  have hlt := World.block_lt_of_cell? w _ (hc i hi).1
  have hb : ¬ S b := fun hb => by have := hS b hb; simp at hlt; omega
  exact ⟨ho.cell_eq (hc i hi).1 hb, ho.cell_eq (hc i hi).2.1 hb, ho.cell_eq (hc i hi).2.2 hb⟩
theorem SlV.same {w w' : World} {v : Value} {l : List VP} (h : SlV w v l) (ho : Same w w') : SlV w' v l := h.only ho (fun _ h => h.elim)
theorem own_slv {w : World} {base : Nat} {e : TypeId} {v : Value} {n : Nat} {l : List VP} (h : w.ownsRow base e 3 v n (cells3 l)) : SlV w v l := by
  have hn : l.length = n := by have := h.1; rw [cells3_len] at this; omega
  subst hn
  rcases h.2 with ⟨rfl, h0⟩ | ⟨g, cap, cur, rfl, _, hg, hnc, hm, _, htake⟩
  · have hl : l = [] := List.eq_nil_of_length_eq_zero h0
    subst hl
    exact SlV.nil w
  · refine ⟨_, _, rfl, hnc, hm, (by intro h; cases h), fun _ => ⟨g, 0, rfl, fun i hi => ?_⟩⟩
    have h1 := cells3_at l i hi
    have e1 := congrArg (fun l => l[i * 3]?) htake
    have e2 := congrArg (fun l => l[i * 3 + 1]?) htake
    have e3 := congrArg (fun l => l[i * 3 + 2]?) htake
    simp only [List.getElem?_take, Array.getElem?_toList] at e1 e2 e3
    rw [if_pos (by omega)] at e1 e2 e3
    rw [h1.1] at e1
    rw [h1.2.1] at e2
    rw [h1.2.2] at e3
    refine ⟨?_, ?_, ?_⟩
    · rw [Nat.zero_add, blk_cells hg]; simpa using e1
    · rw [Nat.zero_add, blk_cells hg]; simpa using e2
    · rw [Nat.zero_add, blk_cells hg]; simpa using e3
theorem three_new1 {w : World} {b : Nat} {u0 u1 u2 : Value} {t : TypeId} (h : w.heap[b]? = some (.cells #[u0, u1, u2] t (0, 0))) (i : Nat) (hi : i < 3) : w.frozen? ⟨b, i, none⟩ = false := blk_frozen h i
/-- Three cells of a block, all set. -/
theorem three_set {w : World} {b : Nat} {u0 u1 u2 : Value} {t : TypeId} (h : w.heap[b]? = some (.cells #[u0, u1, u2] t (0, 0))) (x y z : Value) : (((w.setCell ⟨b, 0, none⟩ x).setCell ⟨b, 1, none⟩ y).setCell ⟨b, 2, none⟩ z).heap[b]? = some (.cells #[x, y, z] t (0, 0)) := by
  have := blk_set (j := 2) (v := z) (blk_set (j := 1) (v := y) (blk_set (j := 0) (v := x) h))
  simpa using this
abbrev vblk (x : VP) : Array Value := #[.int .i64 x.1, .int .i64 (vb x), .int .i64 (vc x)]
end Go.Proofs.Ytpgbnjneoejebaa
