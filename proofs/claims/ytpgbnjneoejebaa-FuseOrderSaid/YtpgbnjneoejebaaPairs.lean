import Derived.Test.YtpgbnjneoejebaaSl
set_option linter.unusedVariables false
set_option linter.unusedSimpArgs false
namespace Go.Proofs.Ytpgbnjneoejebaa
open Go.RowKit

/-! slices of structs of two integers (a term, a post, a document with its score, a block) -/
abbrev pairV (p : Int × Int) : Value := .agg #[.int .i64 p.1, .int .i64 p.2]
def cells2 (l : List (Int × Int)) : List Value := l.flatMap fun p => [.int .i64 p.1, .int .i64 p.2]
theorem cells2_len (l : List (Int × Int)) : (cells2 l).length = l.length * 2 := by
  induction l with
  | nil => rfl
  | cons p l ih => unfold cells2 at ih ⊢; rw [List.flatMap_cons, List.length_append, ih]; simp; omega
theorem cells2_at : ∀ (l : List (Int × Int)) (i : Nat) (h : i < l.length), (cells2 l)[i * 2]? = some (.int .i64 l[i].1) ∧ (cells2 l)[i * 2 + 1]? = some (.int .i64 l[i].2)
  | p :: l, 0, _ => ⟨rfl, rfl⟩
  | p :: l, i + 1, h => by
    have := cells2_at l i (by simpa using h)
    unfold cells2 at this ⊢
    rw [List.flatMap_cons, show (i + 1) * 2 = i * 2 + 1 + 1 by omega]
    simpa using this
theorem cells2_snoc (l : List (Int × Int)) (p : Int × Int) : cells2 (l ++ [p]) = cells2 l ++ [.int .i64 p.1, .int .i64 p.2] := by unfold cells2; simp
theorem cells2_one (l : List (Int × Int)) : ∀ u ∈ cells2 l, u.oneCell' = true := by
  intro u hu
  obtain ⟨p, _, hp⟩ := List.mem_flatMap.1 hu
  simp at hp
  rcases hp with rfl | rfl <;> rfl
theorem cells2_append (l m : List (Int × Int)) : cells2 (l ++ m) = cells2 l ++ cells2 m := by unfold cells2; simp
theorem cells2_take (l : List (Int × Int)) (n : Nat) : cells2 (l.take n) = (cells2 l).take (n * 2) := by
  induction l generalizing n with
  | nil => simp [cells2]
  | cons p l ih =>
    cases n with
    | zero => simp [cells2]
    | succ n =>
      have := ih n
      unfold cells2 at this ⊢
      rw [List.take_succ_cons, List.flatMap_cons, List.flatMap_cons, this, show (n + 1) * 2 = n * 2 + 2 by omega]
      simp
def SlP (w : World) (v : Value) (l : List (Int × Int)) : Prop :=
  ∃ ad c, v = .slice ad l.length c ∧ l.length ≤ c ∧ c ≤ maxLen ∧ (ad = none → c = 0) ∧ (0 < l.length → ∃ b off, ad = some ⟨b, off, none⟩ ∧ ∀ i (h : i < l.length),
    w.cell? ⟨b, off + i * 2, none⟩ = some (.int .i64 l[i].1) ∧ w.cell? ⟨b, off + i * 2 + 1, none⟩ = some (.int .i64 l[i].2))
theorem SlP.lit {w : World} {v : Value} {l : List (Int × Int)} (h : SlP w v l) : ∃ ad c, v = .slice ad l.length c ∧ l.length ≤ c ∧ c ≤ maxLen := by
  obtain ⟨ad, c, h1, h2, h3, _⟩ := h; exact ⟨ad, c, h1, h2, h3⟩
theorem SlP.spot {w : World} {ad : Option Addr} {n c : Nat} {l : List (Int × Int)} (h : SlP w (.slice ad n c) l) (h0 : 0 < l.length) : ∃ b off, ad = some ⟨b, off, none⟩ ∧ ∀ i (h : i < l.length), w.cell? ⟨b, off + i * 2, none⟩ = some (.int .i64 l[i].1) ∧ w.cell? ⟨b, off + i * 2 + 1, none⟩ = some (.int .i64 l[i].2) := by
  obtain ⟨ad', c', e, _, _, _, h4⟩ := h
  simp only [Value.slice.injEq] at e
  obtain ⟨rfl, _, rfl⟩ := e
  exact h4 h0
theorem wf_i64 {a : Int} (h : -9223372036854775808 ≤ a ∧ a ≤ 9223372036854775807) : (Lit.int .i64 a).wf = true := by
  simp [Lit.wf, IntKind.min, IntKind.max, IntKind.signed, IntKind.bits]; omega
theorem two_facts {w : World} {b : Nat} {u v : Value} {t : TypeId} (h : w.heap[b]? = some (.cells #[u, v] t (0, 0))) :
    w.cell? ⟨b, 0, none⟩ = some u ∧ w.cell? ⟨b, 1, none⟩ = some v ∧ w.frozen? ⟨b, 0, none⟩ = false ∧ w.frozen? ⟨b, 1, none⟩ = false :=
  ⟨blk_cells h 0, blk_cells h 1, blk_frozen h 0, blk_frozen h 1⟩
theorem SlP.nil (w : World) : SlP w (.slice none 0 0) [] := ⟨none, 0, rfl, by simp, by simp, fun _ => rfl, fun h => absurd h (by simp)⟩
theorem SlP.keep {S : Nat → Prop} {w w' : World} {v : Value} {l : List (Int × Int)} (h : SlP w v l) (ho : Only S w w') (hS : ∀ b off sp n c, 0 < l.length → v = .slice (some ⟨b, off, sp⟩) n c → ¬ S b) : SlP w' v l := by
  obtain ⟨ad, c, rfl, h1, h2, h3, h4⟩ := h
  refine ⟨ad, c, rfl, h1, h2, h3, fun h0 => ?_⟩
  obtain ⟨b, off, rfl, hc⟩ := h4 h0
  refine ⟨b, off, rfl, fun i hi => ?_⟩
  have hb := hS b off none _ c h0 rfl
  exact ⟨ho.cell_eq (hc i hi).1 hb, ho.cell_eq (hc i hi).2 hb⟩
theorem SlP.only {S : Nat → Prop} {w w' : World} {v : Value} {l : List (Int × Int)} (h : SlP w v l) (ho : Only S w w') (hS : ∀ b, S b → w.heap.size ≤ b) : SlP w' v l := by
  obtain ⟨ad, c, rfl, h1, h2, h3, h4⟩ := h
  refine ⟨ad, c, rfl, h1, h2, h3, fun h0 => ?_⟩
  obtain ⟨b, off, rfl, hc⟩ := h4 h0
  refine ⟨b, off, rfl, fun i hi => ?_⟩
  have hlt := World.block_lt_of_cell? w _ (hc i hi).1
  have hb : ¬ S b := fun hb => by have := hS b hb; simp at hlt; omega
  exact ⟨ho.cell_eq (hc i hi).1 hb, ho.cell_eq (hc i hi).2 hb⟩
theorem SlP.same {w w' : World} {v : Value} {l : List (Int × Int)} (h : SlP w v l) (ho : Same w w') : SlP w' v l := h.only ho (fun _ h => h.elim)
theorem SlP.old {w : World} {v : Value} {l : List (Int × Int)} (h : SlP w v l) {b off n c : Nat} {sp} (h0 : 0 < l.length) (hv : v = .slice (some ⟨b, off, sp⟩) n c) : b < w.heap.size := by
  subst hv
  obtain ⟨ad, c', e, h1, h2, h3, h4⟩ := h
  obtain ⟨b', off', rfl, hc⟩ := h4 h0
  simp only [Value.slice.injEq, Option.some.injEq, Addr.mk.injEq] at e
  obtain ⟨⟨rfl, rfl, _⟩, _, _⟩ := e
  exact World.block_lt_of_cell? w _ (hc 0 h0).1
theorem own_slp {w : World} {base : Nat} {e : TypeId} {v : Value} {n : Nat} {l : List (Int × Int)} (h : w.ownsRow base e 2 v n (cells2 l)) : SlP w v l := by
  have hn : l.length = n := by have := h.1; rw [cells2_len] at this; omega
  subst hn
  rcases h.2 with ⟨rfl, h0⟩ | ⟨g, cap, cur, rfl, _, hg, hnc, hm, _, htake⟩
  · have hl : l = [] := List.eq_nil_of_length_eq_zero h0
    subst hl
    exact SlP.nil w
  · refine ⟨_, _, rfl, hnc, hm, (by intro h; cases h), fun _ => ⟨g, 0, rfl, fun i hi => ?_⟩⟩
    have h1 := cells2_at l i hi
    have e1 := congrArg (fun l => l[i * 2]?) htake
    have e2 := congrArg (fun l => l[i * 2 + 1]?) htake
    simp only [List.getElem?_take, Array.getElem?_toList] at e1 e2
    rw [if_pos (by omega)] at e1 e2
    rw [h1.1] at e1
    rw [h1.2] at e2
    refine ⟨?_, ?_⟩
    · rw [Nat.zero_add, blk_cells hg]; simpa using e1
    · rw [Nat.zero_add, blk_cells hg]; simpa using e2
end Go.Proofs.Ytpgbnjneoejebaa
