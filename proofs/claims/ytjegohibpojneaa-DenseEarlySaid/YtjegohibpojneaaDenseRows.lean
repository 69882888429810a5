import Derived.Test.YtjegohibpojneaaDenseScore
set_option linter.unusedVariables false
set_option linter.unusedSimpArgs false
namespace Go.Proofs.Ytjegohibpojneaa
open Go.RowKit

/-! dense: rows (a document, its vector) -/
abbrev RowP := Int × List Int
/-- A slice of rows. -/
def SlR (w : World) (v : Value) (l : List RowP) : Prop :=
  ∃ ad c, v = .slice ad l.length c ∧ l.length ≤ c ∧ c ≤ maxLen ∧ (ad = none → c = 0) ∧ (0 < l.length → ∃ b off, ad = some ⟨b, off, none⟩ ∧ ∀ i (h : i < l.length),
    w.cell? ⟨b, off + i * 2, none⟩ = some (.int .i64 l[i].1) ∧ ∃ u, w.cell? ⟨b, off + i * 2 + 1, none⟩ = some u ∧ Sl w (.int .i64) u l[i].2)
theorem SlR.lit {w : World} {v : Value} {l : List RowP} (h : SlR w v l) : ∃ ad c, v = .slice ad l.length c ∧ l.length ≤ c ∧ c ≤ maxLen := by
  obtain ⟨ad, c, h1, h2, h3, _⟩ := h; exact ⟨ad, c, h1, h2, h3⟩
theorem SlR.spot {w : World} {ad : Option Addr} {n c : Nat} {l : List RowP} (h : SlR w (.slice ad n c) l) (h0 : 0 < l.length) : ∃ b off, ad = some ⟨b, off, none⟩ ∧ ∀ i (h : i < l.length),
    w.cell? ⟨b, off + i * 2, none⟩ = some (.int .i64 l[i].1) ∧ ∃ u, w.cell? ⟨b, off + i * 2 + 1, none⟩ = some u ∧ Sl w (.int .i64) u l[i].2 := by
  obtain ⟨ad', c', e, _, _, _, h4⟩ := h
  simp only [Value.slice.injEq] at e
  obtain ⟨rfl, _, rfl⟩ := e
  exact h4 h0
theorem SlR.same {w w' : World} {v : Value} {l : List RowP} (h : SlR w v l) (ho : Same w w') : SlR w' v l := by
  obtain ⟨ad, c, rfl, h1, h2, h3, h4⟩ := h
  refine ⟨ad, c, rfl, h1, h2, h3, fun h0 => ?_⟩
  obtain ⟨b, off, rfl, hc⟩ := h4 h0
  refine ⟨b, off, rfl, fun i hi => ?_⟩
  obtain ⟨k1, u, k2, k3⟩ := hc i hi
  exact ⟨ho.cell_eq k1 (fun h => h), u, ho.cell_eq k2 (fun h => h), k3.same ho⟩
/-- Rows are right, each document behind the last. -/
def rowB (r : RowP) : Bool := decide (0 ≤ r.1) && decide (r.1 ≤ 2147483647) && vecB r.2
def riseB (l : List RowP) (n : Nat) : Bool := (List.range n).all fun i => rowB (l.getD i (0, [])) && (decide (i = 0) || decide ((l.getD (i - 1) (0, [])).1 < (l.getD i (0, [])).1))
theorem riseB_succ (l : List RowP) (n : Nat) : riseB l (n + 1) = (riseB l n && (rowB (l.getD n (0, [])) && (decide (n = 0) || decide ((l.getD (n - 1) (0, [])).1 < (l.getD n (0, [])).1)))) := by
  unfold riseB
  rw [List.range_succ, List.all_append]
  simp
end Go.Proofs.Ytjegohibpojneaa
