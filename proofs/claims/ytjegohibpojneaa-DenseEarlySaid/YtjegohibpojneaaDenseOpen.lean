import Derived.Test.YtjegohibpojneaaDenseRows
import Derived.Test.YtjegohibpojneaaSlP
import Derived.Test.YtjegohibpojneaaInts
import Derived.Lib.SmallJoins
set_option linter.unusedVariables false
set_option linter.unusedSimpArgs false
namespace Go.Proofs.Ytjegohibpojneaa
open Go.RowKit Go.ChangeShapes Go.WideShapes Go.ChangeAt

set_option maxRecDepth 100000 in
/-- Rows that were handed in. -/
theorem sl_rows {H : Type} {enc : TypeId × Value → H} {w : World} {a : Option Addr} {len cap : Nat} {d : DataW H} {p : List MemPlace} (h : DataW.Trod enc Try.prog w 0 (fun _ => true) true 115 (.slice a len cap) d p) :
    ∃ l : List RowP, SlR w (.slice a len cap) l ∧ ∀ p ∈ l, i64b p.1 ∧ ∀ x ∈ p.2, i64b x := by
  obtain ⟨m, hm⟩ := h
  have j : DataW.trod enc Try.prog w 0 (fun _ => true) true m 115 [.slice a len cap] = some (d, p) := by simpa [Value.cells] using hm
  rcases Go.Deep.open_slice_pairs Try.underlying115 Try.underlying139 (by kernel_rfl) rfl rfl (by kernel_rfl) (by kernel_rfl) j with ⟨hcs, _⟩ | ⟨y, l, c, m, n, V0, V1, D0, D1, P0, P1, hcs, _, hl, hm, hmm, _, hx⟩
  · simp only [List.cons.injEq, Value.slice.injEq, and_true] at hcs
    obtain ⟨rfl, rfl, rfl⟩ := hcs
    exact ⟨[], ⟨none, 0, rfl, by simp, by simp, fun _ => rfl, fun h => absurd h (by simp)⟩, by simp⟩
  · simp only [List.cons.injEq, Value.slice.injEq, and_true] at hcs
    obtain ⟨rfl, rfl, rfl⟩ := hcs
    have hlm : len ≤ m := by rw [hmm]; split <;> omega
    have hV : ∀ i, i < len → ∃ (z : Int) (r : List Int), V0 i = .int .i64 z ∧ i64b z ∧ Sl w (.int .i64) (V1 i) r ∧ ∀ x ∈ r, i64b x := by
      intro i hi
      obtain ⟨_, _, h2, h3⟩ := hx i (by omega)
      have g2 : DataW.trod enc Try.prog w 0 (fun _ => true) true n 3 [V0 i] = some (D0 i, P0 i) := h2
      have g3 : DataW.trod enc Try.prog w 0 (fun _ => true) true n 23 [V1 i] = some (D1 i, P1 i) := h3
      obtain ⟨z0, hz0, _, hw0⟩ := DataW.trod_int Try.underlying3 g2
      obtain ⟨ad2, n2, m2, e2⟩ := Go.Joins.slice_form Try.underlying23 g3
      simp only [List.cons.injEq, and_true] at hz0 e2
      rw [e2] at g3 ⊢
      obtain ⟨l2, hs2, hb2⟩ := sl_ints (enc := enc) (w := w) (d := D1 i) (ps := P1 i) Try.underlying23 Try.underlying3 (by kernel_rfl) ⟨n, by simpa [Value.cells] using g3⟩
      exact ⟨z0, l2, hz0, bounds_i64 hw0, hs2, hb2⟩
    obtain ⟨q, hq⟩ := Go.Deep.choose_lt (fun i hi => (by obtain ⟨z, r, h⟩ := hV i hi; exact ⟨(z, r), h⟩ : ∃ q : Int × List Int, V0 i = .int .i64 q.1 ∧ i64b q.1 ∧ Sl w (.int .i64) (V1 i) q.2 ∧ ∀ x ∈ q.2, i64b x))
    have hlen : ((List.range len).map q).length = len := by simp
    refine ⟨(List.range len).map q, ⟨some y, cap, by rw [hlen], by rw [hlen]; exact hl, hm, (by intro h; cases h), fun h0 => ?_⟩, ?_⟩
    · rw [hlen] at h0
      obtain ⟨b, off, spot⟩ := y
      have := cell_spot (hx 0 (by omega)).1
      simp only [Nat.zero_mul, Addr.add, if_true] at this
      subst this
      refine ⟨b, off, rfl, fun i hi => ?_⟩
      rw [hlen] at hi
      obtain ⟨h1, h2, _⟩ := hx i (by omega)
      have e1 : ∀ j, (⟨b, off, none⟩ : Addr).add j = ⟨b, off + j, none⟩ := by intro j; unfold Addr.add; split <;> simp_all
      rw [e1] at h1 h2
      rw [show off + (i * 2 + 1) = off + i * 2 + 1 by omega] at h2
      obtain ⟨k1, _, k2, _⟩ := hq i hi
      rw [h1, h2, k1]
      simp only [List.getElem_map, List.getElem_range]
      refine ⟨trivial, V1 i, rfl, k2⟩
    · intro p hp
      obtain ⟨i, hi, rfl⟩ := List.mem_map.1 hp
      obtain ⟨_, k1, _, k2⟩ := hq i (List.mem_range.1 hi)
      exact ⟨k1, k2⟩
end Go.Proofs.Ytjegohibpojneaa
