import Derived.Test.YtpgbnjneoejebaaLib
import Derived.Deep.Slices
set_option linter.unusedVariables false
set_option linter.unusedSimpArgs false
namespace Go.Proofs.Ytpgbnjneoejebaa
open Go.RowKit

open Go.ChangeShapes Go.WideShapes Go.ChangeAt in
/-- A []int that came in. -/
theorem sl_ints {H : Type} {enc : TypeId × Value → H} {P : Program} {w : World} {t e : TypeId} {a : Option Addr} {len cap : Nat} {d : DataW H} {ps : List MemPlace}
    (ht : P.underlying t = some (.slice e)) (he : P.underlying e = some (.int .i64)) (hc : P.cellsOf e = 1) (h : DataW.Trod enc P w 0 (fun _ => true) true t (.slice a len cap) d ps) :
    ∃ l : List Int, Sl w (.int .i64) (.slice a len cap) l ∧ ∀ x ∈ l, -9223372036854775808 ≤ x ∧ x ≤ 9223372036854775807 := by
  obtain ⟨fuel, hf⟩ := h
  rcases Go.Deep.open_slice1 ht hc hf with ⟨hcs, _⟩ | ⟨x, l, c, m, n, V, D, Pl, hcs, _, hl, hm, hmm, _, hx⟩
  · simp [Value.cells] at hcs
    obtain ⟨rfl, rfl, rfl⟩ := hcs
    exact ⟨[], ⟨none, 0, rfl, by simp, by simp, fun _ => rfl, fun h => absurd h (by simp)⟩, by simp⟩
  · simp [Value.cells] at hcs
    obtain ⟨rfl, rfl, rfl⟩ := hcs
    have hlm : len ≤ m := by rw [hmm]; split <;> omega
    have hV : ∀ i, i < len → ∃ z : Int, V i = .int .i64 z ∧ (Lit.int .i64 z).wf = true := by
      intro i hi
      obtain ⟨_, h2⟩ := hx i (by omega)
      obtain ⟨z, hz, _, hw⟩ := DataW.trod_int he h2
      simp only [List.cons.injEq, and_true] at hz
      exact ⟨z, hz, hw⟩
    have hlen : ((List.range len).map fun i => intOf (V i)).length = len := by simp
    refine ⟨(List.range len).map fun i => intOf (V i), ⟨some x, cap, by rw [hlen], by rw [hlen]; exact hl, hm, (by intro h; cases h), fun h0 => ?_⟩, ?_⟩
    · rw [hlen] at h0
      obtain ⟨b, off, spot⟩ := x
      have := cell_spot (hx 0 (by omega)).1
      simp only [Addr.add, if_true] at this
      subst this
      refine ⟨b, off, rfl, fun i hi => ?_⟩
      rw [hlen] at hi
      have h1 := (hx i (by omega)).1
      have e1 : (⟨b, off, none⟩ : Addr).add i = ⟨b, off + i, none⟩ := by unfold Addr.add; split <;> simp_all
      rw [e1] at h1
      rw [h1]
      obtain ⟨z, hz, _⟩ := hV i hi
      simp [hz, intOf]
    · intro y hy
      simp only [List.mem_map, List.mem_range] at hy
      obtain ⟨i, hi, rfl⟩ := hy
      obtain ⟨z, hz, hw⟩ := hV i hi
      rw [hz]
      exact bounds_i64 hw
end Go.Proofs.Ytpgbnjneoejebaa
