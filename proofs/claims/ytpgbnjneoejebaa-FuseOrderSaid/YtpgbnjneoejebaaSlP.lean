import Derived.Test.YtpgbnjneoejebaaPairs
import Derived.Deep.SlicePairs
set_option linter.unusedVariables false
set_option linter.unusedSimpArgs false
namespace Go.Proofs.Ytpgbnjneoejebaa
open Go.RowKit

open Go.ChangeShapes Go.WideShapes Go.ChangeAt in
/-- A slice of structs of two integers that came in. -/
theorem sl_pairs {H : Type} {enc : TypeId × Value → H} {P : Program} {w : World} {t e : TypeId} {f0 f1 : Field} {a : Option Addr} {len cap fuel : Nat} {x : DataW H × List MemPlace}
    (ht : P.underlying t = some (.slice e)) (he : P.underlying e = some (.struct #[f0, f1])) (ce : P.cellsOf e = 2) (o0 : f0.offset = 0) (o1 : f1.offset = 1) (c0 : P.cellsOf f0.type = 1) (c1 : P.cellsOf f1.type = 1)
    (i0 : P.underlying f0.type = some (.int .i64)) (i1 : P.underlying f1.type = some (.int .i64))
    (h : DataW.trod enc P w 0 (fun _ => true) true fuel t [.slice a len cap] = some x) :
    ∃ l : List (Int × Int), SlP w (.slice a len cap) l ∧ ∀ p ∈ l, (-9223372036854775808 ≤ p.1 ∧ p.1 ≤ 9223372036854775807) ∧ (-9223372036854775808 ≤ p.2 ∧ p.2 ≤ 9223372036854775807) := by
  rcases Go.Deep.open_slice_pairs ht he ce o0 o1 c0 c1 h with ⟨hcs, _⟩ | ⟨y, l, c, m, n, V0, V1, D0, D1, P0, P1, hcs, _, hl, hm, hmm, _, hx⟩
  · simp only [List.cons.injEq, Value.slice.injEq, and_true] at hcs
    obtain ⟨rfl, rfl, rfl⟩ := hcs
    exact ⟨[], SlP.nil w, by simp⟩
  · simp only [List.cons.injEq, Value.slice.injEq, and_true] at hcs
    obtain ⟨rfl, rfl, rfl⟩ := hcs
    have hlm : len ≤ m := by rw [hmm]; split <;> omega
    have hV : ∀ i, i < len → ∃ z0 z1 : Int, (V0 i = .int .i64 z0 ∧ V1 i = .int .i64 z1) ∧ (Lit.int .i64 z0).wf = true ∧ (Lit.int .i64 z1).wf = true := by
      intro i hi
      obtain ⟨_, _, h2, h3⟩ := hx i (by omega)
      obtain ⟨z0, hz0, _, hw0⟩ := DataW.trod_int i0 h2
      obtain ⟨z1, hz1, _, hw1⟩ := DataW.trod_int i1 h3
      simp only [List.cons.injEq, and_true] at hz0 hz1
      exact ⟨z0, z1, ⟨hz0, hz1⟩, hw0, hw1⟩
    have hlen : ((List.range len).map fun i => ((intOf (V0 i), intOf (V1 i)) : Int × Int)).length = len := by simp
    refine ⟨(List.range len).map fun i => (intOf (V0 i), intOf (V1 i)), ⟨some y, cap, by rw [hlen], by rw [hlen]; exact hl, hm, (by intro h; cases h), fun h0 => ?_⟩, ?_⟩
    · rw [hlen] at h0
      obtain ⟨b, off, spot⟩ := y
      have := cell_spot (hx 0 (by omega)).1
      simp only [Nat.zero_mul, Addr.add, if_true] at this
      subst this
      refine ⟨b, off, rfl, fun i hi => ?_⟩
      rw [hlen] at hi
      obtain ⟨h1, h2, _⟩ := hx i (by omega)
      have e1 : ∀ j, (⟨b, off, none⟩ : Addr).add j = ⟨b, off + j, none⟩ := by intro j; unfold Addr.add; split <;> simp_all
      rw [e1] at h1 h2
      rw [show off + (i * 2 + 1) = off + i * 2 + 1 by omega] at h2
      rw [h1, h2]
      obtain ⟨z0, z1, ⟨hz0, hz1⟩, _⟩ := hV i hi
      simp [hz0, hz1, intOf]
    · intro p hp
      obtain ⟨i, hi, rfl⟩ := List.mem_map.1 hp
      obtain ⟨z0, z1, ⟨hz0, hz1⟩, hw0, hw1⟩ := hV i (List.mem_range.1 hi)
      simp only [hz0, hz1, intOf]
      have b0 := bounds_i64 hw0
      have b1 := bounds_i64 hw1
      exact ⟨b0, b1⟩
end Go.Proofs.Ytpgbnjneoejebaa
