import Derived.Test.YtjegohibpojneaaPostRow
set_option linter.unusedVariables false
set_option linter.unusedSimpArgs false
namespace Go.Proofs.Ytjegohibpojneaa
open Go.RowKit Go.ChangeShapes Go.WideShapes Go.ChangeAt

/-- A row of a cursor's moves. -/
def SlA (w : World) (v : Value) (l : List (Bool × Int)) : Prop :=
  ∃ ad c, v = .slice ad l.length c ∧ l.length ≤ c ∧ c ≤ maxLen ∧ (0 < l.length → ∃ b off, ad = some ⟨b, off, none⟩ ∧ ∀ i (h : i < l.length),
    w.cell? ⟨b, off + i * 2, none⟩ = some (.bool l[i].1) ∧ w.cell? ⟨b, off + i * 2 + 1, none⟩ = some (.int .i64 l[i].2))
theorem SlA.lit {w : World} {v : Value} {l : List (Bool × Int)} (h : SlA w v l) : ∃ ad c, v = .slice ad l.length c ∧ l.length ≤ c ∧ c ≤ maxLen := by
  obtain ⟨ad, c, h1, h2, h3, _⟩ := h; exact ⟨ad, c, h1, h2, h3⟩
theorem SlA.spot {w : World} {ad : Option Addr} {n c : Nat} {l : List (Bool × Int)} (h : SlA w (.slice ad n c) l) (h0 : 0 < l.length) : ∃ b off, ad = some ⟨b, off, none⟩ ∧ ∀ i (h : i < l.length), w.cell? ⟨b, off + i * 2, none⟩ = some (.bool l[i].1) ∧ w.cell? ⟨b, off + i * 2 + 1, none⟩ = some (.int .i64 l[i].2) := by
  obtain ⟨ad', c', e, _, _, h4⟩ := h
  simp only [Value.slice.injEq] at e
  obtain ⟨rfl, _, rfl⟩ := e
  exact h4 h0
theorem SlA.only {S : Nat → Prop} {w w' : World} {v : Value} {l : List (Bool × Int)} (h : SlA w v l) (ho : Only S w w') (hS : ∀ b, S b → w.heap.size ≤ b) : SlA w' v l := by
  obtain ⟨ad, c, e, h1, h2, h4⟩ := h
  refine ⟨ad, c, e, h1, h2, fun h0 => ?_⟩
  obtain ⟨b, off, e2, hc⟩ := h4 h0
  refine ⟨b, off, e2, fun i hi => ?_⟩
  have hb := World.block_lt_of_cell? w _ (hc i hi).1
  have hn : ¬ S b := fun h => by have := hS b h; simp at hb; omega
  exact ⟨ho.cell_eq (hc i hi).1 hn, ho.cell_eq (hc i hi).2 hn⟩
def boolOf : Value → Bool
  | .bool b => b
  | _ => false
set_option maxRecDepth 100000 in
/-- Moves that were handed in. -/
theorem sl_acts {H : Type} {enc : TypeId × Value → H} {w : World} {a : Option Addr} {len cap : Nat} {d : DataW H} {p : List MemPlace} (h : DataW.Trod enc Try.prog w 0 (fun _ => true) true 69 (.slice a len cap) d p) :
    ∃ l : List (Bool × Int), SlA w (.slice a len cap) l ∧ ∀ p ∈ l, -9223372036854775808 ≤ p.2 ∧ p.2 ≤ 9223372036854775807 := by
  obtain ⟨fm, hm⟩ := h
  have j : DataW.trod enc Try.prog w 0 (fun _ => true) true fm 69 [.slice a len cap] = some (d, p) := by simpa [Value.cells] using hm
  rcases Go.Deep.open_slice_pairs Try.underlying69 Try.underlying73 (by kernel_rfl) rfl rfl (by kernel_rfl) (by kernel_rfl) j with ⟨hcs, _⟩ | ⟨y, l, c, m, n, V0, V1, D0, D1, P0, P1, hcs, _, hl, hmx, hmm, _, hx⟩
  · simp only [List.cons.injEq, Value.slice.injEq, and_true] at hcs
    obtain ⟨rfl, rfl, rfl⟩ := hcs
    exact ⟨[], ⟨none, 0, rfl, by simp, by simp, fun h => absurd h (by simp)⟩, by simp⟩
  · simp only [List.cons.injEq, Value.slice.injEq, and_true] at hcs
    obtain ⟨rfl, rfl, rfl⟩ := hcs
    have hlm : len ≤ m := by rw [hmm]; split <;> omega
    have hV : ∀ i, i < len → ∃ (z0 : Bool) (z1 : Int), (V0 i = .bool z0 ∧ V1 i = .int .i64 z1) ∧ (Lit.int .i64 z1).wf = true := by
      intro i hi
      obtain ⟨_, _, h2, h3⟩ := hx i (by omega)
      obtain ⟨z0, hz0, _⟩ := DataW.trod_bool Try.underlying4 h2
      obtain ⟨z1, hz1, _, hw1⟩ := DataW.trod_int Try.underlying3 h3
      simp only [List.cons.injEq, and_true] at hz0 hz1
      exact ⟨z0, z1, ⟨hz0, hz1⟩, hw1⟩
    have hlen : ((List.range len).map fun i => ((boolOf (V0 i), intOf (V1 i)) : Bool × Int)).length = len := by simp
    refine ⟨(List.range len).map fun i => (boolOf (V0 i), intOf (V1 i)), ⟨some y, cap, by rw [hlen], by rw [hlen]; exact hl, hmx, fun h0 => ?_⟩, ?_⟩
    · rw [hlen] at h0
      obtain ⟨b, off, spot⟩ := y
      have := cell_spot (hx 0 (by omega)).1
      simp only [Nat.zero_mul, Addr.add, if_true] at this
      subst this
      refine ⟨b, off, rfl, fun i hi => ?_⟩
      rw [hlen] at hi
      obtain ⟨h1, h2, _⟩ := hx i (by omega)
      have e1 : ∀ j, (⟨b, off, none⟩ : Addr).add j = ⟨b, off + j, none⟩ := by intro j; unfold Addr.add; split <;> simp_all
      rw [e1] at h1 h2
      rw [show off + (i * 2 + 1) = off + i * 2 + 1 by omega] at h2
      rw [h1, h2]
      obtain ⟨z0, z1, ⟨hz0, hz1⟩, _⟩ := hV i hi
      simp [hz0, hz1, intOf, boolOf]
    · intro p hp
      obtain ⟨i, hi, rfl⟩ := List.mem_map.1 hp
      obtain ⟨z0, z1, ⟨hz0, hz1⟩, hw1⟩ := hV i (List.mem_range.1 hi)
      simp only [hz1, intOf]
      exact bounds_i64 hw1
end Go.Proofs.Ytjegohibpojneaa
