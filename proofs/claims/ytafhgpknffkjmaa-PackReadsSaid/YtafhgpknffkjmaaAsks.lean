import Derived.Test.YtafhgpknffkjmaaInts
import Derived.Deep.Strs
set_option linter.unusedVariables false
set_option linter.unusedSimpArgs false
namespace Go.Proofs.Ytafhgpknffkjmaa
open Go.RowKit

/-- A row of triples of integers. -/
def Tri (w : World) (v : Value) (l : List (Int × Int × Int)) : Prop :=
  ∃ ad c, v = .slice ad l.length c ∧ l.length ≤ c ∧ c ≤ maxLen ∧ (0 < l.length → ∃ b off, ad = some ⟨b, off, none⟩ ∧ ∀ i (h : i < l.length),
    w.cell? ⟨b, off + i * 3, none⟩ = some (.int .i64 l[i].1) ∧ w.cell? ⟨b, off + i * 3 + 1, none⟩ = some (.int .i64 l[i].2.1) ∧ w.cell? ⟨b, off + i * 3 + 2, none⟩ = some (.int .i64 l[i].2.2))
open Go.ChangeShapes Go.WideShapes Go.ChangeAt in
theorem tri_open {H : Type} {enc : TypeId × Value → H} {P : Program} {w : World} {t e k : TypeId} {f0 f1 f2 : Field} {a : Option Addr} {len cap : Nat} {d : DataW H} {ps : List MemPlace}
    (ht : P.underlying t = some (.slice e)) (he : P.underlying e = some (.struct #[f0, f1, f2])) (hk : P.underlying k = some (.int .i64)) (h0 : f0.type = k ∧ f0.offset = 0) (h1 : f1.type = k ∧ f1.offset = 1) (h2 : f2.type = k ∧ f2.offset = 2)
    (hck : P.cellsOf k = 1) (hc : P.cellsOf e = 3) (h : DataW.Trod enc P w 0 (fun _ => true) true t (.slice a len cap) d ps) :
    ∃ l : List (Int × Int × Int), Tri w (.slice a len cap) l ∧ ∀ x ∈ l, (-9223372036854775808 ≤ x.1 ∧ x.1 ≤ 9223372036854775807) ∧ (-9223372036854775808 ≤ x.2.1 ∧ x.2.1 ≤ 9223372036854775807) ∧ (-9223372036854775808 ≤ x.2.2 ∧ x.2.2 ≤ 9223372036854775807) := by
  obtain ⟨fuel, hf⟩ := h
  rcases Go.Deep.open_slice ht hf with ⟨hcs, _⟩ | ⟨x, l, c, m, n, D, Pl, hcs, _, hl, hm, hmm, _, hx⟩
  · simp [Value.cells] at hcs
    obtain ⟨rfl, rfl, rfl⟩ := hcs
    exact ⟨[], ⟨none, 0, rfl, by simp, by simp, fun h => absurd h (by simp)⟩, by simp⟩
  · simp [Value.cells] at hcs
    obtain ⟨rfl, rfl, rfl⟩ := hcs
    have hlm : len ≤ m := by rw [hmm]; split <;> omega
    have hV : ∀ i, i < len → ∃ q : Int × Int × Int, (w.cell? ((x.add (i * 3)).add 0) = some (.int .i64 q.1) ∧ w.cell? ((x.add (i * 3)).add 1) = some (.int .i64 q.2.1) ∧ w.cell? ((x.add (i * 3)).add 2) = some (.int .i64 q.2.2)) ∧
        (-9223372036854775808 ≤ q.1 ∧ q.1 ≤ 9223372036854775807) ∧ (-9223372036854775808 ≤ q.2.1 ∧ q.2.1 ≤ 9223372036854775807) ∧ (-9223372036854775808 ≤ q.2.2 ∧ q.2.2 ≤ 9223372036854775807) := by
      intro i hi
      obtain ⟨cs', hcs', htr⟩ := hx i (by omega)
      rw [hc] at hcs'
      obtain ⟨_, hlen, hcell⟩ := World.cells?_some hcs'
      obtain ⟨y0, y1, y2, n', _, _, g0, g1, g2⟩ := Go.Deep.trod_struct3 he htr
      match cs', hlen with
      | [a0, a1, a2], _ =>
        simp only [h0.1, h1.1, h2.1, h0.2, h1.2, h2.2, hck, List.drop_zero, List.drop_succ_cons, List.take_succ_cons, List.take_zero] at g0 g1 g2
        obtain ⟨z0, e0, _, w0⟩ := DataW.trod_int hk g0
        obtain ⟨z1, e1, _, w1⟩ := DataW.trod_int hk g1
        obtain ⟨z2, e2, _, w2⟩ := DataW.trod_int hk g2
        simp only [List.cons.injEq, and_true] at e0 e1 e2
        subst e0 e1 e2
        exact ⟨(z0, z1, z2), ⟨hcell 0 (by omega), hcell 1 (by omega), hcell 2 (by omega)⟩, bounds_i64 w0, bounds_i64 w1, bounds_i64 w2⟩
    have hF : ∃ F : Nat → Int × Int × Int, ∀ i, i < len → (w.cell? ((x.add (i * 3)).add 0) = some (.int .i64 (F i).1) ∧ w.cell? ((x.add (i * 3)).add 1) = some (.int .i64 (F i).2.1) ∧ w.cell? ((x.add (i * 3)).add 2) = some (.int .i64 (F i).2.2)) ∧
        (-9223372036854775808 ≤ (F i).1 ∧ (F i).1 ≤ 9223372036854775807) ∧ (-9223372036854775808 ≤ (F i).2.1 ∧ (F i).2.1 ≤ 9223372036854775807) ∧ (-9223372036854775808 ≤ (F i).2.2 ∧ (F i).2.2 ≤ 9223372036854775807) := by
      refine ⟨fun i => if h : i < len then Classical.choose (hV i h) else (0, 0, 0), fun i hi => ?_⟩
      simp only [dif_pos hi]
      exact Classical.choose_spec (hV i hi)
    obtain ⟨F, hF⟩ := hF
    have hlen : ((List.range len).map F).length = len := by simp
    refine ⟨(List.range len).map F, ⟨some x, cap, by rw [hlen], by rw [hlen]; exact hl, hm, fun h0 => ?_⟩, ?_⟩
    · rw [hlen] at h0
      obtain ⟨b, off, spot⟩ := x
      have := cell_spot (hF 0 (by omega)).1.1
      simp only [Addr.add] at this
      obtain rfl : spot = none := by simpa using this
      refine ⟨b, off, rfl, fun i hi => ?_⟩
      rw [hlen] at hi
      have h1 := (hF i (by omega)).1
      have e1 : ∀ j, ((⟨b, off, none⟩ : Addr).add (i * 3)).add j = ⟨b, off + i * 3 + j, none⟩ := by intro j; unfold Addr.add; split <;> (try split) <;> simp_all
      rw [e1, e1, e1] at h1
      simpa using h1
    · intro y hy
      simp only [List.mem_map, List.mem_range] at hy
      obtain ⟨i, hi, rfl⟩ := hy
      exact (hF i hi).2
end Go.Proofs.Ytafhgpknffkjmaa
