import Derived.Test.YtjegohibpojneaaDocRead
import Derived.Test.YtjegohibpojneaaSlP
import Derived.Test.YtjegohibpojneaaInts
import Derived.Lib.SmallJoins
set_option linter.unusedVariables false
set_option linter.unusedSimpArgs false
namespace Go.Proofs.Ytjegohibpojneaa
open Go.RowKit Go.ChangeShapes Go.WideShapes Go.ChangeAt

/-- A change that was handed in. -/
def ChgIn (w : World) (v : Value) (c : Chg) : Prop := ChgV w v c ∧ i64b c.doc ∧ i64b c.tags ∧ (∀ t ∈ c.terms, i64b t.1 ∧ i64b t.2) ∧ ∀ x ∈ c.v, i64b x
theorem ChgIn.i {w : World} {v : Value} {c : Chg} (h : ChgIn w v c) (h1 : c.terms.length ≤ 100) (h2 : c.v.length ≤ 20) : ChgI c := ⟨h.2.1, h.2.2.1, h.2.2.2.1, h.2.2.2.2, by omega, by omega⟩
theorem array5 {α : Type} {cs : Array α} (h : cs.size = 5) : ∃ c0 c1 c2 c3 c4, cs = #[c0, c1, c2, c3, c4] := by
  obtain ⟨l⟩ := cs
  match l, h with
  | [c0, c1, c2, c3, c4], _ => exact ⟨c0, c1, c2, c3, c4, rfl⟩
set_option maxRecDepth 100000 in
theorem chg_open {H : Type} {enc : TypeId × Value → H} {w : World} {b0 : Nat} {r : Reach} {v : Value} {d : DataW H} {p : List MemPlace}
    (hv : Value.okWide Try.prog w r b0 27 v) (h : DataW.Trod enc Try.prog w 0 (fun _ => true) true 27 v d p) : ∃ c : Chg, ChgIn w v c := by
  obtain ⟨cs, rfl, hsz⟩ := okWide_struct Try.underlying27 hv
  obtain ⟨c0, c1, c2, c3, c4, rfl⟩ := array5 (hsz.trans (by kernel_rfl : Try.prog.cellsOf 27 = 5))
  obtain ⟨fuel, hf⟩ := h
  obtain ⟨y0, y1, n, hx, _, h0, h1⟩ := trod_struct2 Try.underlying27 hf
  have g0 : DataW.trod enc Try.prog w 0 (fun _ => true) true n 25 [c0, c1, c2, c3] = some y0 := h0
  have g1 : DataW.trod enc Try.prog w 0 (fun _ => true) true n 4 [c4] = some y1 := h1
  obtain ⟨z0, z1, z2, z3, m, _, _, k0, k1, k2, k3⟩ := Go.Joins.trod_struct4 Try.underlying25 g0
  have j0 : DataW.trod enc Try.prog w 0 (fun _ => true) true m 3 [c0] = some z0 := k0
  have j1 : DataW.trod enc Try.prog w 0 (fun _ => true) true m 22 [c1] = some z1 := k1
  have j2 : DataW.trod enc Try.prog w 0 (fun _ => true) true m 23 [c2] = some z2 := k2
  have j3 : DataW.trod enc Try.prog w 0 (fun _ => true) true m 3 [c3] = some z3 := k3
  obtain ⟨a0, e0, _, w0⟩ := DataW.trod_int Try.underlying3 j0
  obtain ⟨a3, e3, _, w3⟩ := DataW.trod_int Try.underlying3 j3
  obtain ⟨a4, e4, _⟩ := DataW.trod_bool Try.underlying4 g1
  obtain ⟨ad1, n1, m1, e1⟩ := Go.Joins.slice_form Try.underlying22 j1
  obtain ⟨ad2, n2, m2, e2⟩ := Go.Joins.slice_form Try.underlying23 j2
  simp only [List.cons.injEq, and_true] at e0 e1 e2 e3 e4
  subst e0 e1 e2 e3 e4
  obtain ⟨l1, hs1, hb1⟩ := sl_pairs Try.underlying22 Try.underlying142 (by kernel_rfl) rfl rfl (by kernel_rfl) (by kernel_rfl) Try.underlying3 Try.underlying3 j1
  obtain ⟨l2, hs2, hb2⟩ := sl_ints (enc := enc) (w := w) (d := z2.1) (ps := z2.2) Try.underlying23 Try.underlying3 (by kernel_rfl) ⟨m, by simpa [Value.cells] using j2⟩
  exact ⟨⟨a0, l1, l2, a3, a4⟩, ⟨_, _, rfl, hs1, hs2⟩, bounds_i64 w0, bounds_i64 w3, hb1, hb2⟩
end Go.Proofs.Ytjegohibpojneaa
