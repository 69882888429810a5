import Derived.Test.YtafhgpknffkjmaaRat
import Derived.Lib.SmallJoins
set_option linter.unusedVariables false
set_option linter.unusedSimpArgs false
namespace Go.Proofs.Ytafhgpknffkjmaa
open Go.RowKit Go.ChangeShapes Go.WideShapes Go.ChangeAt

/-- A rational that was handed in. -/
def RatV (v : Value) (x : Int × Int) : Prop := v = rat x.1 x.2 ∧ i64in x.1 ∧ i64in x.2
set_option maxRecDepth 100000 in
theorem rat_open {H : Type} {enc : TypeId × Value → H} {w : World} {base b0 : Nat} {r : Reach} {sp : Nat → Bool} {held : Bool} {v : Value} {d : DataW H} {p : List MemPlace}
    (hv : Value.okWide Try.prog w r b0 83 v) (h : DataW.Trod enc Try.prog w base sp held 83 v d p) : ∃ x : Int × Int, RatV v x := by
  obtain ⟨v0, v1, y0, y1, n, rfl, _, _, g0, g1⟩ := Go.Joins.open_agg2 Try.underlying83 (by kernel_rfl) (by kernel_rfl) hv h
  obtain ⟨z0, e0, _, w0⟩ := DataW.trod_int Try.underlying2 g0
  obtain ⟨z1, e1, _, w1⟩ := DataW.trod_int Try.underlying2 g1
  simp only [List.cons.injEq, and_true] at e0 e1
  subst e0 e1
  exact ⟨(z0, z1), rfl, bounds_i64 w0, bounds_i64 w1⟩
end Go.Proofs.Ytafhgpknffkjmaa
