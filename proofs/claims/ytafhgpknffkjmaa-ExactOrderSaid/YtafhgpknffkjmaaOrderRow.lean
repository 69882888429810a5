import Derived.Test.YtafhgpknffkjmaaOrder
import Derived.Test.YtafhgpknffkjmaaRatRow
set_option linter.unusedVariables false
set_option linter.unusedSimpArgs false
namespace Go.Proofs.Ytafhgpknffkjmaa
open Go.RowKit
theorem exactOrder_row (v0 : Value) (x : Int × Int) (v1 : Value) (y : Int × Int) (v2 : Value) (z : Int × Int) (w : World) (h0 : RatV v0 x) (h1 : RatV v1 y) (h2 : RatV v2 z) :
    Calls Try.prog 10 #[v0, v1, v2] w fun e w' => e = .returned (.bool true) ∧ Same w w' := by
  obtain ⟨rfl, a, b⟩ := h0
  obtain ⟨rfl, c, d⟩ := h1
  obtain ⟨rfl, f, g⟩ := h2
  exact exactOrder_walk _ _ _ _ _ _ w a b c d f g
end Go.Proofs.Ytafhgpknffkjmaa
