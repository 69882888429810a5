import Derived.Test.YtpgbnjneoejebaaFuOrder
import Derived.Test.YtpgbnjneoejebaaTopRow
set_option linter.unusedVariables false
set_option linter.unusedSimpArgs false
namespace Go.Proofs.Ytpgbnjneoejebaa
open Go.RowKit

theorem fuseOrder_row (v0 : Value) (x : List (Int × Int)) (v1 : Value) (y : List (Int × Int)) (c : Int) (w : World) (h0 : SlP w v0 x) (z0 : ∀ p ∈ x, (-9223372036854775808 ≤ p.1 ∧ p.1 ≤ 9223372036854775807) ∧ (-9223372036854775808 ≤ p.2 ∧ p.2 ≤ 9223372036854775807))
    (h1 : SlP w v1 y) (z1 : ∀ p ∈ y, (-9223372036854775808 ≤ p.1 ∧ p.1 ≤ 9223372036854775807) ∧ (-9223372036854775808 ≤ p.2 ∧ p.2 ≤ 9223372036854775807))
    (w2 : (Lit.int .i64 c).wf = true) :
    Calls Try.prog 4 #[v0, v1, .int .i64 c] w fun e w' => e = .returned (.bool true) ∧ Same w w' :=
  fuseOrder_walk v0 v1 x y c w h0 h1 (fun p hp => (z0 p hp).1) (fun p hp => (z1 p hp).1)
end Go.Proofs.Ytpgbnjneoejebaa
