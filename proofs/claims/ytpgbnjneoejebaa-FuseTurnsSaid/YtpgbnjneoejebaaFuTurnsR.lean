import Derived.Test.YtpgbnjneoejebaaFuTurns
import Derived.Test.YtpgbnjneoejebaaTopRow
set_option linter.unusedVariables false
set_option linter.unusedSimpArgs false
namespace Go.Proofs.Ytpgbnjneoejebaa
open Go.RowKit

theorem fuseTurns_row (v0 : Value) (x : List (Int × Int)) (v1 : Value) (y : List (Int × Int)) (a b c k : Int) (w : World) (h0 : SlP w v0 x) (z0 : ∀ p ∈ x, (-9223372036854775808 ≤ p.1 ∧ p.1 ≤ 9223372036854775807) ∧ (-9223372036854775808 ≤ p.2 ∧ p.2 ≤ 9223372036854775807))
    (h1 : SlP w v1 y) (z1 : ∀ p ∈ y, (-9223372036854775808 ≤ p.1 ∧ p.1 ≤ 9223372036854775807) ∧ (-9223372036854775808 ≤ p.2 ∧ p.2 ≤ 9223372036854775807))
    (w2 : (Lit.int .i64 a).wf = true) (w3 : (Lit.int .i64 b).wf = true) (w4 : (Lit.int .i64 c).wf = true) (w5 : (Lit.int .i64 k).wf = true) :
    Calls Try.prog 3 #[v0, v1, .int .i64 a, .int .i64 b, .int .i64 c, .int .i64 k] w fun e w' => e = .returned (.bool true) ∧ Same w w' :=
  fuseTurns_walk v0 v1 x y a b c k w h0 h1 (fun p hp => (z0 p hp).1) (fun p hp => (z1 p hp).1)
end Go.Proofs.Ytpgbnjneoejebaa
