import Derived.Test.YtjegohibpojneaaTopKeeps
import Derived.Test.YtjegohibpojneaaTopRow
set_option linter.unusedVariables false
set_option linter.unusedSimpArgs false
namespace Go.Proofs.Ytjegohibpojneaa
open Go.RowKit

theorem rangeK_i64 {a : Int} (h : (Lit.int .i64 a).wf = true) : -9223372036854775808 ≤ a ∧ a ≤ 9223372036854775807 := by
  simp [Lit.wf, IntKind.min, IntKind.max, IntKind.signed, IntKind.bits] at h; omega
theorem topkKeeps_row (K : Int) (v0 : Value) (l : List (Int × Int)) (w : World) (hK : (Lit.int .i64 K).wf = true) (h0 : SlP w v0 l) (hp : ∀ p ∈ l, (-9223372036854775808 ≤ p.1 ∧ p.1 ≤ 9223372036854775807) ∧ (-9223372036854775808 ≤ p.2 ∧ p.2 ≤ 9223372036854775807)) :
    Calls Try.prog 8 #[.int .i64 K, v0] w fun e w' => e = .returned (.bool true) ∧ Same w w' := topkKeeps_walk K v0 l w (rangeK_i64 hK) h0
end Go.Proofs.Ytjegohibpojneaa
