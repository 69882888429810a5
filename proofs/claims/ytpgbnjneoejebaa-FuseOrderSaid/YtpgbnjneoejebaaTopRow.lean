import Derived.Test.YtpgbnjneoejebaaSlP
import Derived.Test.YtpgbnjneoejebaaInts
set_option linter.unusedVariables false
set_option linter.unusedSimpArgs false
namespace Go.Proofs.Ytpgbnjneoejebaa
open Go.RowKit Go.ChangeShapes Go.WideShapes Go.ChangeAt

set_option maxRecDepth 100000 in
/-- Documents that were handed in. -/
theorem sl_scoreds {H : Type} {enc : TypeId × Value → H} {w : World} {a : Option Addr} {len cap : Nat} {d : DataW H} {p : List MemPlace} (h : DataW.Trod enc Try.prog w 0 (fun _ => true) true 22 (.slice a len cap) d p) :
    ∃ l : List (Int × Int), SlP w (.slice a len cap) l ∧ ∀ p ∈ l, (-9223372036854775808 ≤ p.1 ∧ p.1 ≤ 9223372036854775807) ∧ (-9223372036854775808 ≤ p.2 ∧ p.2 ≤ 9223372036854775807) := by
  obtain ⟨m, hm⟩ := h
  have j : DataW.trod enc Try.prog w 0 (fun _ => true) true m 22 [.slice a len cap] = some (d, p) := by simpa [Value.cells] using hm
  exact sl_pairs Try.underlying22 Try.underlying37 (by kernel_rfl) rfl rfl (by kernel_rfl) (by kernel_rfl) Try.underlying3 Try.underlying3 j
end Go.Proofs.Ytpgbnjneoejebaa
