import Derived.Test.YtjegohibpojneaaDenseFns
import Derived.Laws.LoneSync
set_option linter.unusedVariables false
set_option linter.unusedSimpArgs false
namespace Go.Proofs.Ytjegohibpojneaa
open Go.RowKit
attribute [local go_sem ↓] Go.wp_at_zero Go.wp_at_succ

/-! the count of numbers looked at -/
def CntW (w : World) (b : Nat) (n : Int) : Prop := w.heap[b]? = some (.cells #[.int .i64 n] 137 (0, 0))
theorem CntW.only {S : Nat → Prop} {w w' : World} {b : Nat} {n : Int} (h : CntW w b n) (ho : Only S w w') (hS : ¬ S b) : CntW w' b n := ho.heap h hS
theorem CntW.set {w : World} {b : Nat} {n m : Int} (h : CntW w b n) : CntW (w.setCell ⟨b, 0, none⟩ (.int .i64 m)) b m := blk_set (j := 0) h
/-- One more. -/
theorem cadd_any (b : Nat) (n : Int) (w : World) (h : CntW w b n) (hr : -9223372036854775808 ≤ n + 1 ∧ n + 1 ≤ 9223372036854775807) :
    Calls Try.prog 131 #[.pointer (some ⟨b, 0, none⟩), .int .i64 1] w fun e w' => e = .returned (.int .i64 (n + 1)) ∧ w' = w.setCell ⟨b, 0, none⟩ (.int .i64 (n + 1)) := by
  have hc : w.cell? ⟨b, 0, none⟩ = some (.int .i64 n) := blk_cells h 0
  have hz : w.frozen? ⟨b, 0, none⟩ = false := blk_frozen h 0
  have hadd := run_call_add (P := Try.prog) Try.func163 (by kernel_rfl) (by kernel_rfl) (by kernel_rfl) .i64 (by kernel_rfl) (y := 1) (s := n + 1) hc hz (by simp [go_sem]; rw [wrapS hr])
  clear h
  go_enter Try.func131, Try.ntmps131
  go_wp2_with fail
  go_ret
  exact ⟨rfl, rfl⟩
theorem cload_any (b : Nat) (n : Int) (w : World) (h : CntW w b n) :
    Calls Try.prog 132 #[.pointer (some ⟨b, 0, none⟩)] w fun e w' => e = .returned (.int .i64 n) ∧ w' = w := by
  have hc : w.cell? ⟨b, 0, none⟩ = some (.int .i64 n) := blk_cells h 0
  have hld := run_call_load (P := Try.prog) Try.func164 (by kernel_rfl) (by kernel_rfl) (by kernel_rfl) .i64 (by kernel_rfl) (w := w) hc
  clear h
  go_enter Try.func132, Try.ntmps132
  go_wp2_with fail
  go_ret
  exact ⟨rfl, rfl⟩
theorem numbers_any (b : Nat) (n : Int) (w : World) (h : CntW w b n) (hr : -9223372036854775808 ≤ n ∧ n ≤ 9223372036854775807) :
    Calls Try.prog 80 #[.pointer (some ⟨b, 0, none⟩)] w fun e w' => e = .returned (.int .i64 n) ∧ w' = w := by
  have cl := fun w0 (h : CntW w0 b n) => cload_any b n w0 h
  have CL := Lib.hid cl
  have H := Lib.hid h
  have hw := wrapS hr
  clear h cl
  go_enter Try.func80, Try.ntmps80
  go_wp2_with fail
  refine (CL.out _ H.out).mono ?_
  rintro e w' ⟨rfl, rfl⟩
  go_wp2_with fail
  go_ret
  exact ⟨rfl, rfl⟩
end Go.Proofs.Ytjegohibpojneaa
