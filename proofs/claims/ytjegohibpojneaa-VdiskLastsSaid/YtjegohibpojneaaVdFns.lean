import Derived.Test.YtjegohibpojneaaVdCrash
import Derived.Laws.LoneSync
import Derived.Laws.Closers25b
import Derived.Carry
set_option linter.unusedVariables false
set_option linter.unusedSimpArgs false
namespace Go.Proofs.Ytjegohibpojneaa
open Go.RowKit
attribute [local go_sem ↓] Go.wp_at_zero Go.wp_at_succ

/-! the disk's small functions -/
theorem wrapS {x : Int} (h : -9223372036854775808 ≤ x ∧ x ≤ 9223372036854775807) : IntKind.i64.wrap x = x := by rw [IntKind.wrap_i64]; omega
/-- A count anywhere in a struct. -/
theorem loadat_any (b j : Nat) (n : Int) (w : World) (hc : w.cell? ⟨b, j, none⟩ = some (.int .i64 n)) :
    Calls Try.prog 132 #[.pointer (some ⟨b, j, none⟩)] w fun e w' => e = .returned (.int .i64 n) ∧ w' = w := by
  have hld := run_call_load (P := Try.prog) Try.func164 (by kernel_rfl) (by kernel_rfl) (by kernel_rfl) .i64 (by kernel_rfl) (w := w) hc
  go_enter Try.func132, Try.ntmps132
  go_wp2_with fail
  go_ret
  exact ⟨rfl, rfl⟩
theorem addat_any (b j : Nat) (n : Int) (w : World) (hc : w.cell? ⟨b, j, none⟩ = some (.int .i64 n)) (hz : w.frozen? ⟨b, j, none⟩ = false) (hr : -9223372036854775808 ≤ n + 1 ∧ n + 1 ≤ 9223372036854775807) :
    Calls Try.prog 131 #[.pointer (some ⟨b, j, none⟩), .int .i64 1] w fun e w' => e = .returned (.int .i64 (n + 1)) ∧ w' = w.setCell ⟨b, j, none⟩ (.int .i64 (n + 1)) := by
  have hadd := run_call_add (P := Try.prog) Try.func163 (by kernel_rfl) (by kernel_rfl) (by kernel_rfl) .i64 (by kernel_rfl) (y := 1) (s := n + 1) hc hz (by simp [go_sem]; rw [wrapS hr])
  go_enter Try.func131, Try.ntmps131
  go_wp2_with fail
  go_ret
  exact ⟨rfl, rfl⟩
theorem vright_name (s : ByteArray) (w : World) (hs : s.size ≤ maxLen) : Calls Try.prog 117 #[.string s] w fun e w' => e = .returned (.bool (rightN s)) ∧ Same w w' := by
  by_cases h0 : s.toList = []
  · have hr : rightN s = false := by rw [(toList_nil_iff_emptyBytes s).1 h0]; rfl
    rw [hr]
    have hb : s.toList.isEmpty = true := by rw [h0]; rfl
    go_enter Try.func117, Try.ntmps117
    go_wp2_with fail
    go_ret
    exact ⟨rfl, Only.refl _ _⟩
  · have h1 : 1 ≤ s.size := by
      rcases Nat.eq_zero_or_pos s.size with h | h
      · exact absurd ((toList_nil_iff_emptyBytes s).2 (ByteArray.ext (Array.eq_empty_of_size_eq_zero h))) h0
      · exact h
    have hb : s.toList.isEmpty = false := by cases hc : s.toList.isEmpty; rfl; exact absurd (List.isEmpty_iff.1 hc) h0
    by_cases h2 : s.size ≤ 32
    · have hr : rightN s = true := by unfold rightN; simp [h1, h2]
      rw [hr]
      have hd : decide ((s.size : Int) ≤ 32) = true := decide_eq_true (by omega)
      have hd2 : decide (s.size ≤ 32) = true := decide_eq_true h2
      go_enter Try.func117, Try.ntmps117
      go_wp2_with fail
      go_ret
      exact ⟨rfl, Only.refl _ _⟩
    · have hr : rightN s = false := by unfold rightN; simp [h2]
      rw [hr]
      have hd : decide ((s.size : Int) ≤ 32) = false := decide_eq_false (by omega)
      have hd2 : decide (s.size ≤ 32) = false := decide_eq_false h2
      go_enter Try.func117, Try.ntmps117
      go_wp2_with fail
      go_ret
      exact ⟨rfl, Only.refl _ _⟩
def newD (q : Int) : Dk := ⟨q, [], 0, 0, 0, false, 0⟩
theorem vnew_bad (q : Int) (w : World) (h : q < 1 ∨ 1048576 < q) : Calls Try.prog 62 #[.int .i64 q] w fun e w' => e = .returned (.tuple #[.pointer none, .int .i64 1]) ∧ Same w w' := by
  by_cases h1 : q < 1
  · have hd : decide (q < 1) = true := decide_eq_true h1
    go_enter Try.func62, Try.ntmps62
    go_wp2_with fail
    go_ret2
    exact ⟨rfl, Only.refl _ _⟩
  · have hd : decide (q < 1) = false := decide_eq_false h1
    have hd2 : decide (1048576 < q) = true := decide_eq_true (by omega)
    go_enter Try.func62, Try.ntmps62
    go_wp2_with fail
    go_ret2
    exact ⟨rfl, Only.refl _ _⟩
theorem vnew_any (q : Int) (w : World) (h : 1 ≤ q ∧ q ≤ 1048576) : Calls Try.prog 62 #[.int .i64 q] w fun e w' => e = .returned (.tuple #[.pointer (some ⟨w.heap.size + 1, 0, none⟩), .int .i64 0]) ∧ Same w w' ∧ DkW w' (w.heap.size + 1) w.heap.size (newD q) := by
  have hd : decide (q < 1) = false := decide_eq_false (by omega)
  have hd2 : decide (1048576 < q) = false := decide_eq_false (by omega)
  have hm := MpS.made fileV Try.prog 9 w
  have hS : Same w ((w.alloc (.map #[] 0)).alloc (.cells #[.int .i64 q, .map (some w.heap.size), .int .i64 0, .int .i64 0, .int .i64 0, .bool false, .int .i64 0] 188)) := ((Only.refl _ w).alloc _).alloc _
  have hb := blk_new1 w (.map #[] 0) (.cells #[.int .i64 q, .map (some w.heap.size), .int .i64 0, .int .i64 0, .int .i64 0, .bool false, .int .i64 0] 188)
  have hm2 := hm.same ((Only.refl _ _).alloc (.cells #[.int .i64 q, .map (some w.heap.size), .int .i64 0, .int .i64 0, .int .i64 0, .bool false, .int .i64 0] 188))
  have HF := Lib.hid (And.intro hS (And.intro hb hm2))
  have hmm := @run_makeMap Try.prog
  clear hm hS hb hm2
  go_enter Try.func62, Try.ntmps62
  go_wp2_with fail
  go_ret2
  exact ⟨rfl, HF.out.1, HF.out.2.1, HF.out.2.2⟩
theorem vstart_any (b mb : Nat) (d : Dk) (w : World) (h : DkW w b mb d) : Calls Try.prog 68 #[.pointer (some ⟨b, 0, none⟩)] w fun e w' => e = .returned (.tuple #[]) ∧ DkW w' b mb { d with down := false } ∧ Only (· = b) w w' := by
  have H := Lib.hid h
  have c5 : w.cell? ⟨b, 5, none⟩ = some (.bool d.down) := blk_cells h.1 5
  have f5 := blk_frozen h.1 5
  clear h
  go_enter Try.func68, Try.ntmps68
  go_wp2_with fail
  go_end0
  have hO : Only (fun i => i = b) w (w.setCell ⟨b, 5, none⟩ (.bool false)) := (Only.refl (fun i => i = b) w).setCell (fun _ => rfl) _
  exact ⟨rfl, ⟨blk_set (j := 5) H.out.1, H.out.2.only hO H.out.ne⟩, hO⟩
theorem veffects_any (b mb : Nat) (d : Dk) (w : World) (h : DkW w b mb d) (hr : -9223372036854775808 ≤ d.eff ∧ d.eff ≤ 9223372036854775807) : Calls Try.prog 115 #[.pointer (some ⟨b, 0, none⟩)] w fun e w' => e = .returned (.int .i64 d.eff) ∧ Same w w' := by
  have hc : w.cell? ⟨b, 6, none⟩ = some (.int .i64 d.eff) := blk_cells h.1 6
  have cl := loadat_any b 6 d.eff w hc
  have CL := Lib.hid cl
  have hw := wrapS hr
  clear h cl
  go_enter Try.func115, Try.ntmps115
  go_wp2_with fail
  refine CL.out.mono ?_
  rintro e w' ⟨rfl, rfl⟩
  go_wp2_with fail
  go_ret
  exact ⟨rfl, Only.refl _ _⟩
end Go.Proofs.Ytjegohibpojneaa
