import Derived.Test.YtjegohibpojneaaDenseRows
set_option linter.unusedVariables false
set_option linter.unusedSimpArgs false
namespace Go.Proofs.Ytjegohibpojneaa
open Go.RowKit
attribute [local go_sem ↓] Go.wp_at_zero Go.wp_at_succ

/-- but: all documents but some. -/
theorem but_any (a : Option Addr) (n c : Nat) (w : World) : Calls Try.prog 74 #[.slice a n c] w fun e w' => e = .returned (.func (.func 126) #[] #[.pointer (some ⟨w.heap.size, 0, none⟩)]) ∧ w' = w.alloc (.cells #[.slice a n c] 23) := by
  go_enter Try.func74, Try.ntmps74
  go_wp2_with fail
  go_ret
  exact ⟨rfl, rfl⟩
set_option maxRecDepth 100000 in
set_option maxHeartbeats 4000000 in
theorem but1_any (x : Int) (c : Nat) (v : Value) (l : List Int) (w : World) (hc : w.cell? ⟨c, 0, none⟩ = some v) (hv : Sl w (.int .i64) v l) :
    Calls Try.prog 126 #[.int .i64 x, .pointer (some ⟨c, 0, none⟩)] w fun e w' => e = .returned (.bool (decide (x ∉ l))) ∧ Same w w' := by
  have HV := Lib.hid hv; have HC := Lib.hid hc
  obtain ⟨ad, cp, rfl, hcp, hm, _, _⟩ := hv
  unfold maxLen at hm
  clear hc
  go_enter Try.func126, Try.ntmps126
  go_wp2_with fail
  go_loopw [4] (fun i wr => ∃ k : Nat, k ≤ l.length ∧ i = .int .i64 k ∧ Same w wr ∧ x ∉ l.take k) (fun i _ => l.length - (intOf i).toNat)
  case atStart => exact ⟨0, by omega, rfl, Only.refl _ _, by simp⟩
  case round =>
    obtain ⟨k, hk, rfl, hS, hn⟩ := hrel
    have HN := Lib.hid hn
    have hc1 := hS.cell_eq HC.out (fun h => h)
    clear hn
    by_cases hlt : k < l.length
    · obtain ⟨b1, o1, rfl, hcell⟩ := HV.out.spot (by omega)
      have k1 := hS.cell_eq (hcell k hlt) (fun h => h)
      obtain ⟨y, hy⟩ : ∃ y, y = l[k] := ⟨_, rfl⟩
      rw [← hy] at k1
      have HY := Lib.hid hy
      have hw6 : IntKind.i64.wrap ((k : Int) + 1) = (k : Int) + 1 := by rw [IntKind.wrap_i64]; omega
      clear hcell hy
      by_cases hxy : y = x
      · have hb : (y == x) = true := by simpa using hxy
        have hin : decide (x ∉ l) = false := decide_eq_false (fun h => h (by rw [← hxy, HY.out]; exact List.getElem_mem hlt))
        have HIN := Lib.hid hin
        clear hxy hin
        go_wp2_with fail
        go_ret
        rw [HIN.out]
        exact ⟨rfl, hS⟩
      · have hb : (y == x) = false := by simpa using hxy
        have HXY := Lib.hid hxy
        clear hxy
        go_wp2_with fail
        go_roundw
        case rel => exact ⟨k + 1, by omega, by go_num, hS, by
          rw [← List.take_append_getElem hlt, ← HY.out]
          intro h
          rcases List.mem_append.1 h with h | h
          · exact HN.out h
          · exact HXY.out (List.mem_singleton.1 h).symm⟩
        case measure => simp [intOf]; omega
    · obtain rfl : k = l.length := by omega
      have hin : decide (x ∉ l) = true := decide_eq_true (by have := HN.out; rwa [List.take_length] at this)
      have HIN := Lib.hid hin
      clear hin
      go_wp2_with fail
      go_ret
      rw [HIN.out]
      exact ⟨rfl, hS⟩
end Go.Proofs.Ytjegohibpojneaa
