import Derived.Test.YtjegohibpojneaaVdOpen
set_option linter.unusedVariables false
set_option linter.unusedSimpArgs false
namespace Go.Proofs.Ytjegohibpojneaa
open Go.RowKit
attribute [local go_sem ↓] Go.wp_at_zero Go.wp_at_succ

def FewR (l : List ActP) (w : World) (e : Ending) (w' : World) : Prop := ∃ r, e = .returned (.bool r) ∧ Same w w' ∧ (r = true → l.length ≤ 150)
set_option maxRecDepth 100000 in
set_option maxHeartbeats 4000000 in
theorem vfew_any (v : Value) (l : List ActP) (w : World) (hv : SlA w v l) (hz : ∀ x ∈ l, x.2.1.size ≤ reachBytes ∧ x.2.2.size ≤ reachBytes) :
    Calls Try.prog 61 #[v] w (FewR l w) := by
  have HV := Lib.hid hv; have HZ := Lib.hid hz
  obtain ⟨ad, cp, rfl, hcp, hm, _⟩ := hv
  unfold maxLen at hm
  clear hz
  go_enter Try.func61, Try.ntmps61
  go_wp2_with fail
  go_loopw [3, 4] (fun n i wr => ∃ (k : Nat) (m : Int), k ≤ l.length ∧ k ≤ 150 ∧ i = .int .i64 k ∧ n = .int .i64 m ∧ 0 ≤ m ∧ m ≤ 20000 ∧ Same w wr) (fun _ i _ => l.length - (intOf i).toNat)
  case atStart => exact ⟨0, 0, by omega, by omega, rfl, rfl, by omega, by omega, Only.refl _ _⟩
  case round =>
    obtain ⟨k, m, hk, hk1, rfl, rfl, hm0, hm1, hS⟩ := hrel
    by_cases hlt : k < l.length
    · have hw6 : IntKind.i64.wrap ((k : Int) + 1) = (k : Int) + 1 := by rw [IntKind.wrap_i64]; omega
      obtain ⟨b1, o1, rfl, hcell⟩ := HV.out.spot (by omega)
      obtain ⟨c1, c2, c3⟩ := hcell k hlt
      have k2 := hS.cell_eq c2 (fun h => h)
      have k3 := hS.cell_eq c3 (fun h => h)
      have hz := HZ.out l[k] (List.getElem_mem hlt)
      generalize l[k] = x at *
      obtain ⟨xk, xn, xs⟩ := x
      simp only at k2 k3 hz
      have hrb : reachBytes = 140737488351232 := rfl
      have hw7 : IntKind.i64.wrap (m + (xs.size : Int)) = m + (xs.size : Int) := by rw [IntKind.wrap_i64]; omega
      have hd8 : decide ((k : Int) < (l.length : Int)) = true := decide_eq_true (by omega)
      have hd9 : decide (k < l.length) = true := decide_eq_true hlt
      have HZ2 := Lib.hid hz
      clear hcell c1 c2 c3 hz hrb
      by_cases h150 : 150 ≤ k
      · have hd : decide ((150 : Int) ≤ (k : Int)) = true := decide_eq_true (by omega)
        go_wp2_with fail
        go_ret
        exact ⟨false, rfl, hS, fun h => by cases h⟩
      have hd : decide ((150 : Int) ≤ (k : Int)) = false := decide_eq_false (by omega)
      by_cases h20 : 20000 < m + (xs.size : Int)
      · have hd2 : decide (20000 < m + (xs.size : Int)) = true := decide_eq_true h20
        go_wp2_with fail
        go_ret
        exact ⟨false, rfl, hS, fun h => by cases h⟩
      have hd2 : decide (20000 < m + (xs.size : Int)) = false := decide_eq_false h20
      by_cases h2 : 200 < xn.size
      · have hd3 : decide ((200 : Int) < (xn.size : Int)) = true := decide_eq_true (by omega)
        have hd4 : decide (200 < xn.size) = true := decide_eq_true h2
        go_wp2_with fail
        go_ret
        exact ⟨false, rfl, hS, fun h => by cases h⟩
      · have hd3 : decide ((200 : Int) < (xn.size : Int)) = false := decide_eq_false (by omega)
        have hd4 : decide (200 < xn.size) = false := decide_eq_false h2
        go_wp2_with fail
        go_roundw
        case rel => exact ⟨k + 1, m + (xs.size : Int), by omega, by omega, by go_num, rfl, by omega, by omega, hS⟩
        case measure => simp [intOf]; omega
    · obtain rfl : k = l.length := by omega
      go_wp2_with fail
      go_ret
      exact ⟨true, rfl, hS, fun _ => hk1⟩
end Go.Proofs.Ytjegohibpojneaa
