import Derived.Test.YtjegohibpojneaaPackSpec
import Derived.Test.YtjegohibpojneaaProg
set_option linter.unusedVariables false
set_option linter.unusedSimpArgs false
namespace Go.Proofs.Ytjegohibpojneaa
open Go.RowKit

set_option maxRecDepth 100000 in
theorem same02_any (v1 v2 : Value) (l1 l2 : List Int) (w : World) (h1 : Sl w (.int .i64) v1 l1) (h2 : Sl w (.int .i64) v2 l2) :
    Calls Try.prog 97 #[v1, v2] w fun e w' => e = .returned (.bool (decide (l1 = l2))) ∧ Same w w' := by
  obtain ⟨a1, c1, rfl, hc1, hm1, _, hx1⟩ := h1
  obtain ⟨a2, c2, rfl, hc2, hm2, _, hx2⟩ := h2
  have HX1 := Lib.hid hx1; have HX2 := Lib.hid hx2
  unfold maxLen at hm1 hm2
  clear hx1 hx2
  by_cases hlen : l1.length = l2.length
  · have hle : ((l1.length : Int) != (l2.length : Int)) = false := by simp [hlen]
    have HL := Lib.hid hlen
    clear hlen
    go_enter Try.func97, Try.ntmps97
    go_wp2_with fail
    go_loopw [5] (fun i wr => ∃ k : Nat, k ≤ l1.length ∧ i = .int .i64 k ∧ Same w wr ∧ l1.take k = l2.take k) (fun i _ => l1.length - (intOf i).toNat)
    case atStart => exact ⟨0, by omega, rfl, Only.refl _ _, rfl⟩
    case round =>
      obtain ⟨k, hk, rfl, hS, ht⟩ := hrel
      have HT := Lib.hid ht
      clear ht
      by_cases hlt : k < l1.length
      · have hlt2 : k < l2.length := by have := HL.out; omega
        obtain ⟨b1, o1, rfl, hc1'⟩ := HX1.out (by omega)
        obtain ⟨b2, o2, rfl, hc2'⟩ := HX2.out (by omega)
        have k1 := hS.cell_eq (hc1' k hlt) (fun h => h)
        have k2 := hS.cell_eq (hc2' k hlt2) (fun h => h)
        have H1 := Lib.hid hc1'; have H2 := Lib.hid hc2'
        clear hc1' hc2'
        by_cases heq : l1[k] = l2[k]
        · have hb : (l1[k] != l2[k]) = false := by simp [heq]
          have HQ := Lib.hid heq
          clear heq
          generalize hx : l1[k] = x at *
          generalize hy : l2[k] = y at *
          have HXX := Lib.hid hx; have HYY := Lib.hid hy
          clear hx hy
          go_wp2_with fail
          go_quiet (fail)
          rename_i nq
          go_wp2
          refine ⟨⟨k + 1, by omega, by go_num, hS.drewN nq, ?_⟩, by simp [intOf]; omega⟩
          rw [← List.take_append_getElem hlt, ← List.take_append_getElem hlt2, HT.out, HXX.out, HYY.out, HQ.out]
        · have hb : (l1[k] != l2[k]) = true := by simp [heq]
          have hne : decide (l1 = l2) = false := decide_eq_false (by rintro rfl; exact heq rfl)
          have HN := Lib.hid hne
          clear heq hne
          generalize hx : l1[k] = x at *
          generalize hy : l2[k] = y at *
          clear hx hy
          go_wp2_with fail
          go_quiet (fail)
          rename_i nq
          go_wp2
          go_ret
          rw [HN.out]
          exact ⟨rfl, hS.drewN nq⟩
      · obtain rfl : k = l1.length := by omega
        have hq : decide (l1 = l2) = true := decide_eq_true (by have := HT.out; have h2 := HL.out; rw [List.take_length, h2, List.take_length] at this; exact this)
        have HN := Lib.hid hq
        clear hq
        go_wp2
        go_ret
        rw [HN.out]
        exact ⟨rfl, hS⟩
  · have hle : ((l1.length : Int) != (l2.length : Int)) = true := by simp; omega
    have hne : decide (l1 = l2) = false := decide_eq_false (by rintro rfl; exact hlen rfl)
    rw [hne]
    clear hlen hne
    go_enter Try.func97, Try.ntmps97
    go_wp2_with fail
    go_ret
    exact ⟨rfl, Only.refl _ _⟩
end Go.Proofs.Ytjegohibpojneaa
