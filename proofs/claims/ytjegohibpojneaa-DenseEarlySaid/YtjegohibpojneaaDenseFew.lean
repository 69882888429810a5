import Derived.Test.YtjegohibpojneaaDenseRows
set_option linter.unusedVariables false
set_option linter.unusedSimpArgs false
namespace Go.Proofs.Ytjegohibpojneaa
open Go.RowKit
attribute [local go_sem ↓] Go.wp_at_zero Go.wp_at_succ

def fewR (l : List RowP) : Prop := l.length ≤ 100 ∧ ∀ r ∈ l, r.2.length ≤ 20
instance (l : List RowP) : Decidable (fewR l) := by unfold fewR; infer_instance
set_option maxRecDepth 100000 in
set_option maxHeartbeats 4000000 in
theorem fewr_any (v : Value) (l : List RowP) (w : World) (hv : SlR w v l) :
    Calls Try.prog 70 #[v] w fun e w' => e = .returned (.bool (decide (fewR l))) ∧ Same w w' := by
  have HV := Lib.hid hv
  obtain ⟨ad, cp, rfl, hcp, hm⟩ := hv.lit
  unfold maxLen at hm
  clear hv
  go_enter Try.func70, Try.ntmps70
  go_wp2_with fail
  go_loopw [3] (fun i wr => ∃ k : Nat, k ≤ l.length ∧ k ≤ 100 ∧ i = .int .i64 k ∧ Same w wr ∧ ∀ r ∈ l.take k, r.2.length ≤ 20) (fun i _ => l.length - (intOf i).toNat)
  case atStart => exact ⟨0, by omega, by omega, rfl, Only.refl _ _, by simp⟩
  case round =>
    obtain ⟨k, hk, hk1, rfl, hS, hn⟩ := hrel
    have HN := Lib.hid hn
    clear hn
    by_cases hlt : k < l.length
    · have hw6 : IntKind.i64.wrap ((k : Int) + 1) = (k : Int) + 1 := by rw [IntKind.wrap_i64]; omega
      by_cases h100 : 100 ≤ k
      · have hd : decide ((100 : Int) ≤ (k : Int)) = true := decide_eq_true (by omega)
        have hin : decide (fewR l) = false := decide_eq_false (fun h => by have := h.1; omega)
        have HIN := Lib.hid hin
        clear hin
        go_wp2_with fail
        go_ret
        rw [HIN.out]
        exact ⟨rfl, hS⟩
      have hd : decide ((100 : Int) ≤ (k : Int)) = false := decide_eq_false (by omega)
      obtain ⟨b1, o1, rfl, hcell⟩ := HV.out.spot (by omega)
      obtain ⟨c1, u, c2, hsl⟩ := hcell k hlt
      have k2 := hS.cell_eq c2 (fun h => h)
      obtain ⟨ua, uc, rfl, _⟩ := hsl
      obtain ⟨vec, hvec⟩ : ∃ vec, vec = l[k].2 := ⟨_, rfl⟩
      rw [← hvec] at k2
      have HT : Hid (l.take (k + 1) = l.take k ++ [l[k]]) := Lib.hid (by rw [← List.take_append_getElem hlt])
      have HVE := Lib.hid hvec
      clear hcell c1 c2 hvec
      by_cases h20 : 20 < vec.length
      · have hd2 : decide ((20 : Int) < (vec.length : Int)) = true := decide_eq_true (by omega)
        have hd3 : decide (20 < vec.length) = true := decide_eq_true h20
        have hin : decide (fewR l) = false := decide_eq_false (fun h => by have := h.2 l[k] (List.getElem_mem hlt); rw [← HVE.out] at this; omega)
        have HIN := Lib.hid hin
        clear hin h20
        go_wp2_with fail
        go_ret
        rw [HIN.out]
        exact ⟨rfl, hS⟩
      · have hd2 : decide ((20 : Int) < (vec.length : Int)) = false := decide_eq_false (by omega)
        have hd3 : decide (20 < vec.length) = false := decide_eq_false h20
        have H20 := Lib.hid h20
        clear h20
        go_wp2_with fail
        go_roundw
        case rel => exact ⟨k + 1, by omega, by omega, by go_num, hS, fun r hr => by
          rw [HT.out] at hr
          rcases List.mem_append.1 hr with hr | hr
          · exact HN.out r hr
          · rw [List.mem_singleton.1 hr, ← HVE.out]; have := H20.out; omega⟩
        case measure => simp [intOf]; omega
    · obtain rfl : k = l.length := by omega
      have hin : decide (fewR l) = true := decide_eq_true ⟨hk1, by have := HN.out; rwa [List.take_length] at this⟩
      have HIN := Lib.hid hin
      clear hin
      go_wp2_with fail
      go_ret
      rw [HIN.out]
      exact ⟨rfl, hS⟩
end Go.Proofs.Ytjegohibpojneaa
