import Derived.Test.YtjegohibpojneaaVec
import Derived.Laws.EntriesVeiled
set_option linter.unusedVariables false
set_option linter.unusedSimpArgs false
namespace Go.Proofs.Ytjegohibpojneaa
open Go.RowKit
attribute [local go_sem ↓] Go.wp_at_zero Go.wp_at_succ

/-! dense: what two numbers bring, and what one could -/
theorem wrapS {x : Int} (h : -9223372036854775808 ≤ x ∧ x ≤ 9223372036854775807) : IntKind.i64.wrap x = x := by rw [IntKind.wrap_i64]; omega
theorem brings0_any (a b : Int) (w : World) (h : -9223372036854775808 ≤ a * b ∧ a * b ≤ 9223372036854775807) : Calls Try.prog 157 #[.int .i64 a, .int .i64 b] w fun e w' => e = .returned (.int .i64 (a * b)) ∧ w' = w := by
  have hw := wrapS h
  clear h
  go_enter Try.func157, Try.ntmps157
  go_wp2_with fail
  go_ret
  exact ⟨rfl, rfl⟩
theorem brings1_any (a b : Int) (w : World) (h1 : -9223372036854775808 < a - b ∧ a - b ≤ 9223372036854775807) (h3 : -9223372036854775808 ≤ -(a - b) * (a - b) ∧ -(a - b) * (a - b) ≤ 9223372036854775807) :
    Calls Try.prog 160 #[.int .i64 a, .int .i64 b] w fun e w' => e = .returned (.int .i64 (-(a - b) * (a - b))) ∧ w' = w := by
  have hw1 := wrapS (x := a - b) (by omega)
  have hw2 := wrapS (x := -(a - b)) (by omega)
  have hw3 := wrapS h3
  clear h1 h3
  go_enter Try.func160, Try.ntmps160
  go_wp2_with fail
  go_ret
  exact ⟨rfl, rfl⟩
theorem size_any0 (a : Int) (w : World) (h : -9223372036854775807 ≤ a ∧ a ≤ 9223372036854775807) : Calls Try.prog 159 #[.int .i64 a] w fun e w' => e = .returned (.int .i64 (max a (-a))) ∧ w' = w := by
  have hw := wrapS (x := -a) (by omega)
  obtain ⟨m, hm⟩ : ∃ m, m = max a (-a) := ⟨_, rfl⟩
  rw [← hm]
  have HM := Lib.hid hm
  clear hm
  go_enter Try.func159, Try.ntmps159
  go_wp2_with fail
  all_goals
    go_ret
    refine ⟨?_, rfl⟩
    rw [HM.out]
    show Ending.returned (Value.int .i64 _) = _
    congr 2
    omega
theorem could0_any (a : Int) (w : World) (h : -1000000 ≤ a ∧ a ≤ 1000000) : Calls Try.prog 158 #[.int .i64 a] w fun e w' => e = .returned (.int .i64 (127 * max a (-a))) ∧ w' = w := by
  have hw := wrapS (x := 127 * max a (-a)) (by omega)
  have cs := fun w0 => size_any0 a w0 (by omega)
  generalize max a (-a) = m at *
  have CS := Lib.hid cs
  clear cs
  go_enter Try.func158, Try.ntmps158
  go_wp2_with fail
  refine (CS.out _).mono ?_
  rintro e w' ⟨rfl, rfl⟩
  go_wp2_with fail
  go_ret
  exact ⟨rfl, rfl⟩
theorem could1_any (a : Int) (w : World) : Calls Try.prog 161 #[.int .i64 a] w fun e w' => e = .returned (.int .i64 0) ∧ w' = w := by
  go_enter Try.func161, Try.ntmps161
  go_wp2_with fail
  go_ret
  exact ⟨rfl, rfl⟩
theorem results_c1 {P : Program} {fn : Func} {p : Tmp} {ty : TypeId} (h : fn.results = #[.cell p ty]) (tmps : Array Value) (w : World) (g : Nat) (t : TypeId) (cs : Array Value) (fr : Nat × Nat) (d : TypeDesc)
    (hp : tmps.getD p undef = .pointer (some ⟨g, 0, none⟩)) (hg : w.heap[g]? = some (.cells cs t fr))
    (hu : P.underlying ty = some d) (hd : (match d with | .struct _ | .array _ _ => true | _ => false) = true) (hi : (P.info? ty).map (·.size) = some cs.size) :
    (results fn tmps).run P w = .ok (.agg cs) w := by
  have hp' : tmps[p]?.getD undef = .pointer (some ⟨g, 0, none⟩) := by simpa using hp
  simp [results, h, hp', asAddr, run_loadVar_row w g t ty cs fr d hg hu hd hi, Result.andThen]
theorem four_facts {w : World} {b : Nat} {u v x y : Value} {t : TypeId} (h : w.heap[b]? = some (.cells #[u, v, x, y] t (0, 0))) :
    (w.cell? ⟨b, 0, none⟩ = some u ∧ w.cell? ⟨b, 1, none⟩ = some v ∧ w.cell? ⟨b, 2, none⟩ = some x ∧ w.cell? ⟨b, 3, none⟩ = some y) ∧ w.frozen? ⟨b, 0, none⟩ = false ∧ w.frozen? ⟨b, 1, none⟩ = false ∧ w.frozen? ⟨b, 2, none⟩ = false ∧ w.frozen? ⟨b, 3, none⟩ = false :=
  ⟨⟨blk_cells h 0, blk_cells h 1, blk_cells h 2, blk_cells h 3⟩, blk_frozen h 0, blk_frozen h 1, blk_frozen h 2, blk_frozen h 3⟩
theorem measures_any (w : World) : Calls Try.prog 125 #[] w fun e w' => e = .returned (.agg #[.func (.func 157) #[] #[], .func (.func 158) #[] #[], .func (.func 160) #[] #[], .func (.func 161) #[] #[]]) ∧ Same w w' := by
  have hA := blk_new w (.cells #[.nilFunc, .nilFunc, .nilFunc, .nilFunc] 202)
  have hS : Same w (w.alloc (.cells #[.nilFunc, .nilFunc, .nilFunc, .nilFunc] 202)) := (Only.refl _ w).alloc _
  go_enter Try.func125, Try.ntmps125
  go_upto_region 1 with fail
  generalize w.alloc (.cells #[.nilFunc, .nilFunc, .nilFunc, .nilFunc] 202) = W at *
  obtain ⟨⟨c0, c1, c2, c3⟩, f0, f1, f2, f3⟩ := four_facts hA
  go_wp2_with fail
  refine bodyPost_ret (results_c1 rfl _ _ _ _ _ _ _ rfl (blk_set (j := 3) (blk_set (j := 2) (blk_set (j := 1) (blk_set (j := 0) hA)))) Try.underlying202 rfl (by kernel_rfl)) rfl ?_
  exact ⟨rfl, (((hS.setCell (fun h => by have h2 : w.heap.size < w.heap.size := h; omega) _).setCell (fun h => by have h2 : w.heap.size < w.heap.size := h; omega) _).setCell (fun h => by have h2 : w.heap.size < w.heap.size := h; omega) _).setCell (fun h => by have h2 : w.heap.size < w.heap.size := h; omega) _⟩
end Go.Proofs.Ytjegohibpojneaa
