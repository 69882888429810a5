import Derived.Test.YtjegohibpojneaaDocRead
import Derived.Test.YtjegohibpojneaaPackRefR
set_option linter.unusedVariables false
set_option linter.unusedSimpArgs false
namespace Go.Proofs.Ytjegohibpojneaa
open Go.RowKit

theorem chg_form {w : World} {v : Value} {c : Chg} (h : ChgV w v c) : ∃ a1 n1 m1 a2 n2 m2, v = .agg #[.int .i64 c.doc, .slice a1 n1 m1, .slice a2 n2 m2, .int .i64 c.tags, .bool c.gone] ∧ n1 = c.terms.length ∧ n2 = c.v.length := by
  obtain ⟨s1, s2, rfl, ⟨a1, m1, rfl, _⟩, ⟨a2, m2, rfl, _⟩⟩ := h
  exact ⟨a1, _, m1, a2, _, m2, rfl, rfl, rfl⟩
set_option maxRecDepth 100000 in
set_option maxHeartbeats 1000000 in
/-- law10.Of: the same change. -/
theorem of_any (v : Value) (c : Chg) (w : World) (hv : ChgV w v c) :
    Calls Try.prog 18 #[v] w fun e w' => e = .returned v ∧ Same w w' := by
  obtain ⟨a1, n1, m1, a2, n2, m2, rfl, -, -⟩ := chg_form hv
  obtain ⟨hS0, hB0⟩ := chg_box w c (.slice a1 n1 m1) (.slice a2 n2 m2) 27 _ rfl
  obtain ⟨w1, hw1⟩ : ∃ x, x = (w.alloc (.cells #[.int .i64 c.doc, .slice a1 n1 m1, .slice a2 n2 m2, .int .i64 c.tags, .bool c.gone] 27)).alloc (.cells zCells 36) := ⟨_, rfl⟩
  have hS1 : Same w w1 := by rw [hw1]; exact hS0.alloc _
  have hB1 : w1.heap[w.heap.size]? = some (.cells #[.int .i64 c.doc, .slice a1 n1 m1, .slice a2 n2 m2, .int .i64 c.tags, .bool c.gone] 27 (0, 0)) := by rw [hw1]; exact blk_old _ hB0
  have hR1 : w1.heap[w.heap.size + 1]? = some (.cells zCells 36 (0, 0)) := by rw [hw1]; exact blk2 _ _ _
  obtain ⟨⟨p0, p1, p2, p3, p4⟩, _⟩ := five_facts hB1
  obtain ⟨⟨q0, q1, q2, q3, q4⟩, f0, f1, f2, f3, f4⟩ := five_facts hR1
  have HS1 := Lib.hid hS1; have HR1 := Lib.hid hR1
  clear hS0 hB0 hS1 hB1 hR1 hv
  go_enter Try.func18, Try.ntmps18
  go_upto_region 1 with fail
  rw [← hw1]
  clear hw1
  go_wp2_with fail
  refine bodyPost_ret (results_cell_row rfl _ _ _ _ _ _ _ rfl (five_set HR1.out _ _ _ _ _) Try.underlying36 rfl (by kernel_rfl)) rfl ?_
  exact ⟨rfl, HS1.out.put5 (fun h => by omega) _ _ _ _ _⟩
set_option maxRecDepth 100000 in
theorem few_any (v : Value) (c : Chg) (w : World) (hv : ChgV w v c) :
    Calls Try.prog 15 #[v] w fun e w' => e = .returned (.bool (decide (c.terms.length ≤ 100) && decide (c.v.length ≤ 20))) ∧ Same w w' := by
  obtain ⟨a1, n1, m1, a2, n2, m2, rfl, hn1, hn2⟩ := chg_form hv
  obtain ⟨hS0, hB0⟩ := chg_box w c (.slice a1 n1 m1) (.slice a2 n2 m2) 27 _ rfl
  rw [← hn1, ← hn2]
  obtain ⟨⟨p0, p1, p2, p3, p4⟩, _⟩ := five_facts hB0
  have HS0 := Lib.hid hS0
  clear hS0 hB0 hv hn1 hn2
  by_cases h1 : n1 ≤ 100
  · have hb : decide ((n2 : Int) ≤ 20) = decide (n2 ≤ 20) := by by_cases h : n2 ≤ 20; rw [decide_eq_true h]; simp; omega; rw [decide_eq_false h]; simp; omega
    have hb2 : (decide (n1 ≤ 100) && decide (n2 ≤ 20)) = decide ((n2 : Int) ≤ 20) := by rw [hb, decide_eq_true h1]; rfl
    rw [hb2]
    clear hb hb2
    generalize hq : decide ((n2 : Int) ≤ 20) = q
    go_enter Try.func15, Try.ntmps15
    go_wp2_with fail
    go_ret
    exact ⟨rfl, HS0.out⟩
  · have hb2 : (decide (n1 ≤ 100) && decide (n2 ≤ 20)) = false := by rw [decide_eq_false h1]; rfl
    rw [hb2]
    clear hb2
    go_enter Try.func15, Try.ntmps15
    go_wp2_with fail
    go_ret
    exact ⟨rfl, HS0.out⟩
end Go.Proofs.Ytjegohibpojneaa
