import Derived.Test.YtjegohibpojneaaTopSpec
import Derived.Test.YtjegohibpojneaaFacts
import Derived.BigQuiet
set_option linter.unusedVariables false
set_option linter.unusedSimpArgs false
namespace Go.Proofs.Ytjegohibpojneaa
open Go.RowKit
attribute [local go_sem ↓] Go.wp_at_zero Go.wp_at_succ

theorem better_any (a b : Int × Int) (w : World) : Calls Try.prog 51 #[pairV a, pairV b] w fun e w' => e = .returned (.bool (betP a b)) ∧ Same w w' := by
  obtain ⟨a1, a2⟩ := a
  obtain ⟨b1, b2⟩ := b
  unfold pairV
  have hS : Same w ((w.alloc (.cells #[.int .i64 a1, .int .i64 a2] 89)).alloc (.cells #[.int .i64 b1, .int .i64 b2] 89)) := ((Only.refl _ w).alloc _).alloc _
  have hA := blk_old (.cells #[.int .i64 b1, .int .i64 b2] 89) (blk_new w (.cells #[.int .i64 a1, .int .i64 a2] 89))
  have hB := blk_new1 w (.cells #[.int .i64 a1, .int .i64 a2] 89) (.cells #[.int .i64 b1, .int .i64 b2] 89)
  have hbp : betP (a1, a2) (b1, b2) = (decide (b2 < a2) || (decide (a2 = b2) && decide (a1 < b1))) := rfl
  rw [hbp]
  go_enter Try.func51, Try.ntmps51
  go_upto_region 1 with fail
  generalize (w.alloc (.cells #[.int .i64 a1, .int .i64 a2] 89)).alloc (.cells #[.int .i64 b1, .int .i64 b2] 89) = W at *
  obtain ⟨p0, p1, _, _⟩ := two_facts hA
  obtain ⟨q0, q1, _, _⟩ := two_facts hB
  clear hA hB hbp
  by_cases h1 : b2 < a2
  · have d1 : decide (b2 < a2) = true := decide_eq_true h1
    go_wp2_with fail
    go_ret
    exact ⟨by simp [h1], hS⟩
  · have d1 : decide (b2 < a2) = false := decide_eq_false h1
    by_cases h2 : a2 = b2
    · have d2 : (a2 == b2) = true := by simpa using h2
      go_wp2_with fail
      go_ret
      exact ⟨by simp [h1, h2], hS⟩
    · have d2 : (a2 == b2) = false := by simpa using h2
      go_wp2_with fail
      go_ret
      exact ⟨by simp [h1, h2], hS⟩
theorem rbetter_any (a b : Int × Int) (w : World) : Calls Try.prog 54 #[pairV a, pairV b] w fun e w' => e = .returned (.bool (betP a b)) ∧ Same w w' := by
  obtain ⟨a1, a2⟩ := a
  obtain ⟨b1, b2⟩ := b
  unfold pairV
  have hS : Same w ((w.alloc (.cells #[.int .i64 a1, .int .i64 a2] 89)).alloc (.cells #[.int .i64 b1, .int .i64 b2] 89)) := ((Only.refl _ w).alloc _).alloc _
  have hA := blk_old (.cells #[.int .i64 b1, .int .i64 b2] 89) (blk_new w (.cells #[.int .i64 a1, .int .i64 a2] 89))
  have hB := blk_new1 w (.cells #[.int .i64 a1, .int .i64 a2] 89) (.cells #[.int .i64 b1, .int .i64 b2] 89)
  have hbp : betP (a1, a2) (b1, b2) = (decide (b2 < a2) || (decide (a2 = b2) && decide (a1 < b1))) := rfl
  rw [hbp]
  go_enter Try.func54, Try.ntmps54
  go_upto_region 1 with fail
  generalize (w.alloc (.cells #[.int .i64 a1, .int .i64 a2] 89)).alloc (.cells #[.int .i64 b1, .int .i64 b2] 89) = W at *
  obtain ⟨p0, p1, _, _⟩ := two_facts hA
  obtain ⟨q0, q1, _, _⟩ := two_facts hB
  clear hA hB hbp
  by_cases h2 : a2 = b2
  · have d2 : (a2 == b2) = true := by simpa using h2
    go_wp2_with fail
    go_ret
    exact ⟨by simp [h2], hS⟩
  · have d2 : (a2 == b2) = false := by simpa using h2
    go_wp2_with fail
    go_ret
    exact ⟨by simp [h2], hS⟩
/-- A bound of k that keeps h (a heap's row). -/
def TopAt (w : World) (b k : Nat) (h : List (Int × Int)) : Prop := ∃ v, w.heap[b]? = some (.cells #[.int .i64 k, v, .func (.func 51) #[] #[]] 181 (0, 0)) ∧ w.ownsRow (b + 1) 89 2 v h.length (cells2 h)
theorem TopAt.same {w w' : World} {b k : Nat} {h : List (Int × Int)} (ht : TopAt w b k h) (hS : Same w w') : TopAt w' b k h := by
  obtain ⟨v, h1, h2⟩ := ht
  exact ⟨v, hS.heap h1 (fun h => h), own_same h2 hS⟩
theorem tnew_any (k : Int) (w : World) (hk : -9223372036854775808 ≤ k ∧ k ≤ 9223372036854775807) : Calls Try.prog 50 #[.int .i64 k, .func (.func 51) #[] #[]] w fun e w' => e = .returned (.pointer (some ⟨w.heap.size, 0, none⟩)) ∧ Same w w' ∧ TopAt w' w.heap.size k.toNat [] := by
  have hfin : ∀ m : Int, m = (k.toNat : Int) → Same w (w.alloc (.cells #[.int .i64 m, .slice none 0 0, .func (.func 51) #[] #[]] 181)) ∧ TopAt (w.alloc (.cells #[.int .i64 m, .slice none 0 0, .func (.func 51) #[] #[]] 181)) w.heap.size k.toNat [] := by
    rintro m rfl
    exact ⟨(Only.refl _ w).alloc _, _, blk_new _ _, World.ownsRow_nil _ _ _ _⟩
  by_cases h0 : k < 0
  · go_enter Try.func50, Try.ntmps50
    go_wp2_with fail
    go_ret
    exact ⟨rfl, hfin _ (by omega)⟩
  · go_enter Try.func50, Try.ntmps50
    go_wp2_with fail
    go_ret
    exact ⟨rfl, hfin _ (by omega)⟩
end Go.Proofs.Ytjegohibpojneaa
