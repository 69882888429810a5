import Derived.Test.YtjegohibpojneaaTopList
import Derived.Sort.Grow
set_option linter.unusedVariables false
set_option linter.unusedSimpArgs false
namespace Go.Proofs.Ytjegohibpojneaa
open Go.RowKit
attribute [local go_sem ↓] Go.wp_at_zero Go.wp_at_succ

/-- Nothing that was there has changed, and no draw is taken back. -/
def Fwd (w w' : World) : Prop := Same w w' ∧ w.drawn ≤ w'.drawn
theorem Fwd.refl (w : World) : Fwd w w := ⟨Only.refl _ _, Nat.le_refl _⟩
theorem Fwd.then {a b c : World} (h : Fwd a b) (h' : Fwd b c) : Fwd a c := ⟨h.1.then h'.1, Nat.le_trans h.2 h'.2⟩
theorem Fwd.drew {a w : World} (h : Fwd a w) : Fwd a w.drew := ⟨h.1.drew, Nat.le_trans h.2 (Nat.le_succ _)⟩
theorem Fwd.drewN {a w : World} (h : Fwd a w) (n : Nat) : Fwd a (w.drewN n) := ⟨h.1.drewN n, Nat.le_trans h.2 (Nat.le_add_right _ _)⟩
theorem Fwd.alloc {a w : World} (h : Fwd a w) (o : Obj) : Fwd a (w.alloc o) := ⟨h.1.alloc o, h.2⟩
theorem Fwd.grow {w w' : World} (h : Fwd w w') : ∃ q os, w' = Go.Sort.grow (w.drewN q) os := by
  refine ⟨w'.drawn - w.drawn, w'.heap.extract w.heap.size w'.heap.size, ?_⟩
  obtain ⟨⟨h1, h2, h3, h4, h5⟩, h6⟩ := h
  obtain ⟨hp, tp, dr, os, out⟩ := w
  obtain ⟨hp', tp', dr', os', out'⟩ := w'
  simp only at h1 h2 h3 h4 h5 h6
  subst h1 h2 h3
  unfold Go.Sort.grow World.drewN
  have e1 : hp' = hp ++ hp'.extract hp.size hp'.size := by
    apply Array.ext_getElem?
    intro i
    by_cases hi : i < hp.size
    · rw [Array.getElem?_append_left hi]; exact h5 i hi (fun h => h)
    · rw [Array.getElem?_append_right (by omega)]
      simp only [Array.getElem?_extract]
      by_cases hj : i < hp'.size
      · rw [if_pos (by omega)]; congr 1; omega
      · rw [if_neg (by omega)]; simp; omega
  have e2 : dr + (dr' - dr) = dr' := by omega
  rw [← e1, e2]
theorem better_fwd (a b : Int × Int) (w : World) : Calls Try.prog 51 #[pairV a, pairV b] w fun e w' => e = .returned (.bool (betP a b)) ∧ Fwd w w' := by
  obtain ⟨a1, a2⟩ := a
  obtain ⟨b1, b2⟩ := b
  unfold pairV
  have hS : Fwd w ((w.alloc (.cells #[.int .i64 a1, .int .i64 a2] 89)).alloc (.cells #[.int .i64 b1, .int .i64 b2] 89)) := ((Fwd.refl w).alloc _).alloc _
  have hA := blk_old (.cells #[.int .i64 b1, .int .i64 b2] 89) (blk_new w (.cells #[.int .i64 a1, .int .i64 a2] 89))
  have hB := blk_new1 w (.cells #[.int .i64 a1, .int .i64 a2] 89) (.cells #[.int .i64 b1, .int .i64 b2] 89)
  have hbp : betP (a1, a2) (b1, b2) = (decide (b2 < a2) || (decide (a2 = b2) && decide (a1 < b1))) := rfl
  rw [hbp]
  go_enter Try.func51, Try.ntmps51
  go_upto_region 1 with fail
  generalize (w.alloc (.cells #[.int .i64 a1, .int .i64 a2] 89)).alloc (.cells #[.int .i64 b1, .int .i64 b2] 89) = W at *
  obtain ⟨p0, p1, _, _⟩ := two_facts hA
  obtain ⟨q0, q1, _, _⟩ := two_facts hB
  clear hA hB hbp
  by_cases h1 : b2 < a2
  · have d1 : decide (b2 < a2) = true := decide_eq_true h1
    go_wp2_with fail
    go_ret
    exact ⟨by simp [h1], hS⟩
  · have d1 : decide (b2 < a2) = false := decide_eq_false h1
    by_cases h2 : a2 = b2
    · have d2 : (a2 == b2) = true := by simpa using h2
      go_wp2_with fail
      go_ret
      exact ⟨by simp [h1, h2], hS⟩
    · have d2 : (a2 == b2) = false := by simpa using h2
      go_wp2_with fail
      go_ret
      exact ⟨by simp [h1, h2], hS⟩
set_option maxRecDepth 100000 in
set_option maxHeartbeats 4000000 in
theorem order_fwd (a b : Int × Int) (c t : Nat) (w : World) (hc : w.cell? ⟨c, 0, none⟩ = some (.pointer (some ⟨t, 0, none⟩))) (hf : w.cell? ⟨t, 2, none⟩ = some (.func (.func 51) #[] #[])) :
    Calls Try.prog 110 #[pairV a, pairV b, .pointer (some ⟨c, 0, none⟩)] w fun e w' => e = .returned (.int .i64 (cmpP a b)) ∧ Fwd w w' := by
  have hS0 : Fwd w ((w.alloc (.cells #[.int .i64 a.1, .int .i64 a.2] 89)).alloc (.cells #[.int .i64 b.1, .int .i64 b.2] 89)) := ((Fwd.refl w).alloc _).alloc _
  have hA := blk_old (.cells #[.int .i64 b.1, .int .i64 b.2] 89) (blk_new w (.cells #[.int .i64 a.1, .int .i64 a.2] 89))
  have hB := blk_new1 w (.cells #[.int .i64 a.1, .int .i64 a.2] 89) (.cells #[.int .i64 b.1, .int .i64 b.2] 89)
  obtain ⟨r, hr⟩ : ∃ r, r = cmpP a b := ⟨_, rfl⟩
  rw [← hr]
  have HR := Lib.hid hr
  have c1 := fun w0 => better_fwd a b w0
  have c2 := fun w0 => better_fwd b a w0
  have hcc := hS0.1.cell_eq hc (fun h => h)
  have hff := hS0.1.cell_eq hf (fun h => h)
  unfold pairV at c1 c2 ⊢
  have C1 := Lib.hid c1; have C2 := Lib.hid c2
  clear hr c1 c2 hc hf
  go_enter Try.func110, Try.ntmps110
  go_upto_region 1 with fail
  generalize (w.alloc (.cells #[.int .i64 a.1, .int .i64 a.2] 89)).alloc (.cells #[.int .i64 b.1, .int .i64 b.2] 89) = W at *
  obtain ⟨p0, p1, _, _⟩ := two_facts hA
  obtain ⟨p2, p3, _, _⟩ := two_facts hB
  have HS0 := Lib.hid hS0
  clear hA hB hS0
  have q0 : Fwd W W := Fwd.refl _
  have hK : ∀ w', Fwd W w' → (w'.cell? ⟨c, 0, none⟩ = some (.pointer (some ⟨t, 0, none⟩)) ∧ w'.cell? ⟨t, 2, none⟩ = some (.func (.func 51) #[] #[]) ∧ w'.cell? ⟨w.heap.size, 0, none⟩ = some (.int .i64 a.1) ∧ w'.cell? ⟨w.heap.size, 1, none⟩ = some (.int .i64 a.2) ∧ w'.cell? ⟨w.heap.size + 1, 0, none⟩ = some (.int .i64 b.1) ∧ w'.cell? ⟨w.heap.size + 1, 1, none⟩ = some (.int .i64 b.2)) :=
    fun w' hS => ⟨hS.1.cell_eq hcc (fun h => h), hS.1.cell_eq hff (fun h => h), hS.1.cell_eq p0 (fun h => h), hS.1.cell_eq p1 (fun h => h), hS.1.cell_eq p2 (fun h => h), hS.1.cell_eq p3 (fun h => h)⟩
  have HK := Lib.hid hK
  clear hK
  go_region_held3 (fun w' => w'.cell? ⟨c, 0, none⟩ = some (.pointer (some ⟨t, 0, none⟩)) ∧ w'.cell? ⟨t, 2, none⟩ = some (.func (.func 51) #[] #[]) ∧ w'.cell? ⟨w.heap.size, 0, none⟩ = some (.int .i64 a.1) ∧ w'.cell? ⟨w.heap.size, 1, none⟩ = some (.int .i64 a.2) ∧ w'.cell? ⟨w.heap.size + 1, 0, none⟩ = some (.int .i64 b.1) ∧ w'.cell? ⟨w.heap.size + 1, 1, none⟩ = some (.int .i64 b.2))
    (first | exact HK.out _ q0 | exact HK.out _ q0.drew)
    (first | ((go_at_call 51; refine (C1.out _).mono ?_; rintro e w8 ⟨rfl, hS8⟩; have q0 := Fwd.then (by first | exact q0 | exact q0.drew) hS8; clear hS8)))
  all_goals
    cases h1 : betP a b with
    | true =>
      have hr1 : r = -1 := by rw [HR.out]; unfold cmpP; rw [if_pos h1]
      have HR1 := Lib.hid hr1
      clear hr1 h1
      go_wp2_with fail
      go_ret
      rw [HR1.out]
      exact ⟨rfl, by first | exact HS0.out.then q0 | exact HS0.out.then q0.drew⟩
    | false =>
      have H1 := Lib.hid h1
      clear h1
      clear hcc hff p0 p1 p2 p3
      go_upto_region 3 with fail
      obtain ⟨hcc, hff, p0, p1, p2, p3⟩ := HK.out _ q0
      go_region_held3 (fun w' => w'.cell? ⟨c, 0, none⟩ = some (.pointer (some ⟨t, 0, none⟩)) ∧ w'.cell? ⟨t, 2, none⟩ = some (.func (.func 51) #[] #[]) ∧ w'.cell? ⟨w.heap.size, 0, none⟩ = some (.int .i64 a.1) ∧ w'.cell? ⟨w.heap.size, 1, none⟩ = some (.int .i64 a.2) ∧ w'.cell? ⟨w.heap.size + 1, 0, none⟩ = some (.int .i64 b.1) ∧ w'.cell? ⟨w.heap.size + 1, 1, none⟩ = some (.int .i64 b.2))
        (first | exact HK.out _ q0 | exact HK.out _ q0.drew)
        (first | ((go_at_call 51; refine (C2.out _).mono ?_; rintro e w9 ⟨rfl, hS9⟩; have q0 := Fwd.then (by first | exact q0 | exact q0.drew) hS9; clear hS9)))
      all_goals
        cases h2 : betP b a with
        | true =>
          have hr1 : r = 1 := by rw [HR.out]; unfold cmpP; rw [if_neg (by rw [H1.out]; simp), if_pos h2]
          have HR1 := Lib.hid hr1
          clear hr1 h2
          go_wp2_with fail
          go_ret
          rw [HR1.out]
          exact ⟨rfl, by first | exact HS0.out.then q0 | exact HS0.out.then q0.drew⟩
        | false =>
          have hr1 : r = 0 := by rw [HR.out]; unfold cmpP; rw [if_neg (by rw [H1.out]; simp), if_neg (by rw [h2]; simp)]
          have HR1 := Lib.hid hr1
          clear hr1 h2
          go_wp2_with fail
          go_ret
          rw [HR1.out]
          exact ⟨rfl, by first | exact HS0.out.then q0 | exact HS0.out.then q0.drew⟩
end Go.Proofs.Ytjegohibpojneaa
