import Derived.Test.YtjegohibpojneaaTopFns
set_option linter.unusedVariables false
set_option linter.unusedSimpArgs false
namespace Go.Proofs.Ytjegohibpojneaa
open Go.RowKit
attribute [local go_sem ↓] Go.wp_at_zero Go.wp_at_succ

theorem tlen_any (b k : Nat) (h : List (Int × Int)) (w : World) (ht : TopAt w b k h) : Calls Try.prog 56 #[.pointer (some ⟨b, 0, none⟩)] w fun e w' => e = .returned (.int .i64 h.length) ∧ Same w w' := by
  obtain ⟨v, h1, h2⟩ := ht
  obtain ⟨a1, c1, rfl, hc1, hm1⟩ := (own_slp h2).lit
  unfold maxLen at hm1
  obtain ⟨⟨k0, k1, k2⟩, _⟩ := three_facts h1
  clear h1 h2
  go_enter Try.func56, Try.ntmps56
  go_wp2_with fail
  go_ret
  exact ⟨rfl, Only.refl _ _⟩
def worstP (k : Nat) (h : List (Int × Int)) : (Int × Int) × Bool := if h.length < k ∨ k = 0 then ((0, 0), false) else (h.getD 0 (0, 0), true)
set_option maxHeartbeats 1000000 in
theorem tworst_any (b k : Nat) (h : List (Int × Int)) (w : World) (ht : TopAt w b k h) (hk : k ≤ 9223372036854775807) : Calls Try.prog 55 #[.pointer (some ⟨b, 0, none⟩)] w fun e w' => e = .returned (.tuple #[pairV (worstP k h).1, .bool (worstP k h).2]) ∧ Same w w' := by
  obtain ⟨v, h1, h2⟩ := ht
  have H2 := Lib.hid (own_slp h2)
  obtain ⟨a1, c1, rfl, hc1, hm1⟩ := (own_slp h2).lit
  unfold maxLen at hm1
  have hA0 := blk_new w (.cells #[.int .i64 0, .int .i64 0] 89)
  have hS0 : Same w (w.alloc (.cells #[.int .i64 0, .int .i64 0] 89)) := (Only.refl _ w).alloc _
  obtain ⟨⟨k0, k1, k2⟩, _⟩ := three_facts (hS0.heap h1 (fun h => h))
  have HA0 := Lib.hid hA0; have HS0 := Lib.hid hS0
  clear h1 h2
  have hfree : ∀ W1 : World, Hid (W1.heap[w.heap.size]? = some (.cells #[.int .i64 0, .int .i64 0] 89 (0, 0))) → Hid (Same w W1) →
      Same w ((W1.setCell ⟨w.heap.size, 0, none⟩ (.int .i64 0)).setCell ⟨w.heap.size, 1, none⟩ (.int .i64 0)) := fun W1 _ h => (h.out.setCell (fun h => by have h2 : w.heap.size < w.heap.size := h; omega) _).setCell (fun h => by have h2 : w.heap.size < w.heap.size := h; omega) _
  by_cases hlt : h.length < k
  · have hw : worstP k h = ((0, 0), false) := by unfold worstP; rw [if_pos (.inl hlt)]
    rw [hw]
    have d1 : decide (h.length < k) = true := decide_eq_true hlt
    clear hA0 hS0 hlt
    go_enter Try.func55, Try.ntmps55
    go_upto_region 1 with fail
    generalize w.alloc (.cells #[.int .i64 0, .int .i64 0] 89) = W0 at *
    go_quiet (fail)
    rename_i nq
    have HS1 := Lib.hid (HS0.out.then ((Only.refl (fun _ => False) W0).drewN nq))
    have HA1 : Hid ((W0.drewN nq).heap[w.heap.size]? = some (.cells #[.int .i64 0, .int .i64 0] 89 (0, 0))) := Lib.hid HA0.out
    generalize W0.drewN nq = W1 at *
    have hB := blk_new W1 (.cells #[.int .i64 0, .int .i64 0] 89)
    have hSb : Same W1 (W1.alloc (.cells #[.int .i64 0, .int .i64 0] 89)) := (Only.refl _ W1).alloc _
    go_upto_region 3 with fail
    generalize W1.alloc (.cells #[.int .i64 0, .int .i64 0] 89) = W2 at *
    have HA2 := Lib.hid (hSb.heap HA1.out (fun h => h)); have HS2 := Lib.hid (HS1.out.then hSb)
    obtain ⟨m0, m1, _, _⟩ := two_facts hB
    obtain ⟨_, _, z0, z1⟩ := two_facts HA2.out
    go_wp2
    refine bodyPost_ret (results_ctb rfl _ _ _ _ _ _ _ rfl (blk_set (j := 1) (blk_set (j := 0) HA2.out)) Try.underlying89 rfl (by kernel_rfl)) rfl ?_
    exact ⟨rfl, hfree _ HA2 HS2⟩
  have d1 : decide (h.length < k) = false := decide_eq_false hlt
  by_cases h0 : k = 0
  · have hw : worstP k h = ((0, 0), false) := by unfold worstP; rw [if_pos (.inr h0)]
    rw [hw]
    have d2 : ((k : Int) == 0) = true := by simp [h0]
    clear hA0 hS0 hlt h0
    go_enter Try.func55, Try.ntmps55
    go_upto_region 1 with fail
    generalize w.alloc (.cells #[.int .i64 0, .int .i64 0] 89) = W0 at *
    go_quiet (fail)
    rename_i nq
    have HS1 := Lib.hid (HS0.out.then ((Only.refl (fun _ => False) W0).drewN nq))
    have HA1 : Hid ((W0.drewN nq).heap[w.heap.size]? = some (.cells #[.int .i64 0, .int .i64 0] 89 (0, 0))) := Lib.hid HA0.out
    generalize W0.drewN nq = W1 at *
    have hB := blk_new W1 (.cells #[.int .i64 0, .int .i64 0] 89)
    have hSb : Same W1 (W1.alloc (.cells #[.int .i64 0, .int .i64 0] 89)) := (Only.refl _ W1).alloc _
    go_upto_region 3 with fail
    generalize W1.alloc (.cells #[.int .i64 0, .int .i64 0] 89) = W2 at *
    have HA2 := Lib.hid (hSb.heap HA1.out (fun h => h)); have HS2 := Lib.hid (HS1.out.then hSb)
    obtain ⟨m0, m1, _, _⟩ := two_facts hB
    obtain ⟨_, _, z0, z1⟩ := two_facts HA2.out
    go_wp2
    refine bodyPost_ret (results_ctb rfl _ _ _ _ _ _ _ rfl (blk_set (j := 1) (blk_set (j := 0) HA2.out)) Try.underlying89 rfl (by kernel_rfl)) rfl ?_
    exact ⟨rfl, hfree _ HA2 HS2⟩
  · have hw : worstP k h = (h.getD 0 (0, 0), true) := by unfold worstP; rw [if_neg (by omega)]
    have hin : 0 < h.length := by omega
    have hg : h.getD 0 (0, 0) = h[0] := by rw [List.getD_eq_getElem?_getD, List.getElem?_eq_getElem hin]; rfl
    rw [hw, hg]
    have d2 : ((k : Int) == 0) = false := by simpa using h0
    obtain ⟨bb, off, rfl, hcell⟩ := H2.out.spot hin
    have e0 := hS0.cell_eq (hcell 0 hin).1 (fun h => h)
    have e1 := hS0.cell_eq (hcell 0 hin).2 (fun h => h)
    simp only [Nat.zero_mul, Nat.add_zero] at e0 e1
    generalize h[0] = p at *
    clear hcell hA0 hS0 hlt h0 hw hg
    go_enter Try.func55, Try.ntmps55
    go_upto_region 1 with fail
    generalize w.alloc (.cells #[.int .i64 0, .int .i64 0] 89) = W0 at *
    go_quiet (fail)
    rename_i nq
    have HS1 := Lib.hid (HS0.out.then ((Only.refl (fun _ => False) W0).drewN nq))
    have HA1 : Hid ((W0.drewN nq).heap[w.heap.size]? = some (.cells #[.int .i64 0, .int .i64 0] 89 (0, 0))) := Lib.hid HA0.out
    have k0 : (W0.drewN nq).cell? ⟨b, 0, none⟩ = _ := k0
    have k1 : (W0.drewN nq).cell? ⟨b, 1, none⟩ = _ := k1
    have e0 : (W0.drewN nq).cell? ⟨bb, off, none⟩ = _ := e0
    have e1 : (W0.drewN nq).cell? ⟨bb, off + 1, none⟩ = _ := e1
    generalize W0.drewN nq = W1 at *
    obtain ⟨_, _, z0, z1⟩ := two_facts HA1.out
    go_wp2
    refine bodyPost_ret (results_ctb rfl _ _ _ _ _ _ _ rfl (blk_set (j := 1) (blk_set (j := 0) HA1.out)) Try.underlying89 rfl (by kernel_rfl)) rfl ?_
    exact ⟨rfl, (HS1.out.setCell (fun h => by have h2 : w.heap.size < w.heap.size := h; omega) _).setCell (fun h => by have h2 : w.heap.size < w.heap.size := h; omega) _⟩
set_option maxRecDepth 100000 in
set_option maxHeartbeats 1000000 in
theorem rsame04_any (v1 v2 : Value) (l1 l2 : List (Int × Int)) (w : World) (h1 : SlP w v1 l1) (h2 : SlP w v2 l2) : Calls Try.prog 57 #[v1, v2] w fun e w' => e = .returned (.bool (decide (l1 = l2))) ∧ Same w w' := by
  have HV1 := Lib.hid h1; have HV2 := Lib.hid h2
  obtain ⟨a1, m1, rfl, hc1, hm1⟩ := h1.lit
  obtain ⟨a2, m2, rfl, hc2, hm2⟩ := h2.lit
  unfold maxLen at hm1 hm2
  obtain ⟨r, hr⟩ : ∃ r, r = decide (l1 = l2) := ⟨_, rfl⟩
  rw [← hr]
  have HR := Lib.hid hr
  clear hr h1 h2
  by_cases g4 : l1.length = l2.length
  rotate_left
  · have hb : ((l1.length : Int) != (l2.length : Int)) = true := by simp; omega
    have : r = false := by rw [HR.out]; exact decide_eq_false (fun h => g4 (by rw [h]))
    subst this
    clear g4
    go_enter Try.func57, Try.ntmps57
    go_wp2_with fail
    go_ret
    exact ⟨rfl, Only.refl _ _⟩
  have hb4 : ((l1.length : Int) != (l2.length : Int)) = false := by simp; omega
  have HL := Lib.hid g4
  clear g4
  go_enter Try.func57, Try.ntmps57
  go_wp2_with fail
  clear hb4
  go_loopw [5] (fun i wr => ∃ k : Nat, k ≤ l1.length ∧ i = .int .i64 k ∧ Same w wr ∧ l1.take k = l2.take k) (fun i _ => l1.length - (intOf i).toNat)
  case atStart => exact ⟨0, by omega, rfl, Only.refl _ _, rfl⟩
  case round =>
    obtain ⟨k, hk, rfl, hS, ht⟩ := hrel
    have HT := Lib.hid ht
    clear ht
    by_cases hlt : k < l1.length
    · have hlt2 : k < l2.length := by have := HL.out; omega
      obtain ⟨b1, o1, rfl, hc1'⟩ := HV1.out.spot (by omega)
      obtain ⟨b2, o2, rfl, hc2'⟩ := HV2.out.spot (by omega)
      have k1 := hS.cell_eq (hc1' k hlt).1 (fun h => h)
      have k2 := hS.cell_eq (hc2' k hlt2).1 (fun h => h)
      have k3 := hS.cell_eq (hc1' k hlt).2 (fun h => h)
      have k4 := hS.cell_eq (hc2' k hlt2).2 (fun h => h)
      clear hc1' hc2'
      by_cases heq : l1[k] = l2[k]
      · have HQ2 := Lib.hid heq
        clear heq
        generalize hx : l1[k] = x at *
        generalize hy : l2[k] = y at *
        obtain ⟨x1, x2⟩ := x
        obtain ⟨y1, y2⟩ := y
        have hb1 : (x1 == y1) = true := by have := HQ2.out; simp at this; simp [this]
        have hb2 : (x2 == y2) = true := by have := HQ2.out; simp at this; simp [this]
        have HXX := Lib.hid hx; have HYY := Lib.hid hy
        clear hx hy
        go_wp2_with fail
        go_quiet (fail)
        rename_i nq
        go_wp2
        refine ⟨⟨k + 1, by omega, by go_num, hS.drewN nq, ?_⟩, by simp [intOf]; omega⟩
        rw [← List.take_append_getElem hlt, ← List.take_append_getElem hlt2, HT.out, HXX.out, HYY.out, HQ2.out]
      · have hne : decide (l1 = l2) = false := decide_eq_false (by intro h; exact heq (by simp only [h]))
        have HN := Lib.hid hne
        have HQ2 := Lib.hid heq
        clear heq hne
        generalize hx : l1[k] = x at *
        generalize hy : l2[k] = y at *
        clear hx hy
        obtain ⟨x1, x2⟩ := x
        obtain ⟨y1, y2⟩ := y
        by_cases h1 : x1 = y1
        · have hb1 : (x1 == y1) = true := by simpa using h1
          have hb2 : (x2 == y2) = false := by have := HQ2.out; simp at this; simp [this h1]
          go_wp2_with fail
          go_quiet (fail)
          rename_i nq
          go_wp2
          go_ret
          rw [HR.out, HN.out]
          exact ⟨rfl, hS.drewN nq⟩
        · have hb1 : (x1 == y1) = false := by simpa using h1
          clear h1
          go_wp2_with fail
          go_quiet (fail)
          rename_i nq
          go_wp2
          go_ret
          rw [HR.out, HN.out]
          exact ⟨rfl, hS.drewN nq⟩
    · obtain rfl : k = l1.length := by omega
      have hq : decide (l1 = l2) = true := decide_eq_true (by have := HT.out; have h2 := HL.out; rw [List.take_length, h2, List.take_length] at this; exact this)
      have HN := Lib.hid hq
      clear hq
      go_wp2
      go_ret
      rw [HR.out, HN.out]
      exact ⟨rfl, hS⟩
end Go.Proofs.Ytjegohibpojneaa
