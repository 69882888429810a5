import Derived.Test.YtpgbnjneoejebaaTvList
set_option linter.unusedVariables false
set_option linter.unusedSimpArgs false
namespace Go.Proofs.Ytpgbnjneoejebaa
open Go.RowKit
attribute [local go_sem ↓] Go.wp_at_zero Go.wp_at_succ

set_option maxRecDepth 100000 in
set_option maxHeartbeats 4000000 in
/-- Offer, a bound of none. -/
theorem tvoffer_zero (b : Nat) (h : List VP) (x : VP) (w : World) (ht : TvAt w b 0 h) (hl : h.length = 0) :
    Calls Try.prog 66 #[.pointer (some ⟨b, 0, none⟩), vpV x] w fun e w' => e = .returned (.bool false) ∧ Same w w' := by
  have hS0 : Same w (w.alloc (.cells (vblk x) 35)) := (Only.refl _ w).alloc _
  obtain ⟨v, h1, h2⟩ := ht
  obtain ⟨a1, c1, rfl, hc1, hm1⟩ := (own_slv h2).lit
  obtain ⟨⟨k0, k1, k2⟩, _⟩ := three_facts (hS0.heap h1 (fun h => h))
  unfold vpV
  rw [hl] at k1
  clear h1 h2 hc1
  go_enter Try.func66, Try.ntmps66
  go_upto_region 1 with fail
  generalize w.alloc (.cells (vblk x) 35) = W at *
  go_quiet (fail)
  rename_i nq
  have k0 : (W.drewN nq).cell? ⟨b, 0, none⟩ = _ := k0
  have hS1 : Same w (W.drewN nq) := hS0.drewN nq
  generalize W.drewN nq = W1 at *
  go_upto_region 5 with fail
  go_quiet (fail)
  go_wp2_with fail
  go_ret
  exact ⟨rfl, hS1.drewN _⟩
set_option maxRecDepth 100000 in
set_option maxHeartbeats 4000000 in
/-- Offer to a full bound: one that isn't better than the worst. -/
theorem tvoffer_no (b k : Nat) (h : List VP) (x : VP) (w : World) (ht : TvAt w b k h) (hk : 0 < k) (hl : h.length = k) (hkm : k ≤ 1000000) (hb : Bet.bet x (hpG h 0) = false) :
    Calls Try.prog 66 #[.pointer (some ⟨b, 0, none⟩), vpV x] w fun e w' => e = .returned (.bool false) ∧ Same w w' := by
  have hS0 : Same w (w.alloc (.cells (vblk x) 35)) := (Only.refl _ w).alloc _
  have hA := blk_new w (.cells (vblk x) 35)
  obtain ⟨g, cap, hT⟩ := ht.g (by omega)
  obtain ⟨h1, hbg, hrow⟩ := hT
  obtain ⟨⟨k0, k1, k2⟩, _⟩ := three_facts (hS0.heap h1 (fun h => h))
  obtain ⟨c0, c1, c2⟩ := hrow.cell 0 (by omega)
  replace c0 := hS0.cell_eq c0 (fun h => h)
  replace c1 := hS0.cell_eq c1 (fun h => h)
  replace c2 := hS0.cell_eq c2 (fun h => h)
  simp only [Nat.zero_mul, Nat.zero_add] at c0 c1 c2
  obtain ⟨⟨p0, p1, p2⟩, _⟩ := three_facts hA
  have cb := fun w0 => vbetter_any x (hpG h 0) w0
  rw [hb] at cb
  generalize hpG h 0 = y at *
  rw [hl] at k1
  unfold vpV at cb ⊢
  have CB := Lib.hid cb
  have hk0 : ((k : Int) == 0) = false := by simp; omega
  have hk1 : ¬ k = 0 := by omega
  clear h1 hrow hA cb ht hb
  go_enter Try.func66, Try.ntmps66
  go_upto_region 1 with fail
  generalize w.alloc (.cells (vblk x) 35) = W at *
  go_quiet (fail)
  rename_i nq
  have k0 : (W.drewN nq).cell? ⟨b, 0, none⟩ = _ := k0
  have k1 : (W.drewN nq).cell? ⟨b, 1, none⟩ = _ := k1
  have k2 : (W.drewN nq).cell? ⟨b, 2, none⟩ = _ := k2
  have c0 : (W.drewN nq).cell? ⟨g, 0, none⟩ = _ := c0
  have c1 : (W.drewN nq).cell? ⟨g, 1, none⟩ = _ := c1
  have c2 : (W.drewN nq).cell? ⟨g, 2, none⟩ = _ := c2
  have p0 : (W.drewN nq).cell? ⟨w.heap.size, 0, none⟩ = _ := p0
  have p1 : (W.drewN nq).cell? ⟨w.heap.size, 1, none⟩ = _ := p1
  have p2 : (W.drewN nq).cell? ⟨w.heap.size, 2, none⟩ = _ := p2
  have HS1 : Hid (Same w (W.drewN nq)) := Lib.hid (hS0.drewN nq)
  clear hS0
  generalize W.drewN nq = W1 at *
  go_upto_region 5 with fail
  have q0 : Same W1 W1 := Only.refl _ _
  have hK : ∀ w', Same W1 w' → (w'.cell? ⟨b, 0, none⟩ = some (.int .i64 k) ∧ w'.cell? ⟨b, 1, none⟩ = some (.slice (some ⟨g, 0, none⟩) k cap) ∧ w'.cell? ⟨b, 2, none⟩ = some (.func (.func 14) #[] #[]) ∧ w'.cell? ⟨g, 0, none⟩ = some (.int .i64 y.1) ∧ w'.cell? ⟨g, 1, none⟩ = some (.int .i64 (vb y)) ∧ w'.cell? ⟨g, 2, none⟩ = some (.int .i64 (vc y)) ∧ w'.cell? ⟨w.heap.size, 0, none⟩ = some (.int .i64 x.1) ∧ w'.cell? ⟨w.heap.size, 1, none⟩ = some (.int .i64 (vb x)) ∧ w'.cell? ⟨w.heap.size, 2, none⟩ = some (.int .i64 (vc x))) :=
    fun w' hS => ⟨hS.cell_eq k0 (fun h => h), hS.cell_eq k1 (fun h => h), hS.cell_eq k2 (fun h => h), hS.cell_eq c0 (fun h => h), hS.cell_eq c1 (fun h => h), hS.cell_eq c2 (fun h => h), hS.cell_eq p0 (fun h => h), hS.cell_eq p1 (fun h => h), hS.cell_eq p2 (fun h => h)⟩
  have HK := Lib.hid hK
  clear hK
  go_region_held3 (fun w' => w'.cell? ⟨b, 0, none⟩ = some (.int .i64 k) ∧ w'.cell? ⟨b, 1, none⟩ = some (.slice (some ⟨g, 0, none⟩) k cap) ∧ w'.cell? ⟨b, 2, none⟩ = some (.func (.func 14) #[] #[]) ∧ w'.cell? ⟨g, 0, none⟩ = some (.int .i64 y.1) ∧ w'.cell? ⟨g, 1, none⟩ = some (.int .i64 (vb y)) ∧ w'.cell? ⟨g, 2, none⟩ = some (.int .i64 (vc y)) ∧ w'.cell? ⟨w.heap.size, 0, none⟩ = some (.int .i64 x.1) ∧ w'.cell? ⟨w.heap.size, 1, none⟩ = some (.int .i64 (vb x)) ∧ w'.cell? ⟨w.heap.size, 2, none⟩ = some (.int .i64 (vc x)))
    (first | exact HK.out _ q0 | exact HK.out _ q0.drew)
    (first | ((go_at_call 14; refine (CB.out _).mono ?_; rintro e w8 ⟨rfl, hS8⟩; have q0 := Only.then (by first | exact q0 | exact q0.drew) hS8; clear hS8)))
  all_goals
    go_wp2_with fail
    go_ret
    exact ⟨rfl, by first | exact HS1.out.then q0 | exact HS1.out.then q0.drew⟩
end Go.Proofs.Ytpgbnjneoejebaa
