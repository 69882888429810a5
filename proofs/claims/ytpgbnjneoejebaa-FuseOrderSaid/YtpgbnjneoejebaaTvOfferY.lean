import Derived.Test.YtpgbnjneoejebaaTvOfferN
import Derived.Test.YtpgbnjneoejebaaTvDown
set_option linter.unusedVariables false
set_option linter.unusedSimpArgs false
namespace Go.Proofs.Ytpgbnjneoejebaa
open Go.RowKit
attribute [local go_sem ↓] Go.wp_at_zero Go.wp_at_succ

set_option maxRecDepth 100000 in
set_option maxHeartbeats 4000000 in
/-- Offer to a full bound: one that is better than the worst. -/
theorem tvoffer_yes (b k : Nat) (h : List VP) (x : VP) (w : World) (ht : TvAt w b k h) (hk : 0 < k) (hl : h.length = k) (hkm : k ≤ 1000000) (hh : HeapG h) (hb : Bet.bet x (hpG h 0) = true) :
    Calls Try.prog 66 #[.pointer (some ⟨b, 0, none⟩), vpV x] w fun e w' => e = .returned (.bool true) ∧ ∃ g cap h', TvG w b k g cap h ∧ Only (· = g) w w' ∧ h'.Perm (h.set 0 x) ∧ HeapG h' ∧ TvG w' b k g cap h' := by
  have hS0 : Same w (w.alloc (.cells (vblk x) 35)) := (Only.refl _ w).alloc _
  have hA := blk_new w (.cells (vblk x) 35)
  obtain ⟨g, cap, hT⟩ := ht.g (by omega)
  have HT := Lib.hid hT; have HH := Lib.hid hh
  obtain ⟨h1, hbg, hrow⟩ := hT
  obtain ⟨⟨k0, k1, k2⟩, _⟩ := three_facts (hS0.heap h1 (fun h => h))
  obtain ⟨c0, c1, c2⟩ := hrow.cell 0 (by omega)
  replace c0 := hS0.cell_eq c0 (fun h => h)
  replace c1 := hS0.cell_eq c1 (fun h => h)
  replace c2 := hS0.cell_eq c2 (fun h => h)
  simp only [Nat.zero_mul, Nat.zero_add] at c0 c1 c2
  obtain ⟨⟨p0, p1, p2⟩, _⟩ := three_facts hA
  have cb := fun w0 => vbetter_any x (hpG h 0) w0
  rw [hb] at cb
  generalize hpG h 0 = y at *
  have HL := Lib.hid hl
  rw [hl] at k1
  unfold vpV at cb ⊢
  have CB := Lib.hid cb
  have hk0 : ((k : Int) == 0) = false := by simp; omega
  have hk1 : ¬ k = 0 := by omega
  clear h1 hrow hA cb ht hb hh hl
  go_enter Try.func66, Try.ntmps66
  go_upto_region 1 with fail
  generalize w.alloc (.cells (vblk x) 35) = W at *
  go_quiet (fail)
  rename_i nq
  have k0 : (W.drewN nq).cell? ⟨b, 0, none⟩ = _ := k0
  have k1 : (W.drewN nq).cell? ⟨b, 1, none⟩ = _ := k1
  have k2 : (W.drewN nq).cell? ⟨b, 2, none⟩ = _ := k2
  have c0 : (W.drewN nq).cell? ⟨g, 0, none⟩ = _ := c0
  have c1 : (W.drewN nq).cell? ⟨g, 1, none⟩ = _ := c1
  have c2 : (W.drewN nq).cell? ⟨g, 2, none⟩ = _ := c2
  have p0 : (W.drewN nq).cell? ⟨w.heap.size, 0, none⟩ = _ := p0
  have p1 : (W.drewN nq).cell? ⟨w.heap.size, 1, none⟩ = _ := p1
  have p2 : (W.drewN nq).cell? ⟨w.heap.size, 2, none⟩ = _ := p2
  have HS1 : Hid (Same w (W.drewN nq)) := Lib.hid (hS0.drewN nq)
  clear hS0
  generalize W.drewN nq = W1 at *
  go_upto_region 5 with fail
  have q0 : Same W1 W1 := Only.refl _ _
  have hK : ∀ w', Same W1 w' → (w'.cell? ⟨b, 0, none⟩ = some (.int .i64 k) ∧ w'.cell? ⟨b, 1, none⟩ = some (.slice (some ⟨g, 0, none⟩) k cap) ∧ w'.cell? ⟨b, 2, none⟩ = some (.func (.func 14) #[] #[]) ∧ w'.cell? ⟨g, 0, none⟩ = some (.int .i64 y.1) ∧ w'.cell? ⟨g, 1, none⟩ = some (.int .i64 (vb y)) ∧ w'.cell? ⟨g, 2, none⟩ = some (.int .i64 (vc y)) ∧ w'.cell? ⟨w.heap.size, 0, none⟩ = some (.int .i64 x.1) ∧ w'.cell? ⟨w.heap.size, 1, none⟩ = some (.int .i64 (vb x)) ∧ w'.cell? ⟨w.heap.size, 2, none⟩ = some (.int .i64 (vc x))) :=
    fun w' hS => ⟨hS.cell_eq k0 (fun h => h), hS.cell_eq k1 (fun h => h), hS.cell_eq k2 (fun h => h), hS.cell_eq c0 (fun h => h), hS.cell_eq c1 (fun h => h), hS.cell_eq c2 (fun h => h), hS.cell_eq p0 (fun h => h), hS.cell_eq p1 (fun h => h), hS.cell_eq p2 (fun h => h)⟩
  have HK := Lib.hid hK
  clear hK
  go_region_held3 (fun w' => w'.cell? ⟨b, 0, none⟩ = some (.int .i64 k) ∧ w'.cell? ⟨b, 1, none⟩ = some (.slice (some ⟨g, 0, none⟩) k cap) ∧ w'.cell? ⟨b, 2, none⟩ = some (.func (.func 14) #[] #[]) ∧ w'.cell? ⟨g, 0, none⟩ = some (.int .i64 y.1) ∧ w'.cell? ⟨g, 1, none⟩ = some (.int .i64 (vb y)) ∧ w'.cell? ⟨g, 2, none⟩ = some (.int .i64 (vc y)) ∧ w'.cell? ⟨w.heap.size, 0, none⟩ = some (.int .i64 x.1) ∧ w'.cell? ⟨w.heap.size, 1, none⟩ = some (.int .i64 (vb x)) ∧ w'.cell? ⟨w.heap.size, 2, none⟩ = some (.int .i64 (vc x)))
    (first | exact HK.out _ q0 | exact HK.out _ q0.drew)
    (first | ((go_at_call 14; refine (CB.out _).mono ?_; rintro e w8 ⟨rfl, hS8⟩; have q0 := Only.then (by first | exact q0 | exact q0.drew) hS8; clear hS8)))
  all_goals
    have hT8 := HT.out.same (HS1.out.then q0)
    obtain ⟨z1, z2, z3, z4, z5, z6, z7, z8, z9⟩ := HK.out _ q0
    obtain ⟨cs, hcs, hcr⟩ := hT8.2.2
    have f0 := blk_frozen hcs 0
    have f1 := blk_frozen hcs 1
    have f2 := blk_frozen hcs 2
    have HT8 := Lib.hid hT8
    have HS8 := Lib.hid (HS1.out.then q0)
    clear hT8 hcs hcr k0 k1 k2 c0 c1 c2 p0 p1 p2 HK CB q0 HS1
    go_upto_region 7 with fail
    go_region
    all_goals
      have hq8 : Only (· = g) w8 ((((w8.setCell ⟨g, 0, none⟩ (.int .i64 x.1)).setCell ⟨g, 1, none⟩ (.int .i64 (vb x))).setCell ⟨g, 2, none⟩ (.int .i64 (vc x))).drew) := ((((Only.refl (· = g) w8).setCell (fun _ => rfl) _).setCell (fun _ => rfl) _).setCell (fun _ => rfl) _).drew
      have hr8 := HT8.out.2.2.set 0 x (by have := HL.out; omega)
      simp only [Nat.zero_mul, Nat.zero_add] at hr8
      have hb8 := hq8.heap HT8.out.1 (fun h => by have h2 : b = g := h; omega)
      have hT9 := tvG_drew (by rw [List.length_set]; exact hb8) hbg hr8
      have HT9 := Lib.hid hT9
      have HO9 := Lib.hid (((Only.refl (· = g) w).then HS8.out).same hq8)
      generalize (((w8.setCell ⟨g, 0, none⟩ (.int .i64 x.1)).setCell ⟨g, 1, none⟩ (.int .i64 (vb x))).setCell ⟨g, 2, none⟩ (.int .i64 (vc x))).drew = W9 at *
      clear hq8 hr8 hb8 hT9 z1 z2 z3 z4 z5 z6 z7 z8 z9 f0 f1 f2 HT8 HS8
      go_wp2_with fail
      refine (tvdown_any b k g cap (h.set 0 x) _ HT9.out (by have := HL.out; simp; omega) (by have := HL.out; simp; omega) (gdown_init h x HH.out (by have := HL.out; omega))).mono ?_
      rintro e w10 ⟨rfl, hO10, h', hpG', hh', hT'⟩
      go_wp2_with fail
      go_ret
      exact ⟨rfl, g, cap, h', HT.out, HO9.out.same hO10, hpG', hh', hT'⟩
end Go.Proofs.Ytpgbnjneoejebaa
