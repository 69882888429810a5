import Derived.Test.YtpgbnjneoejebaaTvList
import Derived.Test.YtpgbnjneoejebaaRatFwd
set_option linter.unusedVariables false
set_option linter.unusedSimpArgs false
namespace Go.Proofs.Ytpgbnjneoejebaa
open Go.RowKit
attribute [local go_sem ↓] Go.wp_at_zero Go.wp_at_succ

theorem cmpQ_eq (p q : Rat) : (p.num * q.den - q.num * p.den).sign = cmpQ p q := by
  unfold cmpQ
  rcases q_tri p q with h | h | h
  · rw [if_pos h]
    rw [Rat.lt_iff] at h
    exact Int.sign_eq_neg_one_of_neg (by omega)
  · rw [if_neg (by rw [h]; exact Rat.lt_irrefl), if_pos h, h, Int.sub_self]; rfl
  · rw [if_neg (fun h2 => Rat.lt_irrefl (q_lt_trans h h2)), if_neg (fun h2 => by rw [h2] at h; exact Rat.lt_irrefl h)]
    rw [Rat.lt_iff] at h
    exact Int.sign_eq_one_of_pos (by omega)
theorem compareQ_fwd (p q : Rat) (w : World) (hp : QIn p) (hq : QIn q) : Calls Try.prog 38 #[ratQ p, ratQ q] w fun e w' => e = .returned (.int .i64 (cmpQ p q)) ∧ Fwd w w' := by
  have h := rcompare_fwd p.num q.num p.den q.den w hp.1 hp.2 hq.1 hq.2 (q_ok p) (q_ok q)
  rw [cmpQ_eq] at h
  exact h.mono fun _ _ ⟨h1, h2⟩ => ⟨h1, h2.fwd⟩
theorem vbetter_fwd (a b : VP) (w : World) : Calls Try.prog 14 #[vpV a, vpV b] w fun e w' => e = .returned (.bool (Bet.bet a b)) ∧ Fwd w w' := by
  have hbp : Bet.bet a b = (decide (b.2.1 < a.2.1) || (decide (a.2.1 = b.2.1) && decide (a.1 < b.1))) := rfl
  rw [hbp]
  obtain ⟨r, hr0⟩ : ∃ r, r = (decide (b.2.1 < a.2.1) || (decide (a.2.1 = b.2.1) && decide (a.1 < b.1))) := ⟨_, rfl⟩
  rw [← hr0]
  have HR := Lib.hid hr0
  clear hr0
  have cc := fun w0 => compareQ_fwd a.2.1 b.2.1 w0 a.2.2 b.2.2
  unfold ratQ rat at cc
  have hS : Fwd w ((w.alloc (.cells (vblk a) 35)).alloc (.cells (vblk b) 35)) := ((Fwd.refl w).alloc _).alloc _
  have hA := blk_old (.cells (vblk b) 35) (blk_new w (.cells (vblk a) 35))
  have hB := blk_new1 w (.cells (vblk a) 35) (.cells (vblk b) 35)
  change ∀ w0, Calls Try.prog 38 #[.agg #[.int .i64 (vb a), .int .i64 (vc a)], .agg #[.int .i64 (vb b), .int .i64 (vc b)]] w0 _ at cc
  have CC := Lib.hid cc
  unfold vpV
  clear cc hbp
  go_enter Try.func14, Try.ntmps14
  go_upto_region 1 with fail
  generalize (w.alloc (.cells (vblk a) 35)).alloc (.cells (vblk b) 35) = W at *
  obtain ⟨⟨p0, p1, p2⟩, _⟩ := three_facts hA
  obtain ⟨⟨q0, q1, q2⟩, _⟩ := three_facts hB
  clear hA hB
  go_upto_region 2 with (go_at_call 38; refine (CC.out _).mono ?_; rintro e w2 ⟨rfl, hS2⟩)
  have p0 := hS2.1.cell_eq p0 (fun h => h)
  have q0 := hS2.1.cell_eq q0 (fun h => h)
  have HS := Lib.hid (hS.then hS2)
  clear p1 p2 q1 q2 hS hS2 CC
  have hq : cmpQ a.2.1 b.2.1 = -1 ∧ a.2.1 < b.2.1 ∨ cmpQ a.2.1 b.2.1 = 0 ∧ a.2.1 = b.2.1 ∨ cmpQ a.2.1 b.2.1 = 1 ∧ b.2.1 < a.2.1 := by
    unfold cmpQ
    rcases q_tri a.2.1 b.2.1 with h | h | h
    · rw [if_pos h]; exact .inl ⟨rfl, h⟩
    · rw [if_neg (by rw [h]; exact Rat.lt_irrefl), if_pos h]; exact .inr (.inl ⟨rfl, h⟩)
    · rw [if_neg (fun h2 => Rat.lt_irrefl (q_lt_trans h h2)), if_neg (fun h2 => by rw [h2] at h; exact Rat.lt_irrefl h)]; exact .inr (.inr ⟨rfl, h⟩)
  rcases hq with ⟨hq, hr⟩ | ⟨hq, hr⟩ | ⟨hq, hr⟩
  · have HRR : Hid (r = false) := Lib.hid (by rw [HR.out, decide_eq_false (fun h2 => Rat.lt_irrefl (q_lt_trans hr h2)), decide_eq_false (p := a.2.1 = b.2.1) (fun h2 => by rw [h2] at hr; exact Rat.lt_irrefl hr)]; rfl)
    rw [hq]
    clear hq hr HR
    go_wp2_with fail
    go_ret
    exact ⟨by rw [HRR.out]; rfl, HS.out⟩
  · have HRR : Hid (r = decide (a.1 < b.1)) := Lib.hid (by rw [HR.out, decide_eq_false (by rw [hr]; exact Rat.lt_irrefl), decide_eq_true hr]; rfl)
    rw [hq]
    clear hq hr HR
    go_wp2_with fail
    go_ret
    exact ⟨by rw [HRR.out]; rfl, HS.out⟩
  · have HRR : Hid (r = true) := Lib.hid (by rw [HR.out, decide_eq_true hr]; rfl)
    rw [hq]
    clear hq hr HR
    go_wp2_with fail
    go_ret
    exact ⟨by rw [HRR.out]; rfl, HS.out⟩
set_option maxRecDepth 100000 in
set_option maxHeartbeats 4000000 in
theorem vorder_fwd (a b : VP) (c t : Nat) (w : World) (hc : w.cell? ⟨c, 0, none⟩ = some (.pointer (some ⟨t, 0, none⟩))) (hf : w.cell? ⟨t, 2, none⟩ = some (.func (.func 14) #[] #[])) :
    Calls Try.prog 95 #[vpV a, vpV b, .pointer (some ⟨c, 0, none⟩)] w fun e w' => e = .returned (.int .i64 (cmpV a b)) ∧ Fwd w w' := by
  have hS0 : Fwd w ((w.alloc (.cells (vblk a) 35)).alloc (.cells (vblk b) 35)) := ((Fwd.refl w).alloc _).alloc _
  have hA := blk_old (.cells (vblk b) 35) (blk_new w (.cells (vblk a) 35))
  have hB := blk_new1 w (.cells (vblk a) 35) (.cells (vblk b) 35)
  obtain ⟨r, hr⟩ : ∃ r, r = cmpV a b := ⟨_, rfl⟩
  rw [← hr]
  have HR := Lib.hid hr
  have c1 := fun w0 => vbetter_fwd a b w0
  have c2 := fun w0 => vbetter_fwd b a w0
  have hcc := hS0.1.cell_eq hc (fun h => h)
  have hff := hS0.1.cell_eq hf (fun h => h)
  unfold vpV at c1 c2 ⊢
  have C1 := Lib.hid c1; have C2 := Lib.hid c2
  clear hr c1 c2 hc hf
  go_enter Try.func95, Try.ntmps95
  go_upto_region 1 with fail
  generalize (w.alloc (.cells (vblk a) 35)).alloc (.cells (vblk b) 35) = W at *
  obtain ⟨⟨p0, p1, p2⟩, _⟩ := three_facts hA
  obtain ⟨⟨e0, e1, e2⟩, _⟩ := three_facts hB
  have HS0 := Lib.hid hS0
  clear hA hB hS0
  have q0 : Fwd W W := Fwd.refl _
  have hK : ∀ w', Fwd W w' → (w'.cell? ⟨c, 0, none⟩ = some (.pointer (some ⟨t, 0, none⟩)) ∧ w'.cell? ⟨t, 2, none⟩ = some (.func (.func 14) #[] #[]) ∧ w'.cell? ⟨w.heap.size, 0, none⟩ = some (.int .i64 a.1) ∧ w'.cell? ⟨w.heap.size, 1, none⟩ = some (.int .i64 (vb a)) ∧ w'.cell? ⟨w.heap.size, 2, none⟩ = some (.int .i64 (vc a)) ∧ w'.cell? ⟨w.heap.size + 1, 0, none⟩ = some (.int .i64 b.1) ∧ w'.cell? ⟨w.heap.size + 1, 1, none⟩ = some (.int .i64 (vb b)) ∧ w'.cell? ⟨w.heap.size + 1, 2, none⟩ = some (.int .i64 (vc b))) :=
    fun w' hS => ⟨hS.1.cell_eq hcc (fun h => h), hS.1.cell_eq hff (fun h => h), hS.1.cell_eq p0 (fun h => h), hS.1.cell_eq p1 (fun h => h), hS.1.cell_eq p2 (fun h => h), hS.1.cell_eq e0 (fun h => h), hS.1.cell_eq e1 (fun h => h), hS.1.cell_eq e2 (fun h => h)⟩
  have HK := Lib.hid hK
  clear hK
  go_region_held3 (fun w' => w'.cell? ⟨c, 0, none⟩ = some (.pointer (some ⟨t, 0, none⟩)) ∧ w'.cell? ⟨t, 2, none⟩ = some (.func (.func 14) #[] #[]) ∧ w'.cell? ⟨w.heap.size, 0, none⟩ = some (.int .i64 a.1) ∧ w'.cell? ⟨w.heap.size, 1, none⟩ = some (.int .i64 (vb a)) ∧ w'.cell? ⟨w.heap.size, 2, none⟩ = some (.int .i64 (vc a)) ∧ w'.cell? ⟨w.heap.size + 1, 0, none⟩ = some (.int .i64 b.1) ∧ w'.cell? ⟨w.heap.size + 1, 1, none⟩ = some (.int .i64 (vb b)) ∧ w'.cell? ⟨w.heap.size + 1, 2, none⟩ = some (.int .i64 (vc b)))
    (first | exact HK.out _ q0 | exact HK.out _ q0.drew)
    (first | ((go_at_call 14; refine (C1.out _).mono ?_; rintro e w8 ⟨rfl, hS8⟩; have q0 := Fwd.then (by first | exact q0 | exact q0.drew) hS8; clear hS8)))
  all_goals
    cases h1 : Bet.bet a b with
    | true =>
      have hr1 : r = -1 := by rw [HR.out]; unfold cmpV; rw [if_pos h1]
      have HR1 := Lib.hid hr1
      clear hr1 h1
      go_wp2_with fail
      go_ret
      rw [HR1.out]
      exact ⟨rfl, by first | exact HS0.out.then q0 | exact HS0.out.then q0.drew⟩
    | false =>
      have H1 := Lib.hid h1
      clear h1
      clear hcc hff p0 p1 p2 e0 e1 e2
      go_upto_region 3 with fail
      obtain ⟨hcc, hff, p0, p1, p2, e0, e1, e2⟩ := HK.out _ q0
      go_region_held3 (fun w' => w'.cell? ⟨c, 0, none⟩ = some (.pointer (some ⟨t, 0, none⟩)) ∧ w'.cell? ⟨t, 2, none⟩ = some (.func (.func 14) #[] #[]) ∧ w'.cell? ⟨w.heap.size, 0, none⟩ = some (.int .i64 a.1) ∧ w'.cell? ⟨w.heap.size, 1, none⟩ = some (.int .i64 (vb a)) ∧ w'.cell? ⟨w.heap.size, 2, none⟩ = some (.int .i64 (vc a)) ∧ w'.cell? ⟨w.heap.size + 1, 0, none⟩ = some (.int .i64 b.1) ∧ w'.cell? ⟨w.heap.size + 1, 1, none⟩ = some (.int .i64 (vb b)) ∧ w'.cell? ⟨w.heap.size + 1, 2, none⟩ = some (.int .i64 (vc b)))
        (first | exact HK.out _ q0 | exact HK.out _ q0.drew)
        (first | ((go_at_call 14; refine (C2.out _).mono ?_; rintro e w9 ⟨rfl, hS9⟩; have q0 := Fwd.then (by first | exact q0 | exact q0.drew) hS9; clear hS9)))
      all_goals
        cases h2 : Bet.bet b a with
        | true =>
          have hr1 : r = 1 := by rw [HR.out]; unfold cmpV; rw [if_neg (by rw [H1.out]; simp), if_pos h2]
          have HR1 := Lib.hid hr1
          clear hr1 h2
          go_wp2_with fail
          go_ret
          rw [HR1.out]
          exact ⟨rfl, by first | exact HS0.out.then q0 | exact HS0.out.then q0.drew⟩
        | false =>
          have hr1 : r = 0 := by rw [HR.out]; unfold cmpV; rw [if_neg (by rw [H1.out]; simp), if_neg (by rw [h2]; simp)]
          have HR1 := Lib.hid hr1
          clear hr1 h2
          go_wp2_with fail
          go_ret
          rw [HR1.out]
          exact ⟨rfl, by first | exact HS0.out.then q0 | exact HS0.out.then q0.drew⟩
end Go.Proofs.Ytpgbnjneoejebaa
