import Derived.Test.YtpgbnjneoejebaaTvUp
import Derived.Test.YtpgbnjneoejebaaFacts
set_option linter.unusedVariables false
set_option linter.unusedSimpArgs false
namespace Go.Proofs.Ytpgbnjneoejebaa
open Go.RowKit
attribute [local go_sem ↓] Go.wp_at_zero Go.wp_at_succ

theorem SlV.news {w : World} {ad : Option Addr} {n c : Nat} {l : List VP} (h : SlV w (.slice ad n c) l) :
    n = l.length ∧ (ad = none → n = 0 ∧ c = 0) ∧ ∀ b, ad = some b → ∀ j u, (cells3 l)[j]? = some u → w.cell? (b.add j) = some u := by
  obtain ⟨ad', c', he, h1, h2, h3, h4⟩ := h
  simp only [Value.slice.injEq] at he
  obtain ⟨rfl, rfl, rfl⟩ := he
  refine ⟨rfl, fun h => ⟨by have := h3 h; omega, h3 h⟩, fun b hb j u hu => ?_⟩
  have hj : j < l.length * 3 := by
    rcases Nat.lt_or_ge j (l.length * 3) with h | h
    · exact h
    · rw [List.getElem?_eq_none (by rw [cells3_len]; exact h)] at hu; cases hu
  obtain ⟨b', off, e, hc⟩ := h4 (by omega)
  obtain rfl : b = ⟨b', off, none⟩ := by rw [hb] at e; exact Option.some.inj e
  have e1 : (⟨b', off, none⟩ : Addr).add j = ⟨b', off + j, none⟩ := by unfold Addr.add; split <;> simp_all
  rw [e1]
  have hi : j / 3 < l.length := by omega
  obtain ⟨c1, c2, c3⟩ := cells3_at l (j / 3) hi
  obtain ⟨d1, d2, d3⟩ := hc (j / 3) hi
  rcases (show j % 3 = 0 ∨ j % 3 = 1 ∨ j % 3 = 2 by omega) with hm | hm | hm
  · rw [show j / 3 * 3 = j by omega] at c1 d1
    rw [c1] at hu
    rw [d1, ← hu]
  · rw [show j / 3 * 3 + 1 = j by omega] at c2
    rw [show off + j / 3 * 3 + 1 = off + j by omega] at d2
    rw [c2] at hu
    rw [d2, ← hu]
  · rw [show j / 3 * 3 + 2 = j by omega] at c3
    rw [show off + j / 3 * 3 + 2 = off + j by omega] at d3
    rw [c3] at hu
    rw [d3, ← hu]
set_option maxRecDepth 100000 in
set_option maxHeartbeats 1000000 in
/-- slices.Clone at documents. -/
theorem vclone_any (v : Value) (l : List VP) (w : World) (hv : SlV w v l) (hl : l.length ≤ 1000000) :
    Calls Try.prog 94 #[v] w fun e w' => ∃ v', e = .returned v' ∧ Same w w' ∧ w'.ownsRow w.heap.size 35 3 v' l.length (cells3 l) := by
  have HV := Lib.hid hv
  obtain ⟨ad, cp, rfl, hcp, hmx⟩ := hv.lit
  obtain ⟨-, hnil, hnews⟩ := hv.news
  have HN := Lib.hid hnews
  clear hv hnews
  cases ad with
  | none =>
    obtain ⟨h0, rfl⟩ := hnil rfl
    have hl0 : l = [] := List.eq_nil_of_length_eq_zero h0
    subst hl0
    have he := @Lib.run_eql_slice_nil Try.prog
    go_enter Try.func94, Try.ntmps94
    go_wp2_with fail
    go_ret
    exact ⟨_, rfl, Only.refl _ _, World.ownsRow_nil _ _ _ _⟩
  | some a =>
    clear hnil
    unfold maxLen at hmx
    have hinf : (Try.prog.info? 35).map (fun i => (i.zero, i.size, i.bytes)) = some (some (.agg #[.int .i64 0, .int .i64 0, .int .i64 0]), 3, 24) := by kernel_rfl
    have HINF := Lib.hid hinf
    have he := @Lib.run_eql_slice_nil Try.prog
    clear hinf
    go_enter Try.func94, Try.ntmps94
    go_wp2_with (at_builtin; refine app_any rfl (.tmp 5) (.tmp 6) 24 rfl w.heap.size 35 (.agg #[.int .i64 0, .int .i64 0, .int .i64 0]) 3 24 Try.underlying24 HINF.out rfl (by decide) (.slice (some ⟨w.heap.size, 0, none⟩) 0 0) 0 [] rfl (own_blk0 (blk_new w (.cells #[] 35))) (some a) l.length cp (cells3 l) rfl ?_ (cells3_len l) (by intro h; cases h) (fun b hb j u hu => ((Only.refl (fun _ => False) w).alloc _).cell_at (HN.out b hb j u hu) (fun h => h)) (cells3_one l) (by unfold maxLen; omega) (by omega) (by simp); intro v' w1 hown hO)
    rw [Nat.zero_add, List.nil_append] at hown
    go_ret
    exact ⟨_, rfl, ((Only.refl (fun _ => False) w).alloc (.cells #[] 35)).trans hO (fun k h1 h => by have h2 : w.heap.size ≤ k := h; omega), hown⟩
/-- The order by which List sorts. -/
def cmpV (a b : VP) : Int := if Bet.bet a b = true then -1 else if Bet.bet b a = true then 1 else 0
theorem TvAt.fn {w : World} {b k : Nat} {h : List VP} (ht : TvAt w b k h) : w.cell? ⟨b, 2, none⟩ = some (.func (.func 14) #[] #[]) := by
  obtain ⟨v, h1, _⟩ := ht
  exact (three_facts h1).1.2.2
set_option maxRecDepth 100000 in
set_option maxHeartbeats 4000000 in
theorem vorder_any (a b : VP) (c t : Nat) (w : World) (hc : w.cell? ⟨c, 0, none⟩ = some (.pointer (some ⟨t, 0, none⟩))) (hf : w.cell? ⟨t, 2, none⟩ = some (.func (.func 14) #[] #[])) :
    Calls Try.prog 95 #[vpV a, vpV b, .pointer (some ⟨c, 0, none⟩)] w fun e w' => e = .returned (.int .i64 (cmpV a b)) ∧ Same w w' := by
  have hS0 : Same w ((w.alloc (.cells (vblk a) 35)).alloc (.cells (vblk b) 35)) := ((Only.refl _ w).alloc _).alloc _
  have hA := blk_old (.cells (vblk b) 35) (blk_new w (.cells (vblk a) 35))
  have hB := blk_new1 w (.cells (vblk a) 35) (.cells (vblk b) 35)
  obtain ⟨r, hr⟩ : ∃ r, r = cmpV a b := ⟨_, rfl⟩
  rw [← hr]
  have HR := Lib.hid hr
  have c1 := fun w0 => vbetter_any a b w0
  have c2 := fun w0 => vbetter_any b a w0
  have hcc := hS0.cell_eq hc (fun h => h)
  have hff := hS0.cell_eq hf (fun h => h)
  unfold vpV at c1 c2 ⊢
  have C1 := Lib.hid c1; have C2 := Lib.hid c2
  clear hr c1 c2 hc hf
  go_enter Try.func95, Try.ntmps95
  go_upto_region 1 with fail
  generalize (w.alloc (.cells (vblk a) 35)).alloc (.cells (vblk b) 35) = W at *
  obtain ⟨⟨p0, p1, p2⟩, _⟩ := three_facts hA
  obtain ⟨⟨e0, e1, e2⟩, _⟩ := three_facts hB
  have HS0 := Lib.hid hS0
  clear hA hB hS0
  have q0 : Same W W := Only.refl _ _
  have hK : ∀ w', Same W w' → (w'.cell? ⟨c, 0, none⟩ = some (.pointer (some ⟨t, 0, none⟩)) ∧ w'.cell? ⟨t, 2, none⟩ = some (.func (.func 14) #[] #[]) ∧ w'.cell? ⟨w.heap.size, 0, none⟩ = some (.int .i64 a.1) ∧ w'.cell? ⟨w.heap.size, 1, none⟩ = some (.int .i64 (vb a)) ∧ w'.cell? ⟨w.heap.size, 2, none⟩ = some (.int .i64 (vc a)) ∧ w'.cell? ⟨w.heap.size + 1, 0, none⟩ = some (.int .i64 b.1) ∧ w'.cell? ⟨w.heap.size + 1, 1, none⟩ = some (.int .i64 (vb b)) ∧ w'.cell? ⟨w.heap.size + 1, 2, none⟩ = some (.int .i64 (vc b))) :=
    fun w' hS => ⟨hS.cell_eq hcc (fun h => h), hS.cell_eq hff (fun h => h), hS.cell_eq p0 (fun h => h), hS.cell_eq p1 (fun h => h), hS.cell_eq p2 (fun h => h), hS.cell_eq e0 (fun h => h), hS.cell_eq e1 (fun h => h), hS.cell_eq e2 (fun h => h)⟩
  have HK := Lib.hid hK
  clear hK
  go_region_held3 (fun w' => w'.cell? ⟨c, 0, none⟩ = some (.pointer (some ⟨t, 0, none⟩)) ∧ w'.cell? ⟨t, 2, none⟩ = some (.func (.func 14) #[] #[]) ∧ w'.cell? ⟨w.heap.size, 0, none⟩ = some (.int .i64 a.1) ∧ w'.cell? ⟨w.heap.size, 1, none⟩ = some (.int .i64 (vb a)) ∧ w'.cell? ⟨w.heap.size, 2, none⟩ = some (.int .i64 (vc a)) ∧ w'.cell? ⟨w.heap.size + 1, 0, none⟩ = some (.int .i64 b.1) ∧ w'.cell? ⟨w.heap.size + 1, 1, none⟩ = some (.int .i64 (vb b)) ∧ w'.cell? ⟨w.heap.size + 1, 2, none⟩ = some (.int .i64 (vc b)))
    (first | exact HK.out _ q0 | exact HK.out _ q0.drew)
    (first | ((go_at_call 14; refine (C1.out _).mono ?_; rintro e w8 ⟨rfl, hS8⟩; have q0 := Only.then (by first | exact q0 | exact q0.drew) hS8; clear hS8)))
  all_goals
    cases h1 : Bet.bet a b with
    | true =>
      have hr1 : r = -1 := by rw [HR.out]; unfold cmpV; rw [if_pos h1]
      have HR1 := Lib.hid hr1
      clear hr1 h1
      go_wp2_with fail
      go_ret
      rw [HR1.out]
      exact ⟨rfl, by first | exact HS0.out.then q0 | exact HS0.out.then q0.drew⟩
    | false =>
      have H1 := Lib.hid h1
      clear h1
      clear hcc hff p0 p1 p2 e0 e1 e2
      go_upto_region 3 with fail
      obtain ⟨hcc, hff, p0, p1, p2, e0, e1, e2⟩ := HK.out _ q0
      go_region_held3 (fun w' => w'.cell? ⟨c, 0, none⟩ = some (.pointer (some ⟨t, 0, none⟩)) ∧ w'.cell? ⟨t, 2, none⟩ = some (.func (.func 14) #[] #[]) ∧ w'.cell? ⟨w.heap.size, 0, none⟩ = some (.int .i64 a.1) ∧ w'.cell? ⟨w.heap.size, 1, none⟩ = some (.int .i64 (vb a)) ∧ w'.cell? ⟨w.heap.size, 2, none⟩ = some (.int .i64 (vc a)) ∧ w'.cell? ⟨w.heap.size + 1, 0, none⟩ = some (.int .i64 b.1) ∧ w'.cell? ⟨w.heap.size + 1, 1, none⟩ = some (.int .i64 (vb b)) ∧ w'.cell? ⟨w.heap.size + 1, 2, none⟩ = some (.int .i64 (vc b)))
        (first | exact HK.out _ q0 | exact HK.out _ q0.drew)
        (first | ((go_at_call 14; refine (C2.out _).mono ?_; rintro e w9 ⟨rfl, hS9⟩; have q0 := Only.then (by first | exact q0 | exact q0.drew) hS9; clear hS9)))
      all_goals
        cases h2 : Bet.bet b a with
        | true =>
          have hr1 : r = 1 := by rw [HR.out]; unfold cmpV; rw [if_neg (by rw [H1.out]; simp), if_pos h2]
          have HR1 := Lib.hid hr1
          clear hr1 h2
          go_wp2_with fail
          go_ret
          rw [HR1.out]
          exact ⟨rfl, by first | exact HS0.out.then q0 | exact HS0.out.then q0.drew⟩
        | false =>
          have hr1 : r = 0 := by rw [HR.out]; unfold cmpV; rw [if_neg (by rw [H1.out]; simp), if_neg (by rw [h2]; simp)]
          have HR1 := Lib.hid hr1
          clear hr1 h2
          go_wp2_with fail
          go_ret
          rw [HR1.out]
          exact ⟨rfl, by first | exact HS0.out.then q0 | exact HS0.out.then q0.drew⟩
end Go.Proofs.Ytpgbnjneoejebaa
