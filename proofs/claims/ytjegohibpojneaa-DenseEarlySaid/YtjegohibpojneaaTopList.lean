import Derived.Test.YtjegohibpojneaaTopUp
import Derived.Test.YtjegohibpojneaaFacts
set_option linter.unusedVariables false
set_option linter.unusedSimpArgs false
namespace Go.Proofs.Ytjegohibpojneaa
open Go.RowKit
attribute [local go_sem ↓] Go.wp_at_zero Go.wp_at_succ

set_option maxRecDepth 100000 in
set_option maxHeartbeats 1000000 in
/-- slices.Clone at documents. -/
theorem sclone_any (v : Value) (l : List (Int × Int)) (w : World) (hv : SlP w v l) (hl : l.length ≤ 1000000) :
    Calls Try.prog 109 #[v] w fun e w' => ∃ v', e = .returned v' ∧ Same w w' ∧ w'.ownsRow w.heap.size 89 2 v' l.length (cells2 l) := by
  have HV := Lib.hid hv
  obtain ⟨ad, cp, rfl, hcp, hmx⟩ := hv.lit
  obtain ⟨-, hnil, hnews⟩ := hv.news
  have HN := Lib.hid hnews
  clear hv hnews
  cases ad with
  | none =>
    obtain ⟨h0, rfl⟩ := hnil rfl
    have hl0 : l = [] := List.eq_nil_of_length_eq_zero h0
    subst hl0
    have he := @Lib.run_eql_slice_nil Try.prog
    go_enter Try.func109, Try.ntmps109
    go_wp2_with fail
    go_ret
    exact ⟨_, rfl, Only.refl _ _, World.ownsRow_nil _ _ _ _⟩
  | some a =>
    clear hnil
    unfold maxLen at hmx
    have hinf : (Try.prog.info? 89).map (fun i => (i.zero, i.size, i.bytes)) = some (some (.agg #[.int .i64 0, .int .i64 0]), 2, 16) := by kernel_rfl
    have HINF := Lib.hid hinf
    have he := @Lib.run_eql_slice_nil Try.prog
    clear hinf
    go_enter Try.func109, Try.ntmps109
    go_wp2_with (at_builtin; refine app_any rfl (.tmp 5) (.tmp 6) 85 rfl w.heap.size 89 (.agg #[.int .i64 0, .int .i64 0]) 2 16 Try.underlying85 HINF.out rfl (by decide) (.slice (some ⟨w.heap.size, 0, none⟩) 0 0) 0 [] rfl (own_blk0 (blk_new w (.cells #[] 89))) (some a) l.length cp (cells2 l) rfl ?_ (cells2_len l) (by intro h; cases h) (fun b hb j u hu => ((Only.refl (fun _ => False) w).alloc _).cell_at (HN.out b hb j u hu) (fun h => h)) (cells2_one l) (by unfold maxLen; omega) (by omega) (by simp); intro v' w1 hown hO)
    rw [Nat.zero_add, List.nil_append] at hown
    go_ret
    exact ⟨_, rfl, ((Only.refl (fun _ => False) w).alloc (.cells #[] 89)).trans hO (fun k h1 h => by have h2 : w.heap.size ≤ k := h; omega), hown⟩
/-- The order by which List sorts. -/
def cmpP (a b : Int × Int) : Int := if betP a b = true then -1 else if betP b a = true then 1 else 0
theorem TopAt.fn {w : World} {b k : Nat} {h : List (Int × Int)} (ht : TopAt w b k h) : w.cell? ⟨b, 2, none⟩ = some (.func (.func 51) #[] #[]) := by
  obtain ⟨v, h1, _⟩ := ht
  exact (three_facts h1).1.2.2
set_option maxRecDepth 100000 in
set_option maxHeartbeats 4000000 in
theorem order_any (a b : Int × Int) (c t : Nat) (w : World) (hc : w.cell? ⟨c, 0, none⟩ = some (.pointer (some ⟨t, 0, none⟩))) (hf : w.cell? ⟨t, 2, none⟩ = some (.func (.func 51) #[] #[])) :
    Calls Try.prog 110 #[pairV a, pairV b, .pointer (some ⟨c, 0, none⟩)] w fun e w' => e = .returned (.int .i64 (cmpP a b)) ∧ Same w w' := by
  have hS0 : Same w ((w.alloc (.cells #[.int .i64 a.1, .int .i64 a.2] 89)).alloc (.cells #[.int .i64 b.1, .int .i64 b.2] 89)) := ((Only.refl _ w).alloc _).alloc _
  have hA := blk_old (.cells #[.int .i64 b.1, .int .i64 b.2] 89) (blk_new w (.cells #[.int .i64 a.1, .int .i64 a.2] 89))
  have hB := blk_new1 w (.cells #[.int .i64 a.1, .int .i64 a.2] 89) (.cells #[.int .i64 b.1, .int .i64 b.2] 89)
  obtain ⟨r, hr⟩ : ∃ r, r = cmpP a b := ⟨_, rfl⟩
  rw [← hr]
  have HR := Lib.hid hr
  have c1 := fun w0 => better_any a b w0
  have c2 := fun w0 => better_any b a w0
  have hcc := hS0.cell_eq hc (fun h => h)
  have hff := hS0.cell_eq hf (fun h => h)
  unfold pairV at c1 c2 ⊢
  have C1 := Lib.hid c1; have C2 := Lib.hid c2
  clear hr c1 c2 hc hf
  go_enter Try.func110, Try.ntmps110
  go_upto_region 1 with fail
  generalize (w.alloc (.cells #[.int .i64 a.1, .int .i64 a.2] 89)).alloc (.cells #[.int .i64 b.1, .int .i64 b.2] 89) = W at *
  obtain ⟨p0, p1, _, _⟩ := two_facts hA
  obtain ⟨p2, p3, _, _⟩ := two_facts hB
  have HS0 := Lib.hid hS0
  clear hA hB hS0
  have q0 : Same W W := Only.refl _ _
  have hK : ∀ w', Same W w' → (w'.cell? ⟨c, 0, none⟩ = some (.pointer (some ⟨t, 0, none⟩)) ∧ w'.cell? ⟨t, 2, none⟩ = some (.func (.func 51) #[] #[]) ∧ w'.cell? ⟨w.heap.size, 0, none⟩ = some (.int .i64 a.1) ∧ w'.cell? ⟨w.heap.size, 1, none⟩ = some (.int .i64 a.2) ∧ w'.cell? ⟨w.heap.size + 1, 0, none⟩ = some (.int .i64 b.1) ∧ w'.cell? ⟨w.heap.size + 1, 1, none⟩ = some (.int .i64 b.2)) :=
    fun w' hS => ⟨hS.cell_eq hcc (fun h => h), hS.cell_eq hff (fun h => h), hS.cell_eq p0 (fun h => h), hS.cell_eq p1 (fun h => h), hS.cell_eq p2 (fun h => h), hS.cell_eq p3 (fun h => h)⟩
  have HK := Lib.hid hK
  clear hK
  go_region_held3 (fun w' => w'.cell? ⟨c, 0, none⟩ = some (.pointer (some ⟨t, 0, none⟩)) ∧ w'.cell? ⟨t, 2, none⟩ = some (.func (.func 51) #[] #[]) ∧ w'.cell? ⟨w.heap.size, 0, none⟩ = some (.int .i64 a.1) ∧ w'.cell? ⟨w.heap.size, 1, none⟩ = some (.int .i64 a.2) ∧ w'.cell? ⟨w.heap.size + 1, 0, none⟩ = some (.int .i64 b.1) ∧ w'.cell? ⟨w.heap.size + 1, 1, none⟩ = some (.int .i64 b.2))
    (first | exact HK.out _ q0 | exact HK.out _ q0.drew)
    (first | ((go_at_call 51; refine (C1.out _).mono ?_; rintro e w8 ⟨rfl, hS8⟩; have q0 := Only.then (by first | exact q0 | exact q0.drew) hS8; clear hS8)))
  all_goals
    cases h1 : betP a b with
    | true =>
      have hr1 : r = -1 := by rw [HR.out]; unfold cmpP; rw [if_pos h1]
      have HR1 := Lib.hid hr1
      clear hr1 h1
      go_wp2_with fail
      go_ret
      rw [HR1.out]
      exact ⟨rfl, by first | exact HS0.out.then q0 | exact HS0.out.then q0.drew⟩
    | false =>
      have H1 := Lib.hid h1
      clear h1
      clear hcc hff p0 p1 p2 p3
      go_upto_region 3 with fail
      obtain ⟨hcc, hff, p0, p1, p2, p3⟩ := HK.out _ q0
      go_region_held3 (fun w' => w'.cell? ⟨c, 0, none⟩ = some (.pointer (some ⟨t, 0, none⟩)) ∧ w'.cell? ⟨t, 2, none⟩ = some (.func (.func 51) #[] #[]) ∧ w'.cell? ⟨w.heap.size, 0, none⟩ = some (.int .i64 a.1) ∧ w'.cell? ⟨w.heap.size, 1, none⟩ = some (.int .i64 a.2) ∧ w'.cell? ⟨w.heap.size + 1, 0, none⟩ = some (.int .i64 b.1) ∧ w'.cell? ⟨w.heap.size + 1, 1, none⟩ = some (.int .i64 b.2))
        (first | exact HK.out _ q0 | exact HK.out _ q0.drew)
        (first | ((go_at_call 51; refine (C2.out _).mono ?_; rintro e w9 ⟨rfl, hS9⟩; have q0 := Only.then (by first | exact q0 | exact q0.drew) hS9; clear hS9)))
      all_goals
        cases h2 : betP b a with
        | true =>
          have hr1 : r = 1 := by rw [HR.out]; unfold cmpP; rw [if_neg (by rw [H1.out]; simp), if_pos h2]
          have HR1 := Lib.hid hr1
          clear hr1 h2
          go_wp2_with fail
          go_ret
          rw [HR1.out]
          exact ⟨rfl, by first | exact HS0.out.then q0 | exact HS0.out.then q0.drew⟩
        | false =>
          have hr1 : r = 0 := by rw [HR.out]; unfold cmpP; rw [if_neg (by rw [H1.out]; simp), if_neg (by rw [h2]; simp)]
          have HR1 := Lib.hid hr1
          clear hr1 h2
          go_wp2_with fail
          go_ret
          rw [HR1.out]
          exact ⟨rfl, by first | exact HS0.out.then q0 | exact HS0.out.then q0.drew⟩
end Go.Proofs.Ytjegohibpojneaa
