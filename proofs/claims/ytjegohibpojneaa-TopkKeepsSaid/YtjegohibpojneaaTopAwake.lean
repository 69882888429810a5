import Derived.Test.YtjegohibpojneaaTopBest
import Derived.Test.YtjegohibpojneaaTopRBest
set_option linter.unusedVariables false
set_option linter.unusedSimpArgs false
namespace Go.Proofs.Ytjegohibpojneaa
open Go.RowKit
attribute [local go_sem ↓] Go.wp_at_zero Go.wp_at_succ

theorem TopAt.v {w : World} {b k : Nat} {h : List (Int × Int)} (ht : TopAt w b k h) : ∃ v, TopV w b k v h := ht
/-- Offer to a bound that lies behind the base: nothing older changes. -/
theorem toffer_at (b : Nat) (K : Int) (h l : List (Int × Int)) (x : Int × Int) (w : World) (ht : TopAt w b K.toNat h) (hh : HeapP h) (hpm : h.Perm (bestP K l)) (hlen : l.length < 1000000) (hK : K ≤ 9223372036854775807) :
    Calls Try.prog 53 #[.pointer (some ⟨b, 0, none⟩), pairV x] w fun e w' => e = .returned (.bool (keptP K l x)) ∧ ∃ h', TopAt w' b K.toNat h' ∧ HeapP h' ∧ h'.Perm (bestP K (l ++ [x])) ∧ Only (fun i => b ≤ i) w w' := by
  obtain ⟨v, hv⟩ := ht.v
  refine (toffer_any b K v h l x w hv hh hpm hlen hK).mono ?_
  rintro e w' ⟨he, h', h1, h2, h3, h4⟩
  exact ⟨he, h', h1, h2, h3, h4.mono (fun i _ e => by
    rcases e with e | e
    · exact Nat.le_of_eq e.symm
    · have := (hv.off i e).1; omega)⟩
set_option maxRecDepth 100000 in
set_option maxHeartbeats 8000000 in
theorem tawake_any (w : World) : Calls Try.prog 49 #[] w fun e w' => e = .returned (.bool true) ∧ Same w w' := by
  have q0 : bestP 1 ([] ++ [(3, 5)]) = [(3, 5)] := by decide
  have q1 : bestP 1 [(3, 5)] = [(3, 5)] := by decide
  have q2 : bestP 1 ([(3, 5)] ++ [(2, 5)]) = [(2, 5)] := by decide
  have q3 : bestP 1 ([(3, 5)] ++ [(2, 5)] ++ [(9, 5)]) = [(2, 5)] := by decide
  have k1 : keptP 1 [] (3, 5) = true := by decide
  have k2 : keptP 1 [(3, 5)] (2, 5) = true := by decide
  have k3 : keptP 1 ([(3, 5)] ++ [(2, 5)]) (9, 5) = false := by decide
  have Q0 := Lib.hid q0; have Q1 := Lib.hid q1; have Q2 := Lib.hid q2; have Q3 := Lib.hid q3; have K1 := Lib.hid k1; have K2 := Lib.hid k2; have K3 := Lib.hid k3
  clear q0 q1 q2 q3 k1 k2 k3
  go_enter Try.func49, Try.ntmps49
  go_wp2_with fail
  refine (tnew_any 1 w (by omega)).mono ?_
  rintro e w1 ⟨rfl, hS1, hT1⟩
  have HS1 := Lib.hid hS1; have HT1 := Lib.hid (show TopAt w1 w.heap.size 1 [] from hT1)
  clear hS1 hT1
  go_wp2_with fail
  refine (tworst_any w.heap.size 1 [] w1 HT1.out (by omega)).mono ?_
  rintro e w2 ⟨rfl, hS2⟩
  rw [show worstP 1 [] = ((0, 0), false) from rfl]
  have HS2 := Lib.hid (HS1.out.then hS2); have HT2 := Lib.hid (HT1.out.same hS2)
  clear hS2 HS1 HT1
  go_upto_region 5 with fail
  have hSa : Same w2 (w2.alloc (.cells #[.int .i64 0, .int .i64 0] 89)) := (Only.refl _ w2).alloc _
  have HS3 := Lib.hid (HS2.out.then hSa); have HT3 := Lib.hid (HT2.out.same hSa)
  have HH3 : Hid (HeapP ([] : List (Int × Int))) := Lib.hid (fun j h0 h1 => by simp at h1)
  generalize w2.alloc (.cells #[.int .i64 0, .int .i64 0] 89) = w3 at *
  clear hSa HS2 HT2
  go_wp2_with fail
  refine (toffer_at w.heap.size 1 [] [] (3, 5) _ HT3.out HH3.out (by exact List.Perm.refl _) (by simp) (by omega)).mono ?_
  rintro e w4 ⟨rfl, h', hT', hh', hp', hO'⟩
  obtain rfl : h' = [(3, 5)] := by
    have h9 := hp'
    rw [Q0.out] at h9
    exact List.perm_singleton.1 h9
  have HS4 := Lib.hid (HS3.out.trans hO' (S := fun _ => False) (fun k h1 h2 => by omega)); have HT4 := Lib.hid hT'; have HH4 := Lib.hid hh'
  rw [K1.out]
  clear hT' hh' hp' hO' HS3 HT3 HH3
  go_wp2_with fail
  refine (toffer_at w.heap.size 1 [(3, 5)] [(3, 5)] (2, 5) _ HT4.out HH4.out (by rw [Q1.out]) (by simp) (by omega)).mono ?_
  rintro e w5 ⟨rfl, h', hT', hh', hp', hO'⟩
  obtain rfl : h' = [(2, 5)] := by
    have h9 := hp'
    rw [Q2.out] at h9
    exact List.perm_singleton.1 h9
  have HS5 := Lib.hid (HS4.out.trans hO' (S := fun _ => False) (fun k h1 h2 => by omega)); have HT5 := Lib.hid hT'; have HH5 := Lib.hid hh'
  rw [K2.out]
  clear hT' hh' hp' hO' HS4 HT4 HH4
  go_wp2_with fail
  refine (toffer_at w.heap.size 1 [(2, 5)] ([(3, 5)] ++ [(2, 5)]) (9, 5) _ HT5.out HH5.out (by rw [Q2.out]) (by simp) (by omega)).mono ?_
  rintro e w6 ⟨rfl, h', hT', hh', hp', hO'⟩
  obtain rfl : h' = [(2, 5)] := by
    have h9 := hp'
    rw [Q3.out] at h9
    exact List.perm_singleton.1 h9
  have HS6 := Lib.hid (HS5.out.trans hO' (S := fun _ => False) (fun k h1 h2 => by omega)); have HT6 := Lib.hid hT'; have HH6 := Lib.hid hh'
  rw [K3.out]
  clear hT' hh' hp' hO' HS5 HT5 HH5
  go_wp2_with fail
  refine (tworst_any w.heap.size 1 [(2, 5)] w6 HT6.out (by omega)).mono ?_
  rintro e w7 ⟨rfl, hS7⟩
  rw [show worstP 1 [(2, 5)] = ((2, 5), true) from rfl]
  have HS7 := Lib.hid (HS6.out.then hS7); have HT7 := Lib.hid (HT6.out.same hS7)
  clear hS7 HS6 HT6 HH6
  go_upto_region 7 with fail
  have hSb : Same w7 (w7.alloc (.cells #[.int .i64 2, .int .i64 5] 89)) := (Only.refl _ w7).alloc _
  have HS8 := Lib.hid (HS7.out.then hSb); have HT8 := Lib.hid (HT7.out.same hSb)
  obtain ⟨p0, p1, _, _⟩ := two_facts (blk_new w7 (.cells #[.int .i64 2, .int .i64 5] 89))
  generalize w7.alloc (.cells #[.int .i64 2, .int .i64 5] 89) = w8 at *
  clear hSb HS7 HT7
  have P0 := Lib.hid p0; have P1 := Lib.hid p1
  clear p0 p1
  go_wp2_with fail
  refine (tlist_any w.heap.size 1 [(2, 5)] w8 HT8.out (by simp)).mono ?_
  rintro e w9 ⟨v9, rfl, hS9, hown9⟩
  have HSL := Lib.hid (own_slp hown9)
  rw [show sortP [(2, 5)] = [(2, 5)] by decide] at HSL
  have HS9 := Lib.hid (HS8.out.then hS9); have HT9 := Lib.hid (HT8.out.same hS9)
  have p0 := hS9.cell_eq P0.out (fun h => h); have p1 := hS9.cell_eq P1.out (fun h => h)
  obtain ⟨a9, c9, rfl, hc9, hm9⟩ := HSL.out.lit
  obtain ⟨b9, o9, rfl, hcell⟩ := HSL.out.spot (by simp)
  have p2 := (hcell 0 (by simp)).1; have p3 := (hcell 0 (by simp)).2
  simp only [Nat.zero_mul, Nat.add_zero, List.getElem_cons_zero] at p2 p3
  clear hcell hS9 hown9 HS8 HT8 P0 P1
  have hcl : ∀ w0, Same w9 w0 → Calls Try.prog 56 #[.pointer (some ⟨w.heap.size, 0, none⟩)] w0 fun e w' => e = .returned (.int .i64 1) ∧ Same w0 w' := fun w0 h => tlen_any w.heap.size 1 [(2, 5)] w0 (HT9.out.same h)
  have hsl1 : SlP w9 (.slice (some ⟨b9, o9, none⟩) 1 c9) [(2, 5)] := HSL.out
  have hcb : ∀ (K : Int) (n : Nat), -9223372036854775808 ≤ K ∧ K ≤ 9223372036854775807 → (bestP K [(2, 5)]).length = n → ∀ w0, Same w9 w0 → Calls Try.prog 59 #[.int .i64 K, .slice (some ⟨b9, o9, none⟩) 1 c9] w0 fun e w' => (∃ a c, e = .returned (.slice a n c)) ∧ Same w0 w' := by
    intro K n hK hn w0 h
    refine (tbest_any K _ [(2, 5)] w0 (hsl1.same h) (by simp) hK).mono ?_
    rintro e w' ⟨v', rfl, hS, hown⟩
    obtain ⟨a, c, rfl, _⟩ := (own_slp hown).lit
    rw [hn]
    exact ⟨⟨a, c, rfl⟩, hS⟩
  have hc0 := hcb 0 0 (by omega) (by decide)
  have hc1 := hcb 9 1 (by omega) (by decide)
  have CL := Lib.hid hcl; have CB0 := Lib.hid hc0; have CB1 := Lib.hid hc1
  have q0 : Same w9 w9 := Only.refl _ _
  have hK : ∀ w', Same w9 w' → (w'.cell? ⟨w7.heap.size, 0, none⟩ = some (.int .i64 2) ∧ w'.cell? ⟨w7.heap.size, 1, none⟩ = some (.int .i64 5) ∧ w'.cell? ⟨b9, o9, none⟩ = some (.int .i64 2) ∧ w'.cell? ⟨b9, o9 + 1, none⟩ = some (.int .i64 5)) := fun w' h => ⟨h.cell_eq p0 (fun h => h), h.cell_eq p1 (fun h => h), h.cell_eq p2 (fun h => h), h.cell_eq p3 (fun h => h)⟩
  have HK := Lib.hid hK
  rw [show ([(2, 5)] : List (Int × Int)).length = 1 from rfl]
  clear hcl hsl1 hcb hc0 hc1 hK hc9 HT9
  go_upto_region 8 with fail
  go_region_held3 (fun w' => w'.cell? ⟨w7.heap.size, 0, none⟩ = some (.int .i64 2) ∧ w'.cell? ⟨w7.heap.size, 1, none⟩ = some (.int .i64 5) ∧ w'.cell? ⟨b9, o9, none⟩ = some (.int .i64 2) ∧ w'.cell? ⟨b9, o9 + 1, none⟩ = some (.int .i64 5))
    (first | exact HK.out _ q0 | exact HK.out _ q0.drew)
    (first | ((go_at_call 56; (first | refine (CL.out _ q0).mono ?_ | refine (CL.out _ q0.drew).mono ?_); rintro e w10 ⟨rfl, hS8⟩; have q0 := Only.then (by first | exact q0 | exact q0.drew) hS8; clear hS8)) | ((go_at_call 59; (first | (with_reducible refine (CB0.out _ q0).mono ?_) | (with_reducible refine (CB0.out _ q0.drew).mono ?_)); rintro e w11 ⟨⟨a, c, rfl⟩, hS8⟩; have q0 := Only.then (by first | exact q0 | exact q0.drew) hS8; clear hS8)) | ((go_at_call 59; (first | (with_reducible refine (CB1.out _ q0).mono ?_) | (with_reducible refine (CB1.out _ q0.drew).mono ?_)); rintro e w12 ⟨⟨a, c, rfl⟩, hS8⟩; have q0 := Only.then (by first | exact q0 | exact q0.drew) hS8; clear hS8)))
  all_goals
    go_wp2_with fail
    go_ret
    exact ⟨rfl, by first | exact HS9.out.then q0 | exact HS9.out.then q0.drew⟩
end Go.Proofs.Ytjegohibpojneaa
