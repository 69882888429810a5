import Derived.Test.YtpgbnjneoejebaaFuTurnP
set_option linter.unusedVariables false
set_option linter.unusedSimpArgs false
namespace Go.Proofs.Ytpgbnjneoejebaa
open Go.RowKit
attribute [local go_sem ↓] Go.wp_at_zero Go.wp_at_succ

set_option maxRecDepth 100000 in
set_option maxHeartbeats 32000000 in
theorem fuseTurns_walk (v0 v1 : Value) (x y : List (Int × Int)) (a b c k : Int) (w : World) (h0 : SlP w v0 x) (h1 : SlP w v1 y) (ix : I64L x) (iy : I64L y) :
    Calls Try.prog 3 #[v0, v1, .int .i64 a, .int .i64 b, .int .i64 c, .int .i64 k] w fun e w' => e = .returned (.bool true) ∧ Same w w' := by
  have HX := Lib.hid h0; have HY := Lib.hid h1; have HIX := Lib.hid ix; have HIY := Lib.hid iy
  obtain ⟨ax, cx, rfl, hcx, hmx⟩ := h0.lit
  obtain ⟨ay, cy, rfl, hcy, hmy⟩ := h1.lit
  unfold maxLen at hmx hmy
  clear h0 h1 ix iy
  go_enter Try.func3, Try.ntmps3
  go_wp2_with fail
  refine (fawake_any _).mono ?_
  rintro e w1 ⟨rfl, hS1⟩
  have HS1 := Lib.hid hS1
  clear hS1
  by_cases hl1 : 60 < x.length
  · have hd1 : decide ((60 : Int) < (x.length : Int)) = true := decide_eq_true (by omega)
    go_wp2_with fail
    go_ret
    exact ⟨rfl, HS1.out⟩
  have hd1 : decide ((60 : Int) < (x.length : Int)) = false := decide_eq_false (by omega)
  by_cases hl2 : 60 < y.length
  · have hd2 : decide ((60 : Int) < (y.length : Int)) = true := decide_eq_true (by omega)
    go_wp2_with fail
    go_ret
    exact ⟨rfl, HS1.out⟩
  have hd2 : decide ((60 : Int) < (y.length : Int)) = false := decide_eq_false (by omega)
  by_cases hk1 : k < 1
  · have hd3 : decide (k < 1) = true := decide_eq_true hk1
    go_wp2_with fail
    go_ret
    exact ⟨rfl, HS1.out⟩
  have hd3 : decide (k < 1) = false := decide_eq_false hk1
  by_cases hk2 : 999 < k
  · have hd4 : decide (999 < k) = true := decide_eq_true hk2
    go_wp2_with fail
    go_ret
    exact ⟨rfl, HS1.out⟩
  have hd4 : decide (999 < k) = false := decide_eq_false hk2
  have hwk : IntKind.i64.wrap (k + 1) = k + 1 := by rw [IntKind.wrap_i64]; omega
  obtain ⟨q, hq⟩ : ∃ q, q = askedF x y (okC c) k := ⟨_, rfl⟩
  obtain ⟨r, hr⟩ : ∃ r, r = askedF x y (okW a b) k := ⟨_, rfl⟩
  have HQ := Lib.hid hq; have HR := Lib.hid hr
  have HL : Hid (x.length ≤ 60 ∧ y.length ≤ 60 ∧ 1 ≤ k ∧ k ≤ 999) := Lib.hid ⟨by omega, by omega, by omega, by omega⟩
  have CA := Lib.hid (fun w0 (h : Same w w0) => ranks_any _ _ x y c k w0 (HX.out.same h) (HY.out.same h) HIX.out HIY.out)
  have CB := Lib.hid (fun w0 (h : Same w w0) => ranks_any _ _ y x c k w0 (HY.out.same h) (HX.out.same h) HIY.out HIX.out)
  have CC := Lib.hid (fun w0 (h : Same w w0) => ranks_any _ _ x y c (k + 1) w0 (HX.out.same h) (HY.out.same h) HIX.out HIY.out)
  have CD := Lib.hid (fun w0 (h : Same w w0) => weights_any _ _ x y a b k w0 (HX.out.same h) (HY.out.same h) HIX.out HIY.out)
  have CE := Lib.hid (fun w0 (h : Same w w0) => weights_any _ _ y x b a k w0 (HY.out.same h) (HX.out.same h) HIY.out HIX.out)
  have CJ := Lib.hid (fun w0 (h : Same w w0) => ranks_any _ _ x [] c k w0 (HX.out.same h) (SlP.nil w0) HIX.out (by intro p hp; simp at hp))
  rw [← hq] at CA
  rw [asked_comm, ← hq] at CB
  rw [asked_more x y (okC c) k (by omega), ← hq] at CC
  rw [← hr] at CD
  rw [asked_comm, okW_comm, ← hr] at CE
  clear hq hr hl1 hl2 hk1 hk2
  go_wp2_with fail
  refine (CA.out _ HS1.out).mono ?_
  rintro e w2 ⟨va, la, rfl, hS2, hown, hfa⟩
  have HS2 := Lib.hid (HS1.out.then hS2); have HVA := Lib.hid (own_slv hown); have HFA := Lib.hid hfa
  clear hS2 hown hfa CA
  go_wp2_with fail
  refine (CB.out _ HS2.out).mono ?_
  rintro e w3 ⟨vb, lb, rfl, hS3, hown, hfb⟩
  have hb := (fuR_turn HFA.out hfb).symm
  subst hb
  have HS3 := Lib.hid (HS2.out.then hS3); have HVB := Lib.hid (own_slv hown); have HVA := Lib.hid (HVA.out.same hS3)
  clear hS3 hown hfb CB
  go_wp2_with fail
  refine (CC.out _ HS3.out).mono ?_
  rintro e w4 ⟨vn, ln, rfl, hS4, hown, hfn⟩
  obtain ⟨hn1, hn2⟩ := fuR_more HFA.out hfn (by have := HL.out; omega)
  have HN := Lib.hid (And.intro hn1 hn2); have HLN1 := Lib.hid (fuR_len hfn); have HLA1 := Lib.hid (fuR_len HFA.out)
  have HS4 := Lib.hid (HS3.out.then hS4); have HVN := Lib.hid (own_slv hown); have HVA := Lib.hid (HVA.out.same hS4); have HVB := Lib.hid (HVB.out.same hS4)
  clear hS4 hown hfn CC hn1 hn2
  go_wp2_with fail
  refine (CD.out _ HS4.out).mono ?_
  rintro e w5 ⟨vu, lu, rfl, hS5, hown, hfu⟩
  have HS5 := Lib.hid (HS4.out.then hS5); have HVU := Lib.hid (own_slv hown); have HFU := Lib.hid hfu; have HLU1 := Lib.hid (fuR_len hfu); have HVA := Lib.hid (HVA.out.same hS5); have HVB := Lib.hid (HVB.out.same hS5); have HVN := Lib.hid (HVN.out.same hS5)
  clear hS5 hown hfu CD
  go_wp2_with fail
  refine (CE.out _ HS5.out).mono ?_
  rintro e w6 ⟨vv, lv, rfl, hS6, hown, hfv⟩
  have hv := (fuR_turn HFU.out hfv).symm
  subst hv
  have HS6 := Lib.hid (HS5.out.then hS6); have HVV := Lib.hid (own_slv hown); have HVU := Lib.hid (HVU.out.same hS6); have HVA := Lib.hid (HVA.out.same hS6); have HVB := Lib.hid (HVB.out.same hS6); have HVN := Lib.hid (HVN.out.same hS6)
  clear hS6 hown hfv CE
  obtain ⟨aa, ca, rfl, hca, hma⟩ := HVA.out.lit
  obtain ⟨ab, cb, rfl, hcb, hmb⟩ := HVB.out.lit
  obtain ⟨an, cn, rfl, hcn, hmn⟩ := HVN.out.lit
  obtain ⟨au, cu, rfl, hcu, hmu⟩ := HVU.out.lit
  obtain ⟨av, cv, rfl, hcv, hmv⟩ := HVV.out.lit
  have q0 : Same w6 w6 := Only.refl _ _
  have HLN : Hid (la.length ≤ 120 ∧ ln.length ≤ 120 ∧ lu.length ≤ 120) := Lib.hid (by have := HL.out; have := HLN1.out; have := HLA1.out; have := HLU1.out; omega)
  have HLW := Lib.hid ((HVN.out.low (m := la.length) HN.out.2))
  have hqq : (q != q) = false := by simp
  have hrr : (r != r) = false := by simp
  have hll : decide (ln.length < la.length) = false := decide_eq_false (by have := HN.out; omega)
  have hcn2 : la.length ≤ cn := by have := HN.out.2; omega
  have COF := Lib.hid (fun (v : Value) (l : List VP) (w0 w' : World) (hv : SlV w0 v l) (h : Same w0 w') (hl : l.length ≤ 120) => fof_any v l w' (hv.same h) (by omega))
  unfold maxLen at hma hmb hmn hmu hmv
  have hun : la.length ≤ 9223372036854775807 := by omega
  rw [HN.out.1] at HLW
  have hcn0 : (0 : Int) ≤ (la.length : Int) := by omega
  have hcn3 : decide ((la.length : Int) ≤ (cn : Int)) = true := decide_eq_true (by omega)
  clear HFU HLN1 HLA1 HLU1
  go_upto_region 10 with fail
  refine wp_region_held_drew (S := (fun _ => True)) (by kernel_rfl) ?_ (fun hHeld => ?_)
  focus (all_goals trivial)
  refine wpAnyH_take (i := 0) (oi := ⟨some 87, _, _, _, _, _⟩) (v := ?_) rfl (by kernel_rfl) (by kernel_rfl) (by kernel_rfl) (fun _ _ _ h => h) (Or.inl ⟨by rfl, ?_⟩) (by assumption) ?_
  rotate_left
  focus ((intro w hSw; (try dsimp only at hSw); go_simp); try (with_reducible rfl))
  try simp only [Act.put, List.setIfInBounds_toArray, List.set_cons_zero, List.set_cons_succ]
  refine wpAnyH_take (i := 1) (oi := ⟨some 88, _, _, _, _, _⟩) (v := ?_) rfl (by kernel_rfl) (by kernel_rfl) (by kernel_rfl) (fun _ _ _ h => h) (Or.inl ⟨by rfl, ?_⟩) (by assumption) ?_
  rotate_left
  focus ((intro w hSw; (try dsimp only at hSw); go_simp); try (with_reducible rfl))
  try simp only [Act.put, List.setIfInBounds_toArray, List.set_cons_zero, List.set_cons_succ]
  refine wpAnyH_take (i := 2) (oi := ⟨some 89, _, _, _, _, _⟩) (v := ?_) rfl (by kernel_rfl) (by kernel_rfl) (by kernel_rfl) (fun _ _ _ h => h) (Or.inl ⟨by rfl, ?_⟩) (by assumption) ?_
  rotate_left
  focus ((intro w hSw; (try dsimp only at hSw); go_simp); try (with_reducible rfl))
  try simp only [Act.put, List.setIfInBounds_toArray, List.set_cons_zero, List.set_cons_succ]
  refine wpAnyH_take (i := 3) (oi := ⟨some 90, _, _, _, _, _⟩) (v := ?_) rfl (by kernel_rfl) (by kernel_rfl) (by kernel_rfl) (fun _ _ _ h => h) (Or.inl ⟨by rfl, ?_⟩) (by assumption) ?_
  rotate_left
  focus ((intro w hSw; (try dsimp only at hSw); go_simp); try (with_reducible rfl))
  try simp only [Act.put, List.setIfInBounds_toArray, List.set_cons_zero, List.set_cons_succ]
  refine wpAnyH_take (i := 4) (oi := ⟨some 91, _, _, _, _, _⟩) (v := ?_) rfl (by kernel_rfl) (by kernel_rfl) (by kernel_rfl) (fun _ _ _ h => h) (Or.inl ⟨by rfl, ?_⟩) (by assumption) ?_
  rotate_left
  focus ((intro w hSw; (try dsimp only at hSw); go_simp); try (with_reducible rfl))
  try simp only [Act.put, List.setIfInBounds_toArray, List.set_cons_zero, List.set_cons_succ]
  refine wpAnyH_take (i := 5) (oi := ⟨some 92, _, _, _, _, _⟩) (v := ?_) rfl (by kernel_rfl) (by kernel_rfl) (by kernel_rfl) (fun _ _ _ h => h) (Or.inl ⟨by rfl, ?_⟩) (by assumption) ?_
  rotate_left
  focus ((intro w hSw; (try dsimp only at hSw); go_simp); try (with_reducible rfl))
  try simp only [Act.put, List.setIfInBounds_toArray, List.set_cons_zero, List.set_cons_succ]
  refine wpAnyH_take (i := 6) (oi := ⟨some 93, _, _, _, _, _⟩) (v := ?_) rfl (by kernel_rfl) (by kernel_rfl) (by kernel_rfl) (fun _ _ _ h => h) (Or.inl ⟨by rfl, ?_⟩) (by assumption) ?_
  rotate_left
  focus ((intro w hSw; (try dsimp only at hSw); go_simp); try (with_reducible rfl))
  try simp only [Act.put, List.setIfInBounds_toArray, List.set_cons_zero, List.set_cons_succ]
  refine wpAnyH_take (i := 7) (oi := ⟨some 94, _, _, _, _, _⟩) (v := ?_) rfl (by kernel_rfl) (by kernel_rfl) (by kernel_rfl) (fun _ _ _ h => h) (Or.inl ⟨by rfl, ?_⟩) (by assumption) ?_
  rotate_left
  focus ((intro w hSw; (try dsimp only at hSw); go_simp); try (with_reducible rfl))
  try simp only [Act.put, List.setIfInBounds_toArray, List.set_cons_zero, List.set_cons_succ]
  refine wpAnyH_take (i := 8) (oi := ⟨some 95, _, _, _, _, _⟩) (v := ?_) rfl (by kernel_rfl) (by kernel_rfl) (by kernel_rfl) (fun _ _ _ h => h) (Or.inl ⟨by rfl, ?_⟩) (by assumption) ?_
  rotate_left
  focus ((intro w hSw; (try dsimp only at hSw); go_simp); try (with_reducible rfl))
  try simp only [Act.put, List.setIfInBounds_toArray, List.set_cons_zero, List.set_cons_succ]
  refine wpAnyH_take (i := 9) (oi := ⟨some 96, _, _, _, _, _⟩) (v := ?_) rfl (by kernel_rfl) (by kernel_rfl) (by kernel_rfl) (fun _ _ _ h => h) (Or.inl ⟨by rfl, ?_⟩) (by assumption) ?_
  rotate_left
  focus ((intro w hSw; (try dsimp only at hSw); go_simp); try (with_reducible rfl))
  try simp only [Act.put, List.setIfInBounds_toArray, List.set_cons_zero, List.set_cons_succ]
  refine wpAnyH_take (i := 11) (oi := ⟨some 98, _, _, _, _, _⟩) (v := ?_) rfl (by kernel_rfl) (by kernel_rfl) (by kernel_rfl) (fun _ _ _ h => h) (Or.inl ⟨by rfl, ?_⟩) (by assumption) ?_
  rotate_left
  focus ((intro w hSw; (try dsimp only at hSw); go_simp); try (with_reducible rfl))
  try simp only [Act.put, List.setIfInBounds_toArray, List.set_cons_zero, List.set_cons_succ]
  refine wpAnyH_ready (rs := [10]) (by kernel_rfl) (by simp) ?_
  refine AllReadyH.cons (o := ⟨some 97, _, _, _, _, _⟩) rfl (fun K hK => ?_) AllReadyH.nil
  go_simp
  go_at_call 12; (first | refine (COF.out _ _ _ _ HVA.out q0 (by have := HLN.out; omega)).mono ?_ | refine (COF.out _ _ _ _ HVA.out q0.drew (by have := HLN.out; omega)).mono ?_); rintro e w97 ⟨v97, rfl, hS10, hown97⟩; have HW97 := Lib.hid (own_slv hown97); clear hown97; have q0 := Only.then (by first | exact q0 | exact q0.drew) hS10; clear hS10
  refine hK.out _ _ ?_ (fun hHeld => ?_)
  focus ((try dsimp only); all_goals trivial)
  clear hK K
  try simp only [Act.put, List.setIfInBounds_toArray, List.set_cons_zero, List.set_cons_succ]
  refine wpAnyH_ready (rs := [12]) (by kernel_rfl) (by simp) ?_
  refine AllReadyH.cons (o := ⟨some 99, _, _, _, _, _⟩) rfl (fun K hK => ?_) AllReadyH.nil
  go_simp
  go_at_call 12; (first | refine (COF.out _ _ _ _ HVB.out q0 (by have := HLN.out; omega)).mono ?_ | refine (COF.out _ _ _ _ HVB.out q0.drew (by have := HLN.out; omega)).mono ?_); rintro e w99 ⟨v99, rfl, hS10, hown99⟩; have HW99 := Lib.hid (own_slv hown99); clear hown99; have HQ99 : Hid (Same w97 w99) := Lib.hid (by first | exact hS10 | exact Only.trans (Only.refl (fun _ => False) _).drew hS10 (fun _ _ h => h)); have q0 := Only.then (by first | exact q0 | exact q0.drew) hS10; clear hS10
  refine hK.out _ _ ?_ (fun hHeld => ?_)
  focus ((try dsimp only); all_goals trivial)
  clear hK K
  try simp only [Act.put, List.setIfInBounds_toArray, List.set_cons_zero, List.set_cons_succ]
  refine wpAnyH_ready (rs := [13]) (by kernel_rfl) (by simp) ?_
  refine AllReadyH.cons (o := ⟨some 100, _, _, _, _, _⟩) rfl (fun K hK => ?_) AllReadyH.nil
  go_simp
  go_at_call 11; (first | refine (rsame08_any _ _ _ _ _ (HW97.out.same HQ99.out) HW99.out).mono ?_ | refine (rsame08_any _ _ _ _ _ (HW97.out.same (HQ99.out.then (Only.refl (fun _ => False) _).drew)) (HW99.out.same (Only.refl (fun _ => False) _).drew)).mono ?_); rw [show decide (_ = _) = true from decide_eq_true rfl]; rintro e w100 ⟨rfl, hS10⟩; have q0 := Only.then (by first | exact q0 | exact q0.drew) hS10; clear hS10
  refine hK.out _ _ ?_ (fun hHeld => ?_)
  focus ((try dsimp only); all_goals trivial)
  clear hK K
  try simp only [Act.put, List.setIfInBounds_toArray, List.set_cons_zero, List.set_cons_succ]
  refine wpAnyH_take (i := 14) (oi := ⟨some 101, _, _, _, _, _⟩) (v := ?_) rfl (by kernel_rfl) (by kernel_rfl) (by kernel_rfl) (fun _ _ _ h => h) (Or.inl ⟨by rfl, ?_⟩) (by assumption) ?_
  rotate_left
  focus ((intro w hSw; (try dsimp only at hSw); go_simp); try (with_reducible rfl))
  try simp only [Act.put, List.setIfInBounds_toArray, List.set_cons_zero, List.set_cons_succ]
  refine wpAnyH_take (i := 15) (oi := ⟨some 102, _, _, _, _, _⟩) (v := ?_) rfl (by kernel_rfl) (by kernel_rfl) (by kernel_rfl) (fun _ _ _ h => h) (Or.inl ⟨by rfl, ?_⟩) (by assumption) ?_
  rotate_left
  focus ((intro w hSw; (try dsimp only at hSw); go_simp); try (with_reducible rfl))
  try simp only [Act.put, List.setIfInBounds_toArray, List.set_cons_zero, List.set_cons_succ]
  refine wpAnyH_take (i := 16) (oi := ⟨some 103, _, _, _, _, _⟩) (v := ?_) rfl (by kernel_rfl) (by kernel_rfl) (by kernel_rfl) (fun _ _ _ h => h) (Or.inl ⟨by rfl, ?_⟩) (by assumption) ?_
  rotate_left
  focus ((intro w hSw; (try dsimp only at hSw); go_simp); try (with_reducible rfl))
  try simp only [Act.put, List.setIfInBounds_toArray, List.set_cons_zero, List.set_cons_succ]
  refine wpAnyH_take (i := 17) (oi := ⟨some 104, _, _, _, _, _⟩) (v := ?_) rfl (by kernel_rfl) (by kernel_rfl) (by kernel_rfl) (fun _ _ _ h => h) (Or.inl ⟨by rfl, ?_⟩) (by assumption) ?_
  rotate_left
  focus ((intro w hSw; (try dsimp only at hSw); go_simp); try (with_reducible rfl))
  try simp only [Act.put, List.setIfInBounds_toArray, List.set_cons_zero, List.set_cons_succ]
  refine wpAnyH_take (i := 18) (oi := ⟨some 105, _, _, _, _, _⟩) (v := ?_) rfl (by kernel_rfl) (by kernel_rfl) (by kernel_rfl) (fun _ _ _ h => h) (Or.inl ⟨by rfl, ?_⟩) (by assumption) ?_
  rotate_left
  focus ((intro w hSw; (try dsimp only at hSw); go_simp); try (with_reducible rfl))
  try simp only [Act.put, List.setIfInBounds_toArray, List.set_cons_zero, List.set_cons_succ]
  refine wpAnyH_take (i := 19) (oi := ⟨some 106, _, _, _, _, _⟩) (v := ?_) rfl (by kernel_rfl) (by kernel_rfl) (by kernel_rfl) (fun _ _ _ h => h) (Or.inl ⟨by rfl, ?_⟩) (by assumption) ?_
  rotate_left
  focus ((intro w hSw; (try dsimp only at hSw); go_simp); try (with_reducible rfl))
  try simp only [Act.put, List.setIfInBounds_toArray, List.set_cons_zero, List.set_cons_succ]
  refine wpAnyH_take (i := 20) (oi := ⟨some 107, _, _, _, _, _⟩) (v := ?_) rfl (by kernel_rfl) (by kernel_rfl) (by kernel_rfl) (fun _ _ _ h => h) (Or.inl ⟨by rfl, ?_⟩) (by assumption) ?_
  rotate_left
  focus ((intro w hSw; (try dsimp only at hSw); go_simp); try (with_reducible rfl))
  try simp only [Act.put, List.setIfInBounds_toArray, List.set_cons_zero, List.set_cons_succ]
  refine wpAnyH_take (i := 21) (oi := ⟨some 108, _, _, _, _, _⟩) (v := ?_) rfl (by kernel_rfl) (by kernel_rfl) (by kernel_rfl) (fun _ _ _ h => h) (Or.inl ⟨by rfl, ?_⟩) (by assumption) ?_
  rotate_left
  focus ((intro w hSw; (try dsimp only at hSw); go_simp); try (with_reducible rfl))
  try simp only [Act.put, List.setIfInBounds_toArray, List.set_cons_zero, List.set_cons_succ]
  refine wpAnyH_take (i := 22) (oi := ⟨some 109, _, _, _, _, _⟩) (v := ?_) rfl (by kernel_rfl) (by kernel_rfl) (by kernel_rfl) (fun _ _ _ h => h) (Or.inl ⟨by rfl, ?_⟩) (by assumption) ?_
  rotate_left
  focus ((intro w hSw; (try dsimp only at hSw); go_simp); try (with_reducible rfl))
  try simp only [Act.put, List.setIfInBounds_toArray, List.set_cons_zero, List.set_cons_succ]
  refine wpAnyH_take (i := 24) (oi := ⟨some 111, _, _, _, _, _⟩) (v := ?_) rfl (by kernel_rfl) (by kernel_rfl) (by kernel_rfl) (fun _ _ _ h => h) (Or.inl ⟨by rfl, ?_⟩) (by assumption) ?_
  rotate_left
  focus ((intro w hSw; (try dsimp only at hSw); go_simp); try (with_reducible rfl))
  try simp only [Act.put, List.setIfInBounds_toArray, List.set_cons_zero, List.set_cons_succ]
  refine wpAnyH_ready (rs := [23]) (by kernel_rfl) (by simp) ?_
  refine AllReadyH.cons (o := ⟨some 110, _, _, _, _, _⟩) rfl (fun K hK => ?_) AllReadyH.nil
  go_simp
  go_at_call 12; (first | refine (COF.out _ _ _ _ HVU.out q0 (by have := HLN.out; omega)).mono ?_ | refine (COF.out _ _ _ _ HVU.out q0.drew (by have := HLN.out; omega)).mono ?_); rintro e w110 ⟨v110, rfl, hS10, hown110⟩; have HW110 := Lib.hid (own_slv hown110); clear hown110; have q0 := Only.then (by first | exact q0 | exact q0.drew) hS10; clear hS10
  refine hK.out _ _ ?_ (fun hHeld => ?_)
  focus ((try dsimp only); all_goals trivial)
  clear hK K
  try simp only [Act.put, List.setIfInBounds_toArray, List.set_cons_zero, List.set_cons_succ]
  refine wpAnyH_ready (rs := [25]) (by kernel_rfl) (by simp) ?_
  refine AllReadyH.cons (o := ⟨some 112, _, _, _, _, _⟩) rfl (fun K hK => ?_) AllReadyH.nil
  go_simp
  go_at_call 12; (first | refine (COF.out _ _ _ _ HVV.out q0 (by have := HLN.out; omega)).mono ?_ | refine (COF.out _ _ _ _ HVV.out q0.drew (by have := HLN.out; omega)).mono ?_); rintro e w112 ⟨v112, rfl, hS10, hown112⟩; have HW112 := Lib.hid (own_slv hown112); clear hown112; have HQ112 : Hid (Same w110 w112) := Lib.hid (by first | exact hS10 | exact Only.trans (Only.refl (fun _ => False) _).drew hS10 (fun _ _ h => h)); have q0 := Only.then (by first | exact q0 | exact q0.drew) hS10; clear hS10
  refine hK.out _ _ ?_ (fun hHeld => ?_)
  focus ((try dsimp only); all_goals trivial)
  clear hK K
  try simp only [Act.put, List.setIfInBounds_toArray, List.set_cons_zero, List.set_cons_succ]
  refine wpAnyH_ready (rs := [26]) (by kernel_rfl) (by simp) ?_
  refine AllReadyH.cons (o := ⟨some 113, _, _, _, _, _⟩) rfl (fun K hK => ?_) AllReadyH.nil
  go_simp
  go_at_call 11; (first | refine (rsame08_any _ _ _ _ _ (HW110.out.same HQ112.out) HW112.out).mono ?_ | refine (rsame08_any _ _ _ _ _ (HW110.out.same (HQ112.out.then (Only.refl (fun _ => False) _).drew)) (HW112.out.same (Only.refl (fun _ => False) _).drew)).mono ?_); rw [show decide (_ = _) = true from decide_eq_true rfl]; rintro e w113 ⟨rfl, hS10⟩; have q0 := Only.then (by first | exact q0 | exact q0.drew) hS10; clear hS10
  refine hK.out _ _ ?_ (fun hHeld => ?_)
  focus ((try dsimp only); all_goals trivial)
  clear hK K
  try simp only [Act.put, List.setIfInBounds_toArray, List.set_cons_zero, List.set_cons_succ]
  refine wpAnyH_take (i := 27) (oi := ⟨some 114, _, _, _, _, _⟩) (v := ?_) rfl (by kernel_rfl) (by kernel_rfl) (by kernel_rfl) (fun _ _ _ h => h) (Or.inl ⟨by rfl, ?_⟩) (by assumption) ?_
  rotate_left
  focus ((intro w hSw; (try dsimp only at hSw); go_simp); try (with_reducible rfl))
  try simp only [Act.put, List.setIfInBounds_toArray, List.set_cons_zero, List.set_cons_succ]
  refine wpAnyH_take (i := 28) (oi := ⟨some 115, _, _, _, _, _⟩) (v := ?_) rfl (by kernel_rfl) (by kernel_rfl) (by kernel_rfl) (fun _ _ _ h => h) (Or.inl ⟨by rfl, ?_⟩) (by assumption) ?_
  rotate_left
  focus ((intro w hSw; (try dsimp only at hSw); go_simp); try (with_reducible rfl))
  try simp only [Act.put, List.setIfInBounds_toArray, List.set_cons_zero, List.set_cons_succ]
  refine wpAnyH_take (i := 29) (oi := ⟨some 116, _, _, _, _, _⟩) (v := ?_) rfl (by kernel_rfl) (by kernel_rfl) (by kernel_rfl) (fun _ _ _ h => h) (Or.inl ⟨by rfl, ?_⟩) (by assumption) ?_
  rotate_left
  focus ((intro w hSw; (try dsimp only at hSw); go_simp); try (with_reducible rfl))
  try simp only [Act.put, List.setIfInBounds_toArray, List.set_cons_zero, List.set_cons_succ]
  refine wpAnyH_take (i := 30) (oi := ⟨some 117, _, _, _, _, _⟩) (v := ?_) rfl (by kernel_rfl) (by kernel_rfl) (by kernel_rfl) (fun _ _ _ h => h) (Or.inl ⟨by rfl, ?_⟩) (by assumption) ?_
  rotate_left
  focus ((intro w hSw; (try dsimp only at hSw); go_simp); try (with_reducible rfl))
  try simp only [Act.put, List.setIfInBounds_toArray, List.set_cons_zero, List.set_cons_succ]
  refine wpAnyH_take (i := 31) (oi := ⟨some 118, _, _, _, _, _⟩) (v := ?_) rfl (by kernel_rfl) (by kernel_rfl) (by kernel_rfl) (fun _ _ _ h => h) (Or.inl ⟨by rfl, ?_⟩) (by assumption) ?_
  rotate_left
  focus ((intro w hSw; (try dsimp only at hSw); go_simp); try (with_reducible rfl))
  try simp only [Act.put, List.setIfInBounds_toArray, List.set_cons_zero, List.set_cons_succ]
  refine wpAnyH_take (i := 32) (oi := ⟨some 119, _, _, _, _, _⟩) (v := ?_) rfl (by kernel_rfl) (by kernel_rfl) (by kernel_rfl) (fun _ _ _ h => h) (Or.inl ⟨by rfl, ?_⟩) (by assumption) ?_
  rotate_left
  focus ((intro w hSw; (try dsimp only at hSw); go_simp); try (with_reducible rfl))
  try simp only [Act.put, List.setIfInBounds_toArray, List.set_cons_zero, List.set_cons_succ]
  refine wpAnyH_take (i := 33) (oi := ⟨some 120, _, _, _, _, _⟩) (v := ?_) rfl (by kernel_rfl) (by kernel_rfl) (by kernel_rfl) (fun _ _ _ h => h) (Or.inl ⟨by rfl, ?_⟩) (by assumption) ?_
  rotate_left
  focus ((intro w hSw; (try dsimp only at hSw); go_simp); try (with_reducible rfl))
  try simp only [Act.put, List.setIfInBounds_toArray, List.set_cons_zero, List.set_cons_succ]
  refine wpAnyH_take (i := 34) (oi := ⟨some 121, _, _, _, _, _⟩) (v := ?_) rfl (by kernel_rfl) (by kernel_rfl) (by kernel_rfl) (fun _ _ _ h => h) (Or.inl ⟨by rfl, ?_⟩) (by assumption) ?_
  rotate_left
  focus ((intro w hSw; (try dsimp only at hSw); go_simp); try (with_reducible rfl))
  try simp only [Act.put, List.setIfInBounds_toArray, List.set_cons_zero, List.set_cons_succ]
  refine wpAnyH_take (i := 35) (oi := ⟨some 122, _, _, _, _, _⟩) (v := ?_) rfl (by kernel_rfl) (by kernel_rfl) (by kernel_rfl) (fun _ _ _ h => h) (Or.inl ⟨by rfl, ?_⟩) (by assumption) ?_
  rotate_left
  focus ((intro w hSw; (try dsimp only at hSw); go_simp); try (with_reducible rfl))
  try simp only [Act.put, List.setIfInBounds_toArray, List.set_cons_zero, List.set_cons_succ]
  refine wpAnyH_take (i := 36) (oi := ⟨some 123, _, _, _, _, _⟩) (v := ?_) rfl (by kernel_rfl) (by kernel_rfl) (by kernel_rfl) (fun _ _ _ h => h) (Or.inl ⟨by rfl, ?_⟩) (by assumption) ?_
  rotate_left
  focus ((intro w hSw; (try dsimp only at hSw); go_simp); try (with_reducible rfl))
  try simp only [Act.put, List.setIfInBounds_toArray, List.set_cons_zero, List.set_cons_succ]
  refine wpAnyH_take (i := 37) (oi := ⟨some 124, _, _, _, _, _⟩) (v := ?_) rfl (by kernel_rfl) (by kernel_rfl) (by kernel_rfl) (fun _ _ _ h => h) (Or.inl ⟨by rfl, ?_⟩) (by assumption) ?_
  rotate_left
  focus ((intro w hSw; (try dsimp only at hSw); go_simp); try (with_reducible rfl))
  try simp only [Act.put, List.setIfInBounds_toArray, List.set_cons_zero, List.set_cons_succ]
  refine wpAnyH_take (i := 39) (oi := ⟨some 126, _, _, _, _, _⟩) (v := ?_) rfl (by kernel_rfl) (by kernel_rfl) (by kernel_rfl) (fun _ _ _ h => h) (Or.inl ⟨by rfl, ?_⟩) (by assumption) ?_
  rotate_left
  focus ((intro w hSw; (try dsimp only at hSw); go_simp); try (with_reducible rfl))
  try simp only [Act.put, List.setIfInBounds_toArray, List.set_cons_zero, List.set_cons_succ]
  refine wpAnyH_take (i := 40) (oi := ⟨some 127, _, _, _, _, _⟩) (v := ?_) rfl (by kernel_rfl) (by kernel_rfl) (by kernel_rfl) (fun _ _ _ h => h) (Or.inl ⟨by rfl, ?_⟩) (by assumption) ?_
  rotate_left
  focus ((intro w hSw; (try dsimp only at hSw); go_simp); try (with_reducible rfl))
  try simp only [Act.put, List.setIfInBounds_toArray, List.set_cons_zero, List.set_cons_succ]
  refine wpAnyH_take (i := 41) (oi := ⟨some 128, _, _, _, _, _⟩) (v := ?_) rfl (by kernel_rfl) (by kernel_rfl) (by kernel_rfl) (fun _ _ _ h => h) (Or.inl ⟨by rfl, ?_⟩) (by assumption) ?_
  rotate_left
  focus ((intro w hSw; (try dsimp only at hSw); go_simp); try (with_reducible rfl))
  try simp only [Act.put, List.setIfInBounds_toArray, List.set_cons_zero, List.set_cons_succ]
  refine wpAnyH_take (i := 42) (oi := ⟨some 129, _, _, _, _, _⟩) (v := ?_) rfl (by kernel_rfl) (by kernel_rfl) (by kernel_rfl) (fun _ _ _ h => h) (Or.inl ⟨by rfl, ?_⟩) (by assumption) ?_
  rotate_left
  focus ((intro w hSw; (try dsimp only at hSw); go_simp); try (with_reducible rfl))
  try simp only [Act.put, List.setIfInBounds_toArray, List.set_cons_zero, List.set_cons_succ]
  refine wpAnyH_ready (rs := [38]) (by kernel_rfl) (by simp) ?_
  refine AllReadyH.cons (o := ⟨some 125, _, _, _, _, _⟩) rfl (fun K hK => ?_) AllReadyH.nil
  go_simp
  go_at_call 12; (first | refine (COF.out _ _ _ _ HVA.out q0 (by have := HLN.out; omega)).mono ?_ | refine (COF.out _ _ _ _ HVA.out q0.drew (by have := HLN.out; omega)).mono ?_); rintro e w125 ⟨v125, rfl, hS10, hown125⟩; have HW125 := Lib.hid (own_slv hown125); clear hown125; have q0 := Only.then (by first | exact q0 | exact q0.drew) hS10; clear hS10
  refine hK.out _ _ ?_ (fun hHeld => ?_)
  focus ((try dsimp only); all_goals trivial)
  clear hK K
  try simp only [Act.put, List.setIfInBounds_toArray, List.set_cons_zero, List.set_cons_succ]
  refine wpAnyH_ready (rs := [43]) (by kernel_rfl) (by simp) ?_
  refine AllReadyH.cons (o := ⟨some 130, _, _, _, _, _⟩) rfl (fun K hK => ?_) AllReadyH.nil
  go_simp
  go_at_call 12; (first | refine (COF.out _ _ _ _ HLW.out q0 (by have := HLN.out; omega)).mono ?_ | refine (COF.out _ _ _ _ HLW.out q0.drew (by have := HLN.out; omega)).mono ?_); rintro e w130 ⟨v130, rfl, hS10, hown130⟩; have HW130 := Lib.hid (own_slv hown130); clear hown130; have HQ130 : Hid (Same w125 w130) := Lib.hid (by first | exact hS10 | exact Only.trans (Only.refl (fun _ => False) _).drew hS10 (fun _ _ h => h)); have q0 := Only.then (by first | exact q0 | exact q0.drew) hS10; clear hS10
  refine hK.out _ _ ?_ (fun hHeld => ?_)
  focus ((try dsimp only); all_goals trivial)
  clear hK K
  try simp only [Act.put, List.setIfInBounds_toArray, List.set_cons_zero, List.set_cons_succ]
  refine wpAnyH_ready (rs := [44]) (by kernel_rfl) (by simp) ?_
  refine AllReadyH.cons (o := ⟨some 131, _, _, _, _, _⟩) rfl (fun K hK => ?_) AllReadyH.nil
  go_simp
  go_at_call 11; (first | refine (rsame08_any _ _ _ _ _ (HW125.out.same HQ130.out) HW130.out).mono ?_ | refine (rsame08_any _ _ _ _ _ (HW125.out.same (HQ130.out.then (Only.refl (fun _ => False) _).drew)) (HW130.out.same (Only.refl (fun _ => False) _).drew)).mono ?_); rw [show decide (_ = _) = true from decide_eq_true rfl]; rintro e w131 ⟨rfl, hS10⟩; have q0 := Only.then (by first | exact q0 | exact q0.drew) hS10; clear hS10
  refine hK.out _ _ ?_ (fun hHeld => ?_)
  focus ((try dsimp only); all_goals trivial)
  clear hK K
  try simp only [Act.put, List.setIfInBounds_toArray, List.set_cons_zero, List.set_cons_succ]
  refine wpAnyH_take (i := 45) (oi := ⟨some 132, _, _, _, _, _⟩) (v := ?_) rfl (by kernel_rfl) (by kernel_rfl) (by kernel_rfl) (fun _ _ _ h => h) (Or.inl ⟨by rfl, ?_⟩) (by assumption) ?_
  rotate_left
  focus ((intro w hSw; (try dsimp only at hSw); go_simp); try (with_reducible rfl))
  try simp only [Act.put, List.setIfInBounds_toArray, List.set_cons_zero, List.set_cons_succ]
  refine wpAnyH_take (i := 46) (oi := ⟨some 133, _, _, _, _, _⟩) (v := ?_) rfl (by kernel_rfl) (by kernel_rfl) (by kernel_rfl) (fun _ _ _ h => h) (Or.inl ⟨by rfl, ?_⟩) (by assumption) ?_
  rotate_left
  focus ((intro w hSw; (try dsimp only at hSw); go_simp); try (with_reducible rfl))
  try simp only [Act.put, List.setIfInBounds_toArray, List.set_cons_zero, List.set_cons_succ]
  refine wpAnyH_done (by kernel_rfl) ?_ _
  obtain ⟨w7, hw7, hS7⟩ : ∃ w7, w7 = _ ∧ Same w6 w7 := ⟨_, rfl, by first | exact q0 | exact q0.drew⟩
  rw [← hw7]
  have HS7 := Lib.hid (HS6.out.then hS7)
  clear hw7 hS7 q0 COF HLW hqq hrr hll
  obtain ⟨j, hj⟩ : ∃ j, j = askedF x [] (okC c) k := ⟨_, rfl⟩
  rw [← hj] at CJ
  have HJ := Lib.hid hj
  clear hj
  go_wp2_with fail
  refine (CJ.out _ HS7.out).mono ?_
  rintro e w8 ⟨vw, lw, rfl, hS8, hown, hfw⟩
  have HS8 := Lib.hid (HS7.out.then hS8); have HVW := Lib.hid (own_slv hown); have HFW := Lib.hid hfw
  clear hS8 hown hfw CJ
  obtain ⟨aw, cw, rfl, hcw, hmw⟩ := HVW.out.lit
  unfold maxLen at hmw
  by_cases hj0 : j = 0
  rotate_left
  · have hjn : (j != 0) = true := by simpa using hj0
    have hl0 : lw = [] := HFW.out.2 hj0
    subst hl0
    clear hj0
    go_wp2_with fail
    go_ret
    exact ⟨rfl, HS8.out⟩
  have hjn : (j != 0) = false := by simpa using hj0
  obtain ⟨hc, hx0, hlw, hel⟩ := fuR_alone HFW.out hj0 HJ.out.symm
  have HEL := Lib.hid hel; have HC := Lib.hid hc; have HLWL := Lib.hid hlw
  have hlwx : lw.length ≤ x.length := by omega
  have HLWX := Lib.hid hlwx
  clear hj0 hel hc hx0 hlw hlwx
  go_wp2_with fail
  go_loopw [25] (fun i wr => ∃ r : Nat, r ≤ lw.length ∧ i = .int .i64 r ∧ Same w8 wr) (fun i _ => lw.length - (intOf i).toNat)
  case atStart => exact ⟨0, by omega, rfl, Only.refl _ _⟩
  case round =>
    obtain ⟨p, hp, rfl, hS⟩ := hrel
    have HS := Lib.hid hS
    clear hS
    by_cases hlt : p < lw.length
    · have hpx : p < x.length := by have := HLWX.out; omega
      obtain ⟨b1, o1, rfl, hc1⟩ := HVW.out.spot (by omega)
      obtain ⟨b2, o2, rfl, hc2⟩ := HX.out.spot (by omega)
      obtain ⟨k0, k1, k2⟩ := hc1 p hlt
      have k0 := HS.out.cell_eq k0 (fun h => h)
      have k1 := HS.out.cell_eq k1 (fun h => h)
      have k2 := HS.out.cell_eq k2 (fun h => h)
      have k3 := (HS8.out.then HS.out).cell_eq (hc2 p hpx).1 (fun h => h)
      obtain ⟨e1, e2, e3⟩ := HEL.out p hlt hpx
      rw [e1] at k0
      rw [e2] at k1
      rw [e3] at k2
      generalize x[p].1 = d at *
      have hd9 : decide (p < lw.length) = true := decide_eq_true hlt
      have hcc := HC.out; have hlb := HL.out
      have hw6 : IntKind.i64.wrap ((p : Int) + 1) = (p : Int) + 1 := by rw [IntKind.wrap_i64]; omega
      have hw7 : IntKind.i64.wrap (c + (p : Int)) = c + (p : Int) := by rw [IntKind.wrap_i64]; omega
      have hw8 : IntKind.i64.wrap (c + (p : Int) + 1) = c + (p : Int) + 1 := by rw [IntKind.wrap_i64]; omega
      clear hc1 hc2 e1 e2 e3 hcc hlb
      go_upto_region 18 with fail
      go_quiet (fail)
      rename_i nq
      go_wp2_with fail
      go_roundw
      case rel => exact ⟨p + 1, by omega, by go_num, HS.out.drewN nq⟩
      case measure => simp [intOf]; omega
    · obtain rfl : p = lw.length := by omega
      have hd9 : decide (lw.length < lw.length) = false := by simp
      have hlk := HL.out
      have hmn : min k (x.length : Int) = (lw.length : Int) := by have := HLWL.out; omega
      clear hlt
      go_wp2_with fail
      go_ret
      exact ⟨rfl, HS8.out.then HS.out⟩
end Go.Proofs.Ytpgbnjneoejebaa
