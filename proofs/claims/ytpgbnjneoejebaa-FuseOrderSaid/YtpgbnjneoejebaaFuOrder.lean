import Derived.Test.YtpgbnjneoejebaaFuTurnP
set_option linter.unusedVariables false
set_option linter.unusedSimpArgs false
namespace Go.Proofs.Ytpgbnjneoejebaa
open Go.RowKit
attribute [local go_sem ↓] Go.wp_at_zero Go.wp_at_succ

def docsV (l : List VP) : List Int := l.map (·.1)
theorem docsV_take (l : List VP) (r : Nat) (h : r < l.length) : docsV (l.take (r + 1)) = docsV (l.take r) ++ [l[r].1] := by
  unfold docsV
  rw [take_snocI l r h, List.map_append]; rfl
theorem docsV_in (l : List VP) (i : Nat) (h : i < l.length) : l[i].1 ∈ docsV l := List.mem_map.2 ⟨_, List.getElem_mem h, rfl⟩
theorem docsV_fresh {l : List VP} {r : Nat} (h : r < l.length) (hs : ∀ i (hi : i < r), (l[i]'(by omega)).1 ≠ l[r].1) : l[r].1 ∉ docsV (l.take r) := by
  intro hm
  unfold docsV at hm
  obtain ⟨p, hp, e⟩ := List.mem_map.1 hm
  obtain ⟨i, hi, rfl⟩ := List.mem_iff_getElem.1 hp
  rw [List.length_take] at hi
  rw [List.getElem_take] at e
  exact hs i (by omega) e
/-- The whole of what is fused, where there is room. -/
theorem fu_all {x y : List (Int × Int)} {B C : Nat → Int → QV} {F : EnI QV} (hF : FuI x y B C F) (hx : x.length ≤ 60) (hy : y.length ≤ 60) : ∀ d, d ∈ docsF x ∨ d ∈ docsF y → d ∈ docsV (bestG 1000 F) := by
  intro d hd
  have hl := hF.2.1
  have hb : bestG 1000 F = sortG F := by unfold bestG; exact List.take_of_length_le (by rw [sortG_len]; omega)
  have hg : ∃ q, getI F d = some q := by
    rcases fu_cases x y d with ⟨i, j, hi, hj, e1, e2⟩ | ⟨i, hi, e, hn⟩ | ⟨j, hj, e, hn⟩ | ⟨h1, h2⟩
    · exact ⟨_, by rw [← e1]; exact fu_both hF i j hi hj (e1.trans e2.symm)⟩
    · exact ⟨_, by rw [← e]; exact fu_left hF i hi (by rw [e]; exact hn)⟩
    · exact ⟨_, by rw [← e]; exact fu_right hF j hj (by rw [e]; exact hn)⟩
    · rcases hd with h | h
      · exact absurd h h1
      · exact absurd h h2
  obtain ⟨q, hq⟩ := hg
  rw [hb]
  exact List.mem_map.2 ⟨(d, q), (sortG_perm F).mem_iff.2 ((getI_iff hF.1).1 hq), rfl⟩
theorem fu_doc {x y : List (Int × Int)} {B C : Nat → Int → QV} {F : EnI QV} (hF : FuI x y B C F) {p : VP} (hp : p ∈ F) : p.1 ∈ docsF x ∨ p.1 ∈ docsF y := by
  have hg := (getI_iff hF.1).2 (show (p.1, p.2) ∈ F from hp)
  rcases fu_cases x y p.1 with ⟨i, j, hi, hj, e1, e2⟩ | ⟨i, hi, e, hn⟩ | ⟨j, hj, e, hn⟩ | ⟨h1, h2⟩
  · exact .inl (by rw [← e1]; exact fdocs_in x i hi)
  · exact .inl (by rw [← e]; exact fdocs_in x i hi)
  · exact .inr (by rw [← e]; exact fdocs_in y j hj)
  · rw [fu_none hF _ h1 h2] at hg; cases hg
theorem docs_i64 {x : List (Int × Int)} (h : I64L x) {d : Int} (hd : d ∈ docsF x) : -9223372036854775808 ≤ d ∧ d ≤ 9223372036854775807 := by
  obtain ⟨i, hi, rfl⟩ := fdocs_at hd
  exact h _ (List.getElem_mem hi)
set_option maxRecDepth 100000 in
set_option maxHeartbeats 32000000 in
theorem fuseOrder_walk (v0 v1 : Value) (x y : List (Int × Int)) (c : Int) (w : World) (h0 : SlP w v0 x) (h1 : SlP w v1 y) (ix : I64L x) (iy : I64L y) :
    Calls Try.prog 4 #[v0, v1, .int .i64 c] w fun e w' => e = .returned (.bool true) ∧ Same w w' := by
  have HX := Lib.hid h0; have HY := Lib.hid h1; have HIX := Lib.hid ix; have HIY := Lib.hid iy
  obtain ⟨ax, cx, rfl, hcx, hmx⟩ := h0.lit
  obtain ⟨ay, cy, rfl, hcy, hmy⟩ := h1.lit
  unfold maxLen at hmx hmy
  clear h0 h1 ix iy
  go_enter Try.func4, Try.ntmps4
  go_wp2_with fail
  refine (fawake_any _).mono ?_
  rintro e w1 ⟨rfl, hS1⟩
  have HS1 := Lib.hid hS1
  clear hS1
  by_cases hl1 : 60 < x.length
  · have hd1 : decide ((60 : Int) < (x.length : Int)) = true := decide_eq_true (by omega)
    go_wp2_with fail
    go_ret
    exact ⟨rfl, HS1.out⟩
  have hd1 : decide ((60 : Int) < (x.length : Int)) = false := decide_eq_false (by omega)
  by_cases hl2 : 60 < y.length
  · have hd2 : decide ((60 : Int) < (y.length : Int)) = true := decide_eq_true (by omega)
    go_wp2_with fail
    go_ret
    exact ⟨rfl, HS1.out⟩
  have hd2 : decide ((60 : Int) < (y.length : Int)) = false := decide_eq_false (by omega)
  obtain ⟨q, hq⟩ : ∃ q, q = askedF x y (okC c) 1000 := ⟨_, rfl⟩
  have HQ := Lib.hid hq
  have HL : Hid (x.length ≤ 60 ∧ y.length ≤ 60) := Lib.hid ⟨by omega, by omega⟩
  have CA := Lib.hid (fun w0 (h : Same w w0) => ranks_any _ _ x y c 1000 w0 (HX.out.same h) (HY.out.same h) HIX.out HIY.out)
  rw [← hq] at CA
  clear hq hl1 hl2
  go_wp2_with fail
  refine (CA.out _ HS1.out).mono ?_
  rintro e w2 ⟨vl, l, rfl, hS2, hown, hfl⟩
  have HS2 := Lib.hid (HS1.out.then hS2); have HVL := Lib.hid (own_slv hown); have HFL := Lib.hid hfl
  clear hS2 hown hfl CA
  obtain ⟨al, cl, rfl, hcl, hml⟩ := HVL.out.lit
  unfold maxLen at hml
  by_cases hq0 : q = 0
  rotate_left
  · have hqn : (q != 0) = true := by simpa using hq0
    have hl0 : l = [] := HFL.out.2 hq0
    subst hl0
    clear hq0
    go_wp2_with fail
    go_ret
    exact ⟨rfl, HS2.out⟩
  have hqn : (q != 0) = false := by simpa using hq0
  obtain ⟨F, hF, hlF⟩ := HFL.out.1 hq0
  obtain ⟨rx, ry, rok, _, _⟩ := asked_zero.1 (HQ.out.symm.trans hq0)
  have hc : 1 ≤ c ∧ c ≤ 1000000 := by unfold okC at rok; simp at rok; exact rok
  have hll : l.length ≤ 120 := by have := bestG_len 1000 F; have := hF.2.1; have := HL.out; rw [hlF]; omega
  have hsum : l.length ≤ x.length + y.length := by have := bestG_len 1000 F; have := hF.2.1; rw [hlF]; omega
  have HLL := Lib.hid hll; have HSUM := Lib.hid hsum
  have HST : Hid (∀ i j (hi : i < j) (hj : j < l.length), Bet.bet (l[i]'(by omega)) l[j] = true ∧ (l[i]'(by omega)).1 ≠ l[j].1) := Lib.hid (by subst hlF; exact fun i j hi hj => best_strict hF.1 i j hi hj)
  have HALL : Hid (∀ d, d ∈ docsF x ∨ d ∈ docsF y → d ∈ docsV l) := Lib.hid (by subst hlF; exact fu_all hF HL.out.1 HL.out.2)
  have HRG : Hid (∀ r (h : r < l.length), -9223372036854775808 ≤ l[r].1 ∧ l[r].1 ≤ 9223372036854775807) := Lib.hid (by
    subst hlF
    intro r h
    have hm : (bestG 1000 F)[r] ∈ F := (sortG_perm F).mem_iff.1 ((List.take_sublist _ _).mem (List.getElem_mem h))
    rcases fu_doc hF hm with h1 | h1
    · exact docs_i64 HIX.out h1
    · exact docs_i64 HIY.out h1)
  have HFST : Hid (∀ (g0 : 0 < x.length) (g1 : 0 < y.length), x[0].1 = y[0].1 → ∀ g2 : 0 < l.length, l[0].1 = x[0].1) := Lib.hid (by subst hlF; exact fun g0 g1 e g2 => both_first hF rx.1 ry.1 hc (by have := HL.out; omega) (by have := HL.out; omega) g0 g1 e g2)
  clear hq0 hlF hF rx ry rok hc HFL HQ hll hsum
  have hmm := @run_makeMap Try.prog
  have hmp := MpJ.made Value.bool Try.prog 3 w2
  have hS3 : Same w2 (w2.alloc (.map #[] 0)) := (Only.refl _ w2).alloc _
  obtain ⟨m, hm⟩ : ∃ m, m = w2.heap.size := ⟨_, rfl⟩
  have HMW : Hid (w2.heap.size ≤ m) := Lib.hid (by omega)
  have HS3 := Lib.hid hS3
  rw [← hm] at hmp
  go_upto_region 9 with fail
  rw [← hm]
  generalize w2.alloc (.map #[] 0) = wm at *
  have HM := Lib.hid hmp
  clear hmp hmm hm hS3
  go_wp2_with fail
  go_loopw [10] (fun i wr => ∃ (r : Nat) (G : EnI Bool), r ≤ l.length ∧ i = .int .i64 r ∧ Same w2 wr ∧ MpJ Value.bool Try.prog 3 wr m G ∧ (∀ d, getI G d = if d ∈ docsV (l.take r) then some true else none) ∧ G.length ≤ r) (fun i _ => l.length - (intOf i).toNat)
  case atStart => exact ⟨0, [], by omega, rfl, HS3.out, HM.out, fun d => by simp [getI, docsV], by simp⟩
  case round =>
    obtain ⟨r, G, hr, rfl, hS, hM, hG, hGl⟩ := hrel
    clear HS3 HM
    have HS := Lib.hid hS; have HM := Lib.hid hM; have HG := Lib.hid hG; have HGL := Lib.hid hGl
    clear hS hM hG hGl
    obtain ⟨w3, hw3⟩ : ∃ x, x = wr := ⟨_, rfl⟩
    subst hw3
    by_cases hlt : r < l.length
    · obtain ⟨b1, o1, rfl, hcell⟩ := HVL.out.spot (by omega)
      have hSw : Same w2 w3 := HS.out
      obtain ⟨k0, k1, k2⟩ := hcell r hlt
      have k0 := hSw.cell_eq k0 (fun h => h)
      have k1 := hSw.cell_eq k1 (fun h => h)
      have k2 := hSw.cell_eq k2 (fun h => h)
      have hdt := docsV_take l r hlt
      have hfr := docsV_fresh hlt (fun i hi => (HST.out i r hi hlt).2)
      have hi := HRG.out r hlt
      have hqr := l[r].2.2
      have hok := q_ok l[r].2.1
      have cr := fun w0 => right_any (vb l[r]) (vc l[r]) w0 hqr.1 hqr.2
      rw [show decide (RatOk (vb l[r]) (vc l[r])) = true from decide_eq_true hok] at cr
      have hpr : ∀ p (hp : p < r), Bet.bet (l[p]'(by omega)) l[r] = true := fun p hp => (HST.out p r hp hlt).1
      have hpc : ∀ p (hp : p < r), _ := fun p hp => hcell p (by omega)
      have cb0 : ∀ p (hp : p < r) (w0 : World), Calls Try.prog 14 #[vpV (l[p]'(by omega)), vpV l[r]] w0 fun e w' => e = .returned (.bool true) ∧ Same w0 w' := fun p hp w0 => by
        have := vbetter_any (l[p]'(by omega)) l[r] w0
        rwa [hpr p hp] at this
      unfold vpV at cb0
      have hx := wf_i64 hi
      have hw6 : IntKind.i64.wrap ((r : Int) + 1) = (r : Int) + 1 := by rw [IntKind.wrap_i64]; omega
      have hd9 : decide (r < l.length) = true := decide_eq_true hlt
      generalize l[r].1 = d at *
      generalize vb l[r] = nu at *
      generalize vc l[r] = de at *
      have HX := Lib.hid hx; have CR : Hid (∀ w0, Calls Try.prog 13 #[.agg #[.int .i64 nu, .int .i64 de]] w0 fun e w' => e = .returned (.bool true) ∧ Same w0 w') := Lib.hid cr
      have hzv : ∀ w', (zeroValue 4).run Try.prog w' = .ok (.bool false) w' := fun w' => rfl
      have hlk : ∀ w', Same w3 w' → (Instr.lookup 39 (.map (some m)) (.int .i64 d) false).run Try.prog w' = .ok (.bool false) w' := fun w' h => by
        have hl := (HM.out.same h).run_look (t := 39) (e := 4) Try.underlying3 Try.underlying39 (hzv w') d hx
        rw [HG.out d, if_neg hfr] at hl
        exact hl
      have HG5 : Hid (∀ d', getI (putI G d true) d' = if d' ∈ docsV (l.take (r + 1)) then some true else none) := Lib.hid (by
        intro d'
        rw [getI_put (HM.out.sort Try.underlying3), hdt, HG.out d']
        by_cases e : d' = d
        · subst e; rw [if_pos rfl, if_pos (by simp)]
        · rw [if_neg e]
          by_cases e2 : d' ∈ docsV (l.take r)
          · rw [if_pos e2, if_pos (List.mem_append_left _ e2)]
          · rw [if_neg e2, if_neg (fun h => by rcases List.mem_append.1 h with h | h; exact e2 h; exact e (List.mem_singleton.1 h))])
      have HL5 : Hid ((putI G d true).length ≤ r + 1) := Lib.hid (by have := len_putI d true G; have := HGL.out; omega)
      have HMX : Hid (G.length < maxLen) := Lib.hid (by have := HGL.out; have := HLL.out; unfold maxLen; omega)
      have q0 : Same w3 w3 := Only.refl _ _
      by_cases hr0 : 0 < r
      · obtain ⟨p, hp⟩ : ∃ p, p = r - 1 := ⟨_, rfl⟩
        have hpr2 : p < r := by omega
        obtain ⟨j0, j1, j2⟩ := hpc p hpr2
        have cb := cb0 p hpr2
        have hwp : IntKind.i64.wrap ((r : Int) - 1) = (p : Int) := by rw [IntKind.wrap_i64]; omega
        have hpl : p < l.length := by omega
        generalize l[p].1 = pd at *
        generalize vb l[p] = pn at *
        generalize vc l[p] = pe at *
        have j0 := hSw.cell_eq j0 (fun h => h)
        have j1 := hSw.cell_eq j1 (fun h => h)
        have j2 := hSw.cell_eq j2 (fun h => h)
        have CB : Hid (∀ w0, Calls Try.prog 14 #[.agg #[.int .i64 pd, .int .i64 pn, .int .i64 pe], .agg #[.int .i64 d, .int .i64 nu, .int .i64 de]] w0 fun e w' => e = .returned (.bool true) ∧ Same w0 w') := Lib.hid cb
        have hd7 : decide ((0 : Int) < (r : Int)) = true := decide_eq_true (by omega)
        have hd8 : decide (0 < r) = true := decide_eq_true hr0
        have HK : Hid (∀ w', Same w3 w' → ((Instr.lookup 39 (.map (some m)) (.int .i64 d) false).run Try.prog w' = .ok (.bool false) w' ∧ w'.cell? ⟨b1, o1 + r * 3, none⟩ = some (.int .i64 d) ∧ w'.cell? ⟨b1, o1 + r * 3 + 1, none⟩ = some (.int .i64 nu) ∧ w'.cell? ⟨b1, o1 + r * 3 + 2, none⟩ = some (.int .i64 de) ∧ w'.cell? ⟨b1, o1 + p * 3, none⟩ = some (.int .i64 pd) ∧ w'.cell? ⟨b1, o1 + p * 3 + 1, none⟩ = some (.int .i64 pn) ∧ w'.cell? ⟨b1, o1 + p * 3 + 2, none⟩ = some (.int .i64 pe))) := Lib.hid (fun w' h => ⟨hlk w' h, h.cell_eq k0 (fun h => h), h.cell_eq k1 (fun h => h), h.cell_eq k2 (fun h => h), h.cell_eq j0 (fun h => h), h.cell_eq j1 (fun h => h), h.cell_eq j2 (fun h => h)⟩)
        clear hcell hdt hfr hi hqr hok cr hpr hpc cb0 hx hzv hlk hr0 hp hpr2 cb hSw
        go_upto_region 12 with fail
        refine wp_region_held_drew (S := (fun w' => (Instr.lookup 39 (.map (some m)) (.int .i64 d) false).run Try.prog w' = .ok (.bool false) w' ∧ w'.cell? ⟨b1, o1 + r * 3, none⟩ = some (.int .i64 d) ∧ w'.cell? ⟨b1, o1 + r * 3 + 1, none⟩ = some (.int .i64 nu) ∧ w'.cell? ⟨b1, o1 + r * 3 + 2, none⟩ = some (.int .i64 de) ∧ w'.cell? ⟨b1, o1 + p * 3, none⟩ = some (.int .i64 pd) ∧ w'.cell? ⟨b1, o1 + p * 3 + 1, none⟩ = some (.int .i64 pn) ∧ w'.cell? ⟨b1, o1 + p * 3 + 2, none⟩ = some (.int .i64 pe))) (by kernel_rfl) ?_ (fun hHeld => ?_)
        focus (first | exact HK.out _ q0 | exact HK.out _ q0.drew)
        refine wpAnyH_take (i := 0) (oi := ⟨some 42, _, _, _, _, _⟩) (v := ?_) rfl (by kernel_rfl) (by kernel_rfl) (by kernel_rfl) (fun _ _ _ h => h) (Or.inl ⟨by rfl, ?_⟩) (by assumption) ?_
        rotate_left
        focus ((intro w hSw; (try dsimp only at hSw); go_simp); try (with_reducible rfl))
        try simp only [Act.put, List.setIfInBounds_toArray, List.set_cons_zero, List.set_cons_succ]
        refine wpAnyH_take (i := 1) (oi := ⟨some 43, _, _, _, _, _⟩) (v := ?_) rfl (by kernel_rfl) (by kernel_rfl) (by kernel_rfl) (fun _ _ _ h => h) (Or.inl ⟨by rfl, ?_⟩) (by assumption) ?_
        rotate_left
        focus ((intro w hSw; (try dsimp only at hSw); go_simp); try (with_reducible rfl))
        try simp only [Act.put, List.setIfInBounds_toArray, List.set_cons_zero, List.set_cons_succ]
        refine wpAnyH_take (i := 2) (oi := ⟨some 44, _, _, _, _, _⟩) (v := ?_) rfl (by kernel_rfl) (by kernel_rfl) (by kernel_rfl) (fun _ _ _ h => h) (Or.inl ⟨by rfl, ?_⟩) (by assumption) ?_
        rotate_left
        focus ((intro w hSw; (try dsimp only at hSw); go_simp); try (with_reducible rfl))
        try simp only [Act.put, List.setIfInBounds_toArray, List.set_cons_zero, List.set_cons_succ]
        refine wpAnyH_take (i := 3) (oi := ⟨some 45, _, _, _, _, _⟩) (v := ?_) rfl (by kernel_rfl) (by kernel_rfl) (by kernel_rfl) (fun _ _ _ h => h) (Or.inl ⟨by rfl, ?_⟩) (by assumption) ?_
        rotate_left
        focus ((intro w hSw; (try dsimp only at hSw); go_simp); try (with_reducible rfl))
        try simp only [Act.put, List.setIfInBounds_toArray, List.set_cons_zero, List.set_cons_succ]
        refine wpAnyH_take (i := 4) (oi := ⟨some 46, _, _, _, _, _⟩) (v := ?_) rfl (by kernel_rfl) (by kernel_rfl) (by kernel_rfl) (fun _ _ _ h => h) (Or.inl ⟨by rfl, ?_⟩) (by assumption) ?_
        rotate_left
        focus ((intro w hSw; (try dsimp only at hSw); go_simp); try (with_reducible rfl))
        try simp only [Act.put, List.setIfInBounds_toArray, List.set_cons_zero, List.set_cons_succ]
        refine wpAnyH_take (i := 5) (oi := ⟨some 47, _, _, _, _, _⟩) (v := ?_) rfl (by kernel_rfl) (by kernel_rfl) (by kernel_rfl) (fun _ _ _ h => h) (Or.inl ⟨by rfl, ?_⟩) (by assumption) ?_
        rotate_left
        focus ((intro w hSw; (try dsimp only at hSw); go_simp); try (with_reducible rfl))
        try simp only [Act.put, List.setIfInBounds_toArray, List.set_cons_zero, List.set_cons_succ]
        refine wpAnyH_take (i := 6) (oi := ⟨some 48, _, _, _, _, _⟩) (v := ?_) rfl (by kernel_rfl) (by kernel_rfl) (by kernel_rfl) (fun _ _ _ h => h) (Or.inl ⟨by rfl, ?_⟩) (by assumption) ?_
        rotate_left
        focus ((intro w hSw; (try dsimp only at hSw); go_simp); try (with_reducible rfl))
        try simp only [Act.put, List.setIfInBounds_toArray, List.set_cons_zero, List.set_cons_succ]
        refine wpAnyH_take (i := 7) (oi := ⟨some 49, _, _, _, _, _⟩) (v := ?_) rfl (by kernel_rfl) (by kernel_rfl) (by kernel_rfl) (fun _ _ _ h => h) (Or.inl ⟨by rfl, ?_⟩) (by assumption) ?_
        rotate_left
        focus ((intro w hSw; (try dsimp only at hSw); go_simp); try (with_reducible rfl))
        try simp only [Act.put, List.setIfInBounds_toArray, List.set_cons_zero, List.set_cons_succ]
        refine wpAnyH_take (i := 8) (oi := ⟨some 50, _, _, _, _, _⟩) (v := ?_) rfl (by kernel_rfl) (by kernel_rfl) (by kernel_rfl) (fun _ _ _ h => h) (Or.inl ⟨by rfl, ?_⟩) (by assumption) ?_
        rotate_left
        focus ((intro w hSw; (try dsimp only at hSw); go_simp); try (with_reducible rfl))
        try simp only [Act.put, List.setIfInBounds_toArray, List.set_cons_zero, List.set_cons_succ]
        refine wpAnyH_take (i := 9) (oi := ⟨some 51, _, _, _, _, _⟩) (v := ?_) rfl (by kernel_rfl) (by kernel_rfl) (by kernel_rfl) (fun _ _ _ h => h) (Or.inl ⟨by rfl, ?_⟩) (by assumption) ?_
        rotate_left
        focus ((intro w hSw; (try dsimp only at hSw); go_simp); try (with_reducible rfl))
        try simp only [Act.put, List.setIfInBounds_toArray, List.set_cons_zero, List.set_cons_succ]
        refine wpAnyH_take (i := 10) (oi := ⟨some 52, _, _, _, _, _⟩) (v := ?_) rfl (by kernel_rfl) (by kernel_rfl) (by kernel_rfl) (fun _ _ _ h => h) (Or.inl ⟨by rfl, ?_⟩) (by assumption) ?_
        rotate_left
        focus ((intro w hSw; (try dsimp only at hSw); go_simp); try (with_reducible rfl))
        try simp only [Act.put, List.setIfInBounds_toArray, List.set_cons_zero, List.set_cons_succ]
        refine wpAnyH_take (i := 11) (oi := ⟨some 53, _, _, _, _, _⟩) (v := ?_) rfl (by kernel_rfl) (by kernel_rfl) (by kernel_rfl) (fun _ _ _ h => h) (Or.inl ⟨by rfl, ?_⟩) (by assumption) ?_
        rotate_left
        focus ((intro w hSw; (try dsimp only at hSw); go_simp); try (with_reducible rfl))
        try simp only [Act.put, List.setIfInBounds_toArray, List.set_cons_zero, List.set_cons_succ]
        refine wpAnyH_take (i := 12) (oi := ⟨some 54, _, _, _, _, _⟩) (v := ?_) rfl (by kernel_rfl) (by kernel_rfl) (by kernel_rfl) (fun _ _ _ h => h) (Or.inl ⟨by rfl, ?_⟩) (by assumption) ?_
        rotate_left
        focus ((intro w hSw; (try dsimp only at hSw); go_simp); try (with_reducible rfl))
        try simp only [Act.put, List.setIfInBounds_toArray, List.set_cons_zero, List.set_cons_succ]
        refine wpAnyH_ready (rs := [13]) (by kernel_rfl) (by simp) ?_
        refine AllReadyH.cons (o := ⟨some 55, _, _, _, _, _⟩) rfl (fun K hK => ?_) AllReadyH.nil
        go_simp
        go_at_call 13; refine (CR.out _).mono ?_; rintro e w10 ⟨rfl, hS10⟩; have q0 := Only.then (by first | exact q0 | exact q0.drew) hS10; clear hS10
        refine hK.out _ _ ?_ (fun hHeld => ?_)
        focus ((try dsimp only); first | exact HK.out _ q0 | exact HK.out _ q0.drew)
        clear hK K
        try simp only [Act.put, List.setIfInBounds_toArray, List.set_cons_zero, List.set_cons_succ]
        refine wpAnyH_take (i := 14) (oi := ⟨some 56, _, _, _, _, _⟩) (v := ?_) rfl (by kernel_rfl) (by kernel_rfl) (by kernel_rfl) (fun _ _ _ h => h) (Or.inl ⟨by rfl, ?_⟩) (by assumption) ?_
        rotate_left
        focus ((intro w hSw; (try dsimp only at hSw); go_simp); try (with_reducible rfl))
        try simp only [Act.put, List.setIfInBounds_toArray, List.set_cons_zero, List.set_cons_succ]
        refine wpAnyH_take (i := 15) (oi := ⟨some 57, _, _, _, _, _⟩) (v := ?_) rfl (by kernel_rfl) (by kernel_rfl) (by kernel_rfl) (fun _ _ _ h => h) (Or.inl ⟨by rfl, ?_⟩) (by assumption) ?_
        rotate_left
        focus ((intro w hSw; (try dsimp only at hSw); go_simp); try (with_reducible rfl))
        try simp only [Act.put, List.setIfInBounds_toArray, List.set_cons_zero, List.set_cons_succ]
        refine wpAnyH_take (i := 16) (oi := ⟨some 58, _, _, _, _, _⟩) (v := ?_) rfl (by kernel_rfl) (by kernel_rfl) (by kernel_rfl) (fun _ _ _ h => h) (Or.inl ⟨by rfl, ?_⟩) (by assumption) ?_
        rotate_left
        focus ((intro w hSw; (try dsimp only at hSw); go_simp); try (with_reducible rfl))
        try simp only [Act.put, List.setIfInBounds_toArray, List.set_cons_zero, List.set_cons_succ]
        refine wpAnyH_take (i := 17) (oi := ⟨some 59, _, _, _, _, _⟩) (v := ?_) rfl (by kernel_rfl) (by kernel_rfl) (by kernel_rfl) (fun _ _ _ h => h) (Or.inl ⟨by rfl, ?_⟩) (by assumption) ?_
        rotate_left
        focus ((intro w hSw; (try dsimp only at hSw); go_simp); try (with_reducible rfl))
        try simp only [Act.put, List.setIfInBounds_toArray, List.set_cons_zero, List.set_cons_succ]
        refine wpAnyH_take (i := 18) (oi := ⟨some 60, _, _, _, _, _⟩) (v := ?_) rfl (by kernel_rfl) (by kernel_rfl) (by kernel_rfl) (fun _ _ _ h => h) (Or.inl ⟨by rfl, ?_⟩) (by assumption) ?_
        rotate_left
        focus ((intro w hSw; (try dsimp only at hSw); go_simp); try (with_reducible rfl))
        try simp only [Act.put, List.setIfInBounds_toArray, List.set_cons_zero, List.set_cons_succ]
        refine wpAnyH_take (i := 19) (oi := ⟨some 61, _, _, _, _, _⟩) (v := ?_) rfl (by kernel_rfl) (by kernel_rfl) (by kernel_rfl) (fun _ _ _ h => h) (Or.inl ⟨by rfl, ?_⟩) (by assumption) ?_
        rotate_left
        focus ((intro w hSw; (try dsimp only at hSw); go_simp); try (with_reducible rfl))
        try simp only [Act.put, List.setIfInBounds_toArray, List.set_cons_zero, List.set_cons_succ]
        refine wpAnyH_take (i := 20) (oi := ⟨some 62, _, _, _, _, _⟩) (v := ?_) rfl (by kernel_rfl) (by kernel_rfl) (by kernel_rfl) (fun _ _ _ h => h) (Or.inl ⟨by rfl, ?_⟩) (by assumption) ?_
        rotate_left
        focus ((intro w hSw; (try dsimp only at hSw); go_simp); try (with_reducible rfl))
        try simp only [Act.put, List.setIfInBounds_toArray, List.set_cons_zero, List.set_cons_succ]
        refine wpAnyH_take (i := 21) (oi := ⟨some 63, _, _, _, _, _⟩) (v := ?_) rfl (by kernel_rfl) (by kernel_rfl) (by kernel_rfl) (fun _ _ _ h => h) (Or.inl ⟨by rfl, ?_⟩) (by assumption) ?_
        rotate_left
        focus ((intro w hSw; (try dsimp only at hSw); go_simp); try (with_reducible rfl))
        try simp only [Act.put, List.setIfInBounds_toArray, List.set_cons_zero, List.set_cons_succ]
        refine wpAnyH_take (i := 22) (oi := ⟨some 64, _, _, _, _, _⟩) (v := ?_) rfl (by kernel_rfl) (by kernel_rfl) (by kernel_rfl) (fun _ _ _ h => h) (Or.inl ⟨by rfl, ?_⟩) (by assumption) ?_
        rotate_left
        focus ((intro w hSw; (try dsimp only at hSw); go_simp); try (with_reducible rfl))
        try simp only [Act.put, List.setIfInBounds_toArray, List.set_cons_zero, List.set_cons_succ]
        refine wpAnyH_take (i := 23) (oi := ⟨some 65, _, _, _, _, _⟩) (v := ?_) rfl (by kernel_rfl) (by kernel_rfl) (by kernel_rfl) (fun _ _ _ h => h) (Or.inl ⟨by rfl, ?_⟩) (by assumption) ?_
        rotate_left
        focus ((intro w hSw; (try dsimp only at hSw); go_simp); try (with_reducible rfl))
        try simp only [Act.put, List.setIfInBounds_toArray, List.set_cons_zero, List.set_cons_succ]
        refine wpAnyH_take (i := 24) (oi := ⟨some 66, _, _, _, _, _⟩) (v := ?_) rfl (by kernel_rfl) (by kernel_rfl) (by kernel_rfl) (fun _ _ _ h => h) (Or.inl ⟨by rfl, ?_⟩) (by assumption) ?_
        rotate_left
        focus ((intro w hSw; (try dsimp only at hSw); go_simp); try (with_reducible rfl))
        try simp only [Act.put, List.setIfInBounds_toArray, List.set_cons_zero, List.set_cons_succ]
        refine wpAnyH_take (i := 25) (oi := ⟨some 67, _, _, _, _, _⟩) (v := ?_) rfl (by kernel_rfl) (by kernel_rfl) (by kernel_rfl) (fun _ _ _ h => h) (Or.inl ⟨by rfl, ?_⟩) (by assumption) ?_
        rotate_left
        focus ((intro w hSw; (try dsimp only at hSw); go_simp); try (with_reducible rfl))
        try simp only [Act.put, List.setIfInBounds_toArray, List.set_cons_zero, List.set_cons_succ]
        refine wpAnyH_take (i := 26) (oi := ⟨some 68, _, _, _, _, _⟩) (v := ?_) rfl (by kernel_rfl) (by kernel_rfl) (by kernel_rfl) (fun _ _ _ h => h) (Or.inl ⟨by rfl, ?_⟩) (by assumption) ?_
        rotate_left
        focus ((intro w hSw; (try dsimp only at hSw); go_simp); try (with_reducible rfl))
        try simp only [Act.put, List.setIfInBounds_toArray, List.set_cons_zero, List.set_cons_succ]
        refine wpAnyH_take (i := 27) (oi := ⟨some 69, _, _, _, _, _⟩) (v := ?_) rfl (by kernel_rfl) (by kernel_rfl) (by kernel_rfl) (fun _ _ _ h => h) (Or.inl ⟨by rfl, ?_⟩) (by assumption) ?_
        rotate_left
        focus ((intro w hSw; (try dsimp only at hSw); go_simp); try (with_reducible rfl))
        try simp only [Act.put, List.setIfInBounds_toArray, List.set_cons_zero, List.set_cons_succ]
        refine wpAnyH_take (i := 28) (oi := ⟨some 70, _, _, _, _, _⟩) (v := ?_) rfl (by kernel_rfl) (by kernel_rfl) (by kernel_rfl) (fun _ _ _ h => h) (Or.inl ⟨by rfl, ?_⟩) (by assumption) ?_
        rotate_left
        focus ((intro w hSw; (try dsimp only at hSw); go_simp); try (with_reducible rfl))
        try simp only [Act.put, List.setIfInBounds_toArray, List.set_cons_zero, List.set_cons_succ]
        refine wpAnyH_ready (rs := [29]) (by kernel_rfl) (by simp) ?_
        refine AllReadyH.cons (o := ⟨some 71, _, _, _, _, _⟩) rfl (fun K hK => ?_) AllReadyH.nil
        go_simp
        go_at_call 14; refine (CB.out _).mono ?_; rintro e w11 ⟨rfl, hS10⟩; have q0 := Only.then (by first | exact q0 | exact q0.drew) hS10; clear hS10
        refine hK.out _ _ ?_ (fun hHeld => ?_)
        focus ((try dsimp only); first | exact HK.out _ q0 | exact HK.out _ q0.drew)
        clear hK K
        try simp only [Act.put, List.setIfInBounds_toArray, List.set_cons_zero, List.set_cons_succ]
        refine wpAnyH_take (i := 30) (oi := ⟨some 72, _, _, _, _, _⟩) (v := ?_) rfl (by kernel_rfl) (by kernel_rfl) (by kernel_rfl) (fun _ _ _ h => h) (Or.inl ⟨by rfl, ?_⟩) (by assumption) ?_
        rotate_left
        focus ((intro w hSw; (try dsimp only at hSw); go_simp); try (with_reducible rfl))
        try simp only [Act.put, List.setIfInBounds_toArray, List.set_cons_zero, List.set_cons_succ]
        refine wpAnyH_take (i := 31) (oi := ⟨some 73, _, _, _, _, _⟩) (v := ?_) rfl (by kernel_rfl) (by kernel_rfl) (by kernel_rfl) (fun _ _ _ h => h) (Or.inl ⟨by rfl, ?_⟩) (by assumption) ?_
        rotate_left
        focus ((intro w hSw; (try dsimp only at hSw); go_simp); try (with_reducible rfl))
        try simp only [Act.put, List.setIfInBounds_toArray, List.set_cons_zero, List.set_cons_succ]
        refine wpAnyH_take (i := 32) (oi := ⟨some 74, _, _, _, _, _⟩) (v := ?_) rfl (by kernel_rfl) (by kernel_rfl) (by kernel_rfl) (fun _ _ _ h => h) (Or.inl ⟨by rfl, ?_⟩) (by assumption) ?_
        rotate_left
        focus ((intro w hSw; (try dsimp only at hSw); go_simp); try (with_reducible rfl))
        try simp only [Act.put, List.setIfInBounds_toArray, List.set_cons_zero, List.set_cons_succ]
        refine wpAnyH_done (by kernel_rfl) ?_ _
        obtain ⟨w4, hw4, hS4⟩ : ∃ w4, w4 = _ ∧ Same w3 w4 := ⟨_, rfl, by first | exact q0 | exact q0.drew⟩
        rw [← hw4]
        have HM4 := Lib.hid (HM.out.same hS4); have HS4 := Lib.hid (HS.out.then hS4)
        have k0 := hS4.cell_eq k0 (fun h => h)
        clear hw4 q0 HK CR
        go_wp2_with (at_mapUpdate; refine mpj_put Value.bool _ rfl (.tmp 75) (.tmp 80) (.const (.bool true)) 39 rfl 3 4 Try.underlying3 Try.underlying39 m G rfl HM4.out HMX.out d true rfl rfl HX.out ?_; intro w5 hm5 hO5)
        have HM5 := Lib.hid hm5
        have HS5 : Hid (Same w2 w5) := Lib.hid (HS4.out.trans hO5 (fun i hi h => by have h2 : i = m := h; have := HMW.out; omega))
        clear hm5 hO5 k0
        go_wp2_with fail
        go_roundw
        case rel => exact ⟨r + 1, putI G d true, by omega, by go_num, HS5.out, HM5.out, HG5.out, HL5.out⟩
        case measure => simp [intOf]; omega
      · have hd7 : decide ((0 : Int) < (r : Int)) = false := decide_eq_false (by omega)
        have hd8 : decide (0 < r) = false := decide_eq_false hr0
        have HK : Hid (∀ w', Same w3 w' → ((Instr.lookup 39 (.map (some m)) (.int .i64 d) false).run Try.prog w' = .ok (.bool false) w' ∧ w'.cell? ⟨b1, o1 + r * 3, none⟩ = some (.int .i64 d) ∧ w'.cell? ⟨b1, o1 + r * 3 + 1, none⟩ = some (.int .i64 nu) ∧ w'.cell? ⟨b1, o1 + r * 3 + 2, none⟩ = some (.int .i64 de))) := Lib.hid (fun w' h => ⟨hlk w' h, h.cell_eq k0 (fun h => h), h.cell_eq k1 (fun h => h), h.cell_eq k2 (fun h => h)⟩)
        clear hcell hdt hfr hi hqr hok cr hpr hpc cb0 hx hzv hlk hr0 hSw
        go_upto_region 12 with fail
        refine wp_region_held_drew (S := (fun w' => (Instr.lookup 39 (.map (some m)) (.int .i64 d) false).run Try.prog w' = .ok (.bool false) w' ∧ w'.cell? ⟨b1, o1 + r * 3, none⟩ = some (.int .i64 d) ∧ w'.cell? ⟨b1, o1 + r * 3 + 1, none⟩ = some (.int .i64 nu) ∧ w'.cell? ⟨b1, o1 + r * 3 + 2, none⟩ = some (.int .i64 de))) (by kernel_rfl) ?_ (fun hHeld => ?_)
        focus (first | exact HK.out _ q0 | exact HK.out _ q0.drew)
        refine wpAnyH_take (i := 0) (oi := ⟨some 42, _, _, _, _, _⟩) (v := ?_) rfl (by kernel_rfl) (by kernel_rfl) (by kernel_rfl) (fun _ _ _ h => h) (Or.inl ⟨by rfl, ?_⟩) (by assumption) ?_
        rotate_left
        focus ((intro w hSw; (try dsimp only at hSw); go_simp); try (with_reducible rfl))
        try simp only [Act.put, List.setIfInBounds_toArray, List.set_cons_zero, List.set_cons_succ]
        refine wpAnyH_take (i := 1) (oi := ⟨some 43, _, _, _, _, _⟩) (v := ?_) rfl (by kernel_rfl) (by kernel_rfl) (by kernel_rfl) (fun _ _ _ h => h) (Or.inl ⟨by rfl, ?_⟩) (by assumption) ?_
        rotate_left
        focus ((intro w hSw; (try dsimp only at hSw); go_simp); try (with_reducible rfl))
        try simp only [Act.put, List.setIfInBounds_toArray, List.set_cons_zero, List.set_cons_succ]
        refine wpAnyH_take (i := 2) (oi := ⟨some 44, _, _, _, _, _⟩) (v := ?_) rfl (by kernel_rfl) (by kernel_rfl) (by kernel_rfl) (fun _ _ _ h => h) (Or.inl ⟨by rfl, ?_⟩) (by assumption) ?_
        rotate_left
        focus ((intro w hSw; (try dsimp only at hSw); go_simp); try (with_reducible rfl))
        try simp only [Act.put, List.setIfInBounds_toArray, List.set_cons_zero, List.set_cons_succ]
        refine wpAnyH_take (i := 3) (oi := ⟨some 45, _, _, _, _, _⟩) (v := ?_) rfl (by kernel_rfl) (by kernel_rfl) (by kernel_rfl) (fun _ _ _ h => h) (Or.inl ⟨by rfl, ?_⟩) (by assumption) ?_
        rotate_left
        focus ((intro w hSw; (try dsimp only at hSw); go_simp); try (with_reducible rfl))
        try simp only [Act.put, List.setIfInBounds_toArray, List.set_cons_zero, List.set_cons_succ]
        refine wpAnyH_take (i := 4) (oi := ⟨some 46, _, _, _, _, _⟩) (v := ?_) rfl (by kernel_rfl) (by kernel_rfl) (by kernel_rfl) (fun _ _ _ h => h) (Or.inl ⟨by rfl, ?_⟩) (by assumption) ?_
        rotate_left
        focus ((intro w hSw; (try dsimp only at hSw); go_simp); try (with_reducible rfl))
        try simp only [Act.put, List.setIfInBounds_toArray, List.set_cons_zero, List.set_cons_succ]
        refine wpAnyH_take (i := 5) (oi := ⟨some 47, _, _, _, _, _⟩) (v := ?_) rfl (by kernel_rfl) (by kernel_rfl) (by kernel_rfl) (fun _ _ _ h => h) (Or.inl ⟨by rfl, ?_⟩) (by assumption) ?_
        rotate_left
        focus ((intro w hSw; (try dsimp only at hSw); go_simp); try (with_reducible rfl))
        try simp only [Act.put, List.setIfInBounds_toArray, List.set_cons_zero, List.set_cons_succ]
        refine wpAnyH_take (i := 6) (oi := ⟨some 48, _, _, _, _, _⟩) (v := ?_) rfl (by kernel_rfl) (by kernel_rfl) (by kernel_rfl) (fun _ _ _ h => h) (Or.inl ⟨by rfl, ?_⟩) (by assumption) ?_
        rotate_left
        focus ((intro w hSw; (try dsimp only at hSw); go_simp); try (with_reducible rfl))
        try simp only [Act.put, List.setIfInBounds_toArray, List.set_cons_zero, List.set_cons_succ]
        refine wpAnyH_take (i := 7) (oi := ⟨some 49, _, _, _, _, _⟩) (v := ?_) rfl (by kernel_rfl) (by kernel_rfl) (by kernel_rfl) (fun _ _ _ h => h) (Or.inl ⟨by rfl, ?_⟩) (by assumption) ?_
        rotate_left
        focus ((intro w hSw; (try dsimp only at hSw); go_simp); try (with_reducible rfl))
        try simp only [Act.put, List.setIfInBounds_toArray, List.set_cons_zero, List.set_cons_succ]
        refine wpAnyH_take (i := 8) (oi := ⟨some 50, _, _, _, _, _⟩) (v := ?_) rfl (by kernel_rfl) (by kernel_rfl) (by kernel_rfl) (fun _ _ _ h => h) (Or.inl ⟨by rfl, ?_⟩) (by assumption) ?_
        rotate_left
        focus ((intro w hSw; (try dsimp only at hSw); go_simp); try (with_reducible rfl))
        try simp only [Act.put, List.setIfInBounds_toArray, List.set_cons_zero, List.set_cons_succ]
        refine wpAnyH_take (i := 9) (oi := ⟨some 51, _, _, _, _, _⟩) (v := ?_) rfl (by kernel_rfl) (by kernel_rfl) (by kernel_rfl) (fun _ _ _ h => h) (Or.inl ⟨by rfl, ?_⟩) (by assumption) ?_
        rotate_left
        focus ((intro w hSw; (try dsimp only at hSw); go_simp); try (with_reducible rfl))
        try simp only [Act.put, List.setIfInBounds_toArray, List.set_cons_zero, List.set_cons_succ]
        refine wpAnyH_take (i := 10) (oi := ⟨some 52, _, _, _, _, _⟩) (v := ?_) rfl (by kernel_rfl) (by kernel_rfl) (by kernel_rfl) (fun _ _ _ h => h) (Or.inl ⟨by rfl, ?_⟩) (by assumption) ?_
        rotate_left
        focus ((intro w hSw; (try dsimp only at hSw); go_simp); try (with_reducible rfl))
        try simp only [Act.put, List.setIfInBounds_toArray, List.set_cons_zero, List.set_cons_succ]
        refine wpAnyH_take (i := 11) (oi := ⟨some 53, _, _, _, _, _⟩) (v := ?_) rfl (by kernel_rfl) (by kernel_rfl) (by kernel_rfl) (fun _ _ _ h => h) (Or.inl ⟨by rfl, ?_⟩) (by assumption) ?_
        rotate_left
        focus ((intro w hSw; (try dsimp only at hSw); go_simp); try (with_reducible rfl))
        try simp only [Act.put, List.setIfInBounds_toArray, List.set_cons_zero, List.set_cons_succ]
        refine wpAnyH_take (i := 12) (oi := ⟨some 54, _, _, _, _, _⟩) (v := ?_) rfl (by kernel_rfl) (by kernel_rfl) (by kernel_rfl) (fun _ _ _ h => h) (Or.inl ⟨by rfl, ?_⟩) (by assumption) ?_
        rotate_left
        focus ((intro w hSw; (try dsimp only at hSw); go_simp); try (with_reducible rfl))
        try simp only [Act.put, List.setIfInBounds_toArray, List.set_cons_zero, List.set_cons_succ]
        refine wpAnyH_ready (rs := [13]) (by kernel_rfl) (by simp) ?_
        refine AllReadyH.cons (o := ⟨some 55, _, _, _, _, _⟩) rfl (fun K hK => ?_) AllReadyH.nil
        go_simp
        go_at_call 13; refine (CR.out _).mono ?_; rintro e w10 ⟨rfl, hS10⟩; have q0 := Only.then (by first | exact q0 | exact q0.drew) hS10; clear hS10
        refine hK.out _ _ ?_ (fun hHeld => ?_)
        focus ((try dsimp only); first | exact HK.out _ q0 | exact HK.out _ q0.drew)
        clear hK K
        try simp only [Act.put, List.setIfInBounds_toArray, List.set_cons_zero, List.set_cons_succ]
        refine wpAnyH_take (i := 14) (oi := ⟨some 56, _, _, _, _, _⟩) (v := ?_) rfl (by kernel_rfl) (by kernel_rfl) (by kernel_rfl) (fun _ _ _ h => h) (Or.inl ⟨by rfl, ?_⟩) (by assumption) ?_
        rotate_left
        focus ((intro w hSw; (try dsimp only at hSw); go_simp); try (with_reducible rfl))
        try simp only [Act.put, List.setIfInBounds_toArray, List.set_cons_zero, List.set_cons_succ]
        refine wpAnyH_take (i := 15) (oi := ⟨some 57, _, _, _, _, _⟩) (v := ?_) rfl (by kernel_rfl) (by kernel_rfl) (by kernel_rfl) (fun _ _ _ h => h) (Or.inl ⟨by rfl, ?_⟩) (by assumption) ?_
        rotate_left
        focus ((intro w hSw; (try dsimp only at hSw); go_simp); try (with_reducible rfl))
        try simp only [Act.put, List.setIfInBounds_toArray, List.set_cons_zero, List.set_cons_succ]
        refine wpAnyH_take (i := 16) (oi := ⟨some 58, _, _, _, _, _⟩) (v := ?_) rfl (by kernel_rfl) (by kernel_rfl) (by kernel_rfl) (fun _ _ _ h => h) (Or.inl ⟨by rfl, ?_⟩) (by assumption) ?_
        rotate_left
        focus ((intro w hSw; (try dsimp only at hSw); go_simp); try (with_reducible rfl))
        try simp only [Act.put, List.setIfInBounds_toArray, List.set_cons_zero, List.set_cons_succ]
        refine wpAnyH_take (i := 17) (oi := ⟨some 59, _, _, _, _, _⟩) (v := ?_) rfl (by kernel_rfl) (by kernel_rfl) (by kernel_rfl) (fun _ _ _ h => h) (Or.inl ⟨by rfl, ?_⟩) (by assumption) ?_
        rotate_left
        focus ((intro w hSw; (try dsimp only at hSw); go_simp); try (with_reducible rfl))
        try simp only [Act.put, List.setIfInBounds_toArray, List.set_cons_zero, List.set_cons_succ]
        refine wpAnyH_take (i := 18) (oi := ⟨some 60, _, _, _, _, _⟩) (v := ?_) rfl (by kernel_rfl) (by kernel_rfl) (by kernel_rfl) (fun _ _ _ h => h) (Or.inl ⟨by rfl, ?_⟩) (by assumption) ?_
        rotate_left
        focus ((intro w hSw; (try dsimp only at hSw); go_simp); try (with_reducible rfl))
        try simp only [Act.put, List.setIfInBounds_toArray, List.set_cons_zero, List.set_cons_succ]
        refine wpAnyH_take (i := 19) (oi := ⟨some 61, _, _, _, _, _⟩) (v := ?_) rfl (by kernel_rfl) (by kernel_rfl) (by kernel_rfl) (fun _ _ _ h => h) (Or.inl ⟨by rfl, ?_⟩) (by assumption) ?_
        rotate_left
        focus ((intro w hSw; (try dsimp only at hSw); go_simp); try (with_reducible rfl))
        try simp only [Act.put, List.setIfInBounds_toArray, List.set_cons_zero, List.set_cons_succ]
        refine wpAnyH_take (i := 20) (oi := ⟨some 62, _, _, _, _, _⟩) (v := undef) rfl (by kernel_rfl) (by kernel_rfl) (by kernel_rfl) (fun _ _ _ h => h) (Or.inr ⟨by rfl, rfl⟩) (by assumption) ?_
        try simp only [Act.put, List.setIfInBounds_toArray, List.set_cons_zero, List.set_cons_succ]
        refine wpAnyH_take (i := 21) (oi := ⟨some 63, _, _, _, _, _⟩) (v := undef) rfl (by kernel_rfl) (by kernel_rfl) (by kernel_rfl) (fun _ _ _ h => h) (Or.inr ⟨by rfl, rfl⟩) (by assumption) ?_
        try simp only [Act.put, List.setIfInBounds_toArray, List.set_cons_zero, List.set_cons_succ]
        refine wpAnyH_take (i := 22) (oi := ⟨some 64, _, _, _, _, _⟩) (v := undef) rfl (by kernel_rfl) (by kernel_rfl) (by kernel_rfl) (fun _ _ _ h => h) (Or.inr ⟨by rfl, rfl⟩) (by assumption) ?_
        try simp only [Act.put, List.setIfInBounds_toArray, List.set_cons_zero, List.set_cons_succ]
        refine wpAnyH_take (i := 23) (oi := ⟨some 65, _, _, _, _, _⟩) (v := undef) rfl (by kernel_rfl) (by kernel_rfl) (by kernel_rfl) (fun _ _ _ h => h) (Or.inr ⟨by rfl, rfl⟩) (by assumption) ?_
        try simp only [Act.put, List.setIfInBounds_toArray, List.set_cons_zero, List.set_cons_succ]
        refine wpAnyH_take (i := 24) (oi := ⟨some 66, _, _, _, _, _⟩) (v := undef) rfl (by kernel_rfl) (by kernel_rfl) (by kernel_rfl) (fun _ _ _ h => h) (Or.inr ⟨by rfl, rfl⟩) (by assumption) ?_
        try simp only [Act.put, List.setIfInBounds_toArray, List.set_cons_zero, List.set_cons_succ]
        refine wpAnyH_take (i := 25) (oi := ⟨some 67, _, _, _, _, _⟩) (v := undef) rfl (by kernel_rfl) (by kernel_rfl) (by kernel_rfl) (fun _ _ _ h => h) (Or.inr ⟨by rfl, rfl⟩) (by assumption) ?_
        try simp only [Act.put, List.setIfInBounds_toArray, List.set_cons_zero, List.set_cons_succ]
        refine wpAnyH_take (i := 26) (oi := ⟨some 68, _, _, _, _, _⟩) (v := undef) rfl (by kernel_rfl) (by kernel_rfl) (by kernel_rfl) (fun _ _ _ h => h) (Or.inr ⟨by rfl, rfl⟩) (by assumption) ?_
        try simp only [Act.put, List.setIfInBounds_toArray, List.set_cons_zero, List.set_cons_succ]
        refine wpAnyH_take (i := 27) (oi := ⟨some 69, _, _, _, _, _⟩) (v := undef) rfl (by kernel_rfl) (by kernel_rfl) (by kernel_rfl) (fun _ _ _ h => h) (Or.inr ⟨by rfl, rfl⟩) (by assumption) ?_
        try simp only [Act.put, List.setIfInBounds_toArray, List.set_cons_zero, List.set_cons_succ]
        refine wpAnyH_take (i := 28) (oi := ⟨some 70, _, _, _, _, _⟩) (v := undef) rfl (by kernel_rfl) (by kernel_rfl) (by kernel_rfl) (fun _ _ _ h => h) (Or.inr ⟨by rfl, rfl⟩) (by assumption) ?_
        try simp only [Act.put, List.setIfInBounds_toArray, List.set_cons_zero, List.set_cons_succ]
        refine wpAnyH_take (i := 29) (oi := ⟨some 71, _, _, _, _, _⟩) (v := undef) rfl (by kernel_rfl) (by kernel_rfl) (by kernel_rfl) (fun _ _ _ h => h) (Or.inr ⟨by rfl, rfl⟩) (by assumption) ?_
        try simp only [Act.put, List.setIfInBounds_toArray, List.set_cons_zero, List.set_cons_succ]
        refine wpAnyH_take (i := 30) (oi := ⟨some 72, _, _, _, _, _⟩) (v := undef) rfl (by kernel_rfl) (by kernel_rfl) (by kernel_rfl) (fun _ _ _ h => h) (Or.inr ⟨by rfl, rfl⟩) (by assumption) ?_
        try simp only [Act.put, List.setIfInBounds_toArray, List.set_cons_zero, List.set_cons_succ]
        refine wpAnyH_take (i := 31) (oi := ⟨some 73, _, _, _, _, _⟩) (v := ?_) rfl (by kernel_rfl) (by kernel_rfl) (by kernel_rfl) (fun _ _ _ h => h) (Or.inl ⟨by rfl, ?_⟩) (by assumption) ?_
        rotate_left
        focus ((intro w hSw; (try dsimp only at hSw); go_simp); try (with_reducible rfl))
        try simp only [Act.put, List.setIfInBounds_toArray, List.set_cons_zero, List.set_cons_succ]
        refine wpAnyH_take (i := 32) (oi := ⟨some 74, _, _, _, _, _⟩) (v := ?_) rfl (by kernel_rfl) (by kernel_rfl) (by kernel_rfl) (fun _ _ _ h => h) (Or.inl ⟨by rfl, ?_⟩) (by assumption) ?_
        rotate_left
        focus ((intro w hSw; (try dsimp only at hSw); go_simp); try (with_reducible rfl))
        try simp only [Act.put, List.setIfInBounds_toArray, List.set_cons_zero, List.set_cons_succ]
        refine wpAnyH_done (by kernel_rfl) ?_ _
        obtain ⟨w4, hw4, hS4⟩ : ∃ w4, w4 = _ ∧ Same w3 w4 := ⟨_, rfl, by first | exact q0 | exact q0.drew⟩
        rw [← hw4]
        have HM4 := Lib.hid (HM.out.same hS4); have HS4 := Lib.hid (HS.out.then hS4)
        have k0 := hS4.cell_eq k0 (fun h => h)
        clear hw4 q0 HK CR
        go_wp2_with (at_mapUpdate; refine mpj_put Value.bool _ rfl (.tmp 75) (.tmp 80) (.const (.bool true)) 39 rfl 3 4 Try.underlying3 Try.underlying39 m G rfl HM4.out HMX.out d true rfl rfl HX.out ?_; intro w5 hm5 hO5)
        have HM5 := Lib.hid hm5
        have HS5 : Hid (Same w2 w5) := Lib.hid (HS4.out.trans hO5 (fun i hi h => by have h2 : i = m := h; have := HMW.out; omega))
        clear hm5 hO5 k0
        go_wp2_with fail
        go_roundw
        case rel => exact ⟨r + 1, putI G d true, by omega, by go_num, HS5.out, HM5.out, HG5.out, HL5.out⟩
        case measure => simp [intOf]; omega
    · obtain rfl : r = l.length := by omega
      rw [List.take_length] at HG
      have hd9 : decide (l.length < l.length) = false := by simp
      have HSB := Lib.hid (HS2.out.then HS.out); have HMB := Lib.hid HM.out
      have HSV := Lib.hid HS.out
      clear hlt hr HS HM
      have HIx := Lib.hid HIX.out; have HIy := Lib.hid HIY.out
      go_wp2_with fail
      go_loopw [11] (fun i wr => ∃ r : Nat, r ≤ x.length ∧ i = .int .i64 r ∧ Same w3 wr) (fun i _ => x.length - (intOf i).toNat)
      case atStart => exact ⟨0, by omega, rfl, Only.refl _ _⟩
      case round =>
        obtain ⟨r, hr, rfl, hS⟩ := hrel
        obtain ⟨w4, hw4⟩ : ∃ x, x = wr := ⟨_, rfl⟩
        subst hw4
        have HSw4 := Lib.hid hS
        clear hS
        by_cases hlt : r < x.length
        · obtain ⟨b1, o1, rfl, hcell⟩ := HX.out.spot (by omega)
          have k0 := (HSB.out.then HSw4.out).cell_eq (hcell r hlt).1 (fun h => h)
          have hin := HALL.out x[r].1 (.inl (fdocs_in x r hlt))
          have hi := HIx.out _ (List.getElem_mem hlt)
          generalize x[r].1 = d at *
          have hx := wf_i64 hi
          have hl := (HMB.out.same HSw4.out).run_look (t := 39) (e := 4) Try.underlying3 Try.underlying39 (show (zeroValue 4).run Try.prog w4 = .ok (.bool false) w4 from rfl) d hx
          rw [HG.out d, if_pos hin] at hl
          simp only [Option.map_some, Option.getD_some] at hl
          have hw6 : IntKind.i64.wrap ((r : Int) + 1) = (r : Int) + 1 := by rw [IntKind.wrap_i64]; omega
          have hd9 : decide (r < x.length) = true := decide_eq_true hlt
          clear hcell hin hi hx
          go_wp2_with fail
          go_roundw
          case rel => exact ⟨r + 1, by omega, by go_num, HSw4.out⟩
          case measure => simp [intOf]; omega
        · obtain rfl : r = x.length := by omega
          have hd9 : decide (x.length < x.length) = false := by simp
          have HSC := Lib.hid (HSB.out.then HSw4.out); have HMC := Lib.hid (HMB.out.same HSw4.out); have HSV2 := Lib.hid (HSV.out.then HSw4.out)
          clear HSB HMB HSV HSw4 hlt hr
          have HSB := Lib.hid HSC.out; have HMB := Lib.hid HMC.out; have HSV := Lib.hid HSV2.out
          clear HSC HMC HSV2
          go_wp2_with fail
          go_loopw [12] (fun i wr => ∃ r : Nat, r ≤ y.length ∧ i = .int .i64 r ∧ Same w4 wr) (fun i _ => y.length - (intOf i).toNat)
          case atStart => exact ⟨0, by omega, rfl, Only.refl _ _⟩
          case round =>
            obtain ⟨r, hr, rfl, hS⟩ := hrel
            obtain ⟨w5, hw4⟩ : ∃ x, x = wr := ⟨_, rfl⟩
            subst hw4
            have HSw5 := Lib.hid hS
            clear hS
            by_cases hlt : r < y.length
            · obtain ⟨b1, o1, rfl, hcell⟩ := HY.out.spot (by omega)
              have k0 := (HSB.out.then HSw5.out).cell_eq (hcell r hlt).1 (fun h => h)
              have hin := HALL.out y[r].1 (.inr (fdocs_in y r hlt))
              have hi := HIy.out _ (List.getElem_mem hlt)
              generalize y[r].1 = d at *
              have hx := wf_i64 hi
              have hl := (HMB.out.same HSw5.out).run_look (t := 39) (e := 4) Try.underlying3 Try.underlying39 (show (zeroValue 4).run Try.prog w5 = .ok (.bool false) w5 from rfl) d hx
              rw [HG.out d, if_pos hin] at hl
              simp only [Option.map_some, Option.getD_some] at hl
              have hw6 : IntKind.i64.wrap ((r : Int) + 1) = (r : Int) + 1 := by rw [IntKind.wrap_i64]; omega
              have hd9 : decide (r < y.length) = true := decide_eq_true hlt
              clear hcell hin hi hx
              go_wp2_with fail
              go_roundw
              case rel => exact ⟨r + 1, by omega, by go_num, HSw5.out⟩
              case measure => simp [intOf]; omega
            · obtain rfl : r = y.length := by omega
              have hd9 : decide (y.length < y.length) = false := by simp
              have HSC := Lib.hid (HSB.out.then HSw5.out); have HMC := Lib.hid (HMB.out.same HSw5.out); have HSV2 := Lib.hid (HSV.out.then HSw5.out)
              clear HSB HMB HSV HSw5 hlt hr
              have HSB := Lib.hid HSC.out; have HMB := Lib.hid HMC.out; have HSV := Lib.hid HSV2.out
              clear HSC HMC HSV2
              go_wp2_with fail
              have hd10 : decide ((l.length : Int) ≤ (x.length : Int) + (y.length : Int)) = true := decide_eq_true (by have := HSUM.out; omega)
              have hwl : IntKind.i64.wrap ((x.length : Int) + (y.length : Int)) = (x.length : Int) + (y.length : Int) := by have := HL.out; rw [IntKind.wrap_i64]; omega
              by_cases hx0 : x.length = 0
              · have e1 : ((x.length : Int) == 0) = true := beq_iff_eq.2 (by omega)
                clear hx0
                go_upto_region 25 with fail
                go_quiet (fail)
                rename_i nq
                go_wp2_with fail
                go_ret
                exact ⟨rfl, HSB.out.drewN nq⟩
              have e1 : ((x.length : Int) == 0) = false := beq_eq_false_iff_ne.2 (by omega)
              by_cases hy0 : y.length = 0
              · have e2 : ((y.length : Int) == 0) = true := beq_iff_eq.2 (by omega)
                clear hx0 hy0
                go_upto_region 25 with fail
                go_quiet (fail)
                rename_i nq
                go_wp2_with fail
                go_ret
                exact ⟨rfl, HSB.out.drewN nq⟩
              have e2 : ((y.length : Int) == 0) = false := beq_eq_false_iff_ne.2 (by omega)
              obtain ⟨b1, o1, rfl, hc1⟩ := HX.out.spot (by omega)
              obtain ⟨b2, o2, rfl, hc2⟩ := HY.out.spot (by omega)
              have k1 := HSB.out.cell_eq (hc1 0 (by omega)).1 (fun h => h)
              have k2 := HSB.out.cell_eq (hc2 0 (by omega)).1 (fun h => h)
              have hl0 : 0 < l.length := by
                have h := HALL.out x[0].1 (.inl (fdocs_in x 0 (by omega)))
                unfold docsV at h
                obtain ⟨p, hp, _⟩ := List.mem_map.1 h
                exact List.length_pos_of_mem hp
              have hf := HFST.out (by omega) (by omega)
              obtain ⟨b3, o3, rfl, hc3⟩ := HVL.out.spot hl0
              have k3 := (HSV.out).cell_eq (hc3 0 hl0).1 (fun h => h)
              have hx1 : 0 < x.length := by omega
              have hy1 : 0 < y.length := by omega
              generalize x[0].1 = dx at *
              generalize y[0].1 = dy at *
              rw [Nat.zero_mul, Nat.add_zero] at k1 k2 k3
              by_cases hxy : dx = dy
              · have e3 := hf hxy hl0
                rw [e3] at k3
                subst hxy
                clear hf hc1 hc2 hc3 e3 hx0 hy0
                go_upto_region 25 with fail
                go_quiet (fail)
                rename_i nq
                go_wp2_with fail
                go_ret
                exact ⟨rfl, HSB.out.drewN nq⟩
              · have e3 : (dx != dy) = true := by simpa using hxy
                clear hf hc1 hc2 hc3 hxy hx0 hy0
                go_upto_region 25 with fail
                go_quiet (fail)
                rename_i nq
                go_wp2_with fail
                go_ret
                exact ⟨rfl, HSB.out.drewN nq⟩
end Go.Proofs.Ytpgbnjneoejebaa
