import Derived.Test.YtpgbnjneoejebaaTvUp
set_option linter.unusedVariables false
set_option linter.unusedSimpArgs false
namespace Go.Proofs.Ytpgbnjneoejebaa
open Go.RowKit
attribute [local go_sem ↓] Go.wp_at_zero Go.wp_at_succ

theorem wrap_succV (a : Nat) (h : a ≤ 10000000) : IntKind.i64.wrap ((a : Int) + 1) = (a : Int) + 1 := by rw [IntKind.wrap_i64]; omega
set_option maxRecDepth 100000 in
set_option maxHeartbeats 8000000 in
theorem tvdown_any (b k g cap : Nat) (h0 : List VP) (w : World) (ht : TvG w b k g cap h0) (hi : 0 < h0.length) (hl0 : h0.length ≤ 1000000) (hu : DownG h0 0) :
    Calls Try.prog 93 #[.pointer (some ⟨b, 0, none⟩)] w fun e w' => e = .returned (.tuple #[]) ∧ Only (· = g) w w' ∧ ∃ h', h'.Perm h0 ∧ HeapG h' ∧ TvG w' b k g cap h' := by
  have HT := Lib.hid ht; have HU := Lib.hid hu
  clear ht hu
  go_enter Try.func93, Try.ntmps93
  go_wp2_with fail
  go_loopw [2] (fun i wr => ∃ (n : Nat) (h : List VP), i = .int .i64 n ∧ n < h.length ∧ h.Perm h0 ∧ DownG h n ∧ Only (· = g) w wr ∧ TvG wr b k g cap h) (fun i _ => h0.length - (intOf i).toNat)
  case atStart => exact ⟨0, h0, rfl, hi, List.Perm.refl _, HU.out, Only.refl _ _, HT.out⟩
  case round =>
    obtain ⟨n, h, rfl, hn, hperm, hdn, hO, hT⟩ := hrel
    have hle := hperm.length_eq
    have hmx : h.length ≤ 1000000 := by omega
    have hn0 : n < h0.length := by omega
    have HP := Lib.hid hperm; have HD := Lib.hid hdn; have HO := Lib.hid hO; have HT2 := Lib.hid hT
    have hbg := hT.2.1
    clear hperm hdn hO hT HT HU hle
    obtain ⟨c, hc⟩ : ∃ c, c = 2 * n + 1 := ⟨_, rfl⟩
    have HCV : Hid (2 * (n : Int) + 1 = (c : Int)) := Lib.hid (by omega)
    have HC := Lib.hid hc
    clear hc
    go_upto_region 2 with fail
    rw [HCV.out]
    by_cases hA : c + 1 < h.length
    · have hcl : c < h.length := by omega
      have hd1 : decide ((c : Int) + 1 < (h.length : Int)) = true := decide_eq_true (by omega)
      obtain ⟨⟨k0, k1, k2⟩, _⟩ := three_facts HT2.out.1
      obtain ⟨c0, c1, c2⟩ := HT2.out.2.2.cell c hcl
      obtain ⟨e, he⟩ : ∃ e, e = c + 1 := ⟨_, rfl⟩
      have HE : Hid ((c : Int) + 1 = (e : Int)) := Lib.hid (by omega)
      have hel : e < h.length := by omega
      have hw1 : IntKind.i64.wrap ((c : Int) + 1) = (e : Int) := by rw [HE.out]; exact wrap_idV e (by omega)
      obtain ⟨d0, d1, d2⟩ := HT2.out.2.2.cell e hel
      have HEC := Lib.hid he
      clear he
      generalize hX : hpG h c = x at *
      generalize hY : hpG h e = y at *
      have HX := Lib.hid hX; have HY := Lib.hid hY
      clear hX hY
      have cb := fun w0 => vbetter_any x y w0
      cases hb : Bet.bet x y with
      | false =>
        rw [hb] at cb
        have CB := Lib.hid cb
        have HW : Hid (WorstG h n c) := Lib.hid (by rw [HC.out]; refine gworst_left h n ?_; rw [show 2 * n + 1 = c by rw [HC.out], show 2 * n + 2 = e by rw [HEC.out, HC.out], HX.out, HY.out]; exact hb)
        clear cb hb
        have q0 : Same wr wr := Only.refl _ _
        have hK : ∀ w', Same wr w' → (w'.cell? ⟨b, 1, none⟩ = some (.slice (some ⟨g, 0, none⟩) h.length cap) ∧ w'.cell? ⟨b, 2, none⟩ = some (.func (.func 14) #[] #[]) ∧ w'.cell? ⟨g, c * 3, none⟩ = some (.int .i64 x.1) ∧ w'.cell? ⟨g, c * 3 + 1, none⟩ = some (.int .i64 (vb x)) ∧ w'.cell? ⟨g, c * 3 + 2, none⟩ = some (.int .i64 (vc x)) ∧ w'.cell? ⟨g, e * 3, none⟩ = some (.int .i64 y.1) ∧ w'.cell? ⟨g, e * 3 + 1, none⟩ = some (.int .i64 (vb y)) ∧ w'.cell? ⟨g, e * 3 + 2, none⟩ = some (.int .i64 (vc y))) :=
          fun w' hS => ⟨hS.cell_eq k1 (fun h => h), hS.cell_eq k2 (fun h => h), hS.cell_eq c0 (fun h => h), hS.cell_eq c1 (fun h => h), hS.cell_eq c2 (fun h => h), hS.cell_eq d0 (fun h => h), hS.cell_eq d1 (fun h => h), hS.cell_eq d2 (fun h => h)⟩
        have HK := Lib.hid hK
        clear hK
        go_region_held3 (fun w' => w'.cell? ⟨b, 1, none⟩ = some (.slice (some ⟨g, 0, none⟩) h.length cap) ∧ w'.cell? ⟨b, 2, none⟩ = some (.func (.func 14) #[] #[]) ∧ w'.cell? ⟨g, c * 3, none⟩ = some (.int .i64 x.1) ∧ w'.cell? ⟨g, c * 3 + 1, none⟩ = some (.int .i64 (vb x)) ∧ w'.cell? ⟨g, c * 3 + 2, none⟩ = some (.int .i64 (vc x)) ∧ w'.cell? ⟨g, e * 3, none⟩ = some (.int .i64 y.1) ∧ w'.cell? ⟨g, e * 3 + 1, none⟩ = some (.int .i64 (vb y)) ∧ w'.cell? ⟨g, e * 3 + 2, none⟩ = some (.int .i64 (vc y)))
          (first | exact HK.out _ q0 | exact HK.out _ q0.drew)
          (first | ((go_at_call 14; refine (CB.out _).mono ?_; rintro e w8 ⟨rfl, hS8⟩; have q0 := Only.then (by first | exact q0 | exact q0.drew) hS8; clear hS8)))
        all_goals
          have HT3 := Lib.hid (HT2.out.same q0)
          have HO3 := Lib.hid (HO.out.then q0)
          clear k0 k1 k2 c0 c1 c2 d0 d1 d2 HK CB q0 HT2 HO HX HY
          obtain ⟨W2, hW2⟩ : ∃ x, x = w8 := ⟨_, rfl⟩
          subst hW2
          have HT2 := HT3; have HO2 := HO3
          clear HT3 HO3 hw1 hd1 HE HEC hel
          go_upto_region 4 with fail
          obtain ⟨⟨k0, k1, k2⟩, _⟩ := three_facts HT2.out.1
          obtain ⟨c0, c1, c2⟩ := HT2.out.2.2.cell n hn
          obtain ⟨d0, d1, d2⟩ := HT2.out.2.2.cell c hcl
          have hg1 : decide (h.length ≤ c) = false := decide_eq_false (by omega)
          have hg2 : decide ((h.length : Int) ≤ (c : Int)) = false := decide_eq_false (by omega)
          generalize hX : hpG h n = x at *
          generalize hY : hpG h c = y at *
          have HX := Lib.hid hX; have HY := Lib.hid hY
          clear hX hY
          have cb := fun w0 => vbetter_any x y w0
          cases hb : Bet.bet x y with
          | false =>
            rw [hb] at cb
            have CB := Lib.hid cb; have HB := Lib.hid hb
            clear cb hb
            have q0 : Same W2 W2 := Only.refl _ _
            have hK : ∀ w', Same W2 w' → (w'.cell? ⟨b, 1, none⟩ = some (.slice (some ⟨g, 0, none⟩) h.length cap) ∧ w'.cell? ⟨b, 2, none⟩ = some (.func (.func 14) #[] #[]) ∧ w'.cell? ⟨g, n * 3, none⟩ = some (.int .i64 x.1) ∧ w'.cell? ⟨g, n * 3 + 1, none⟩ = some (.int .i64 (vb x)) ∧ w'.cell? ⟨g, n * 3 + 2, none⟩ = some (.int .i64 (vc x)) ∧ w'.cell? ⟨g, c * 3, none⟩ = some (.int .i64 y.1) ∧ w'.cell? ⟨g, c * 3 + 1, none⟩ = some (.int .i64 (vb y)) ∧ w'.cell? ⟨g, c * 3 + 2, none⟩ = some (.int .i64 (vc y))) :=
              fun w' hS => ⟨hS.cell_eq k1 (fun h => h), hS.cell_eq k2 (fun h => h), hS.cell_eq c0 (fun h => h), hS.cell_eq c1 (fun h => h), hS.cell_eq c2 (fun h => h), hS.cell_eq d0 (fun h => h), hS.cell_eq d1 (fun h => h), hS.cell_eq d2 (fun h => h)⟩
            have HK := Lib.hid hK
            clear hK
            go_region_held3 (fun w' => w'.cell? ⟨b, 1, none⟩ = some (.slice (some ⟨g, 0, none⟩) h.length cap) ∧ w'.cell? ⟨b, 2, none⟩ = some (.func (.func 14) #[] #[]) ∧ w'.cell? ⟨g, n * 3, none⟩ = some (.int .i64 x.1) ∧ w'.cell? ⟨g, n * 3 + 1, none⟩ = some (.int .i64 (vb x)) ∧ w'.cell? ⟨g, n * 3 + 2, none⟩ = some (.int .i64 (vc x)) ∧ w'.cell? ⟨g, c * 3, none⟩ = some (.int .i64 y.1) ∧ w'.cell? ⟨g, c * 3 + 1, none⟩ = some (.int .i64 (vb y)) ∧ w'.cell? ⟨g, c * 3 + 2, none⟩ = some (.int .i64 (vc y)))
              (first | exact HK.out _ q0 | exact HK.out _ q0.drew)
              (first | ((go_at_call 14; refine (CB.out _).mono ?_; rintro e w8 ⟨rfl, hS8⟩; have q0 := Only.then (by first | exact q0 | exact q0.drew) hS8; clear hS8)))
            all_goals
              go_wp2_with fail
              refine bodyPost_ret (results_none rfl _ _ _) rfl ?_
              exact ⟨rfl, by first | exact HO2.out.then q0 | exact HO2.out.then q0.drew, h, HP.out, gdown_stop h n c HD.out HW.out (.inr (by rw [HX.out, HY.out]; exact HB.out)), by first | exact HT2.out.same q0 | exact HT2.out.same q0.drew⟩
          | true =>
            rw [hb] at cb
            have CB := Lib.hid cb; have HB := Lib.hid hb
            clear cb hb
            have q0 : Same W2 W2 := Only.refl _ _
            have hK : ∀ w', Same W2 w' → (w'.cell? ⟨b, 1, none⟩ = some (.slice (some ⟨g, 0, none⟩) h.length cap) ∧ w'.cell? ⟨b, 2, none⟩ = some (.func (.func 14) #[] #[]) ∧ w'.cell? ⟨g, n * 3, none⟩ = some (.int .i64 x.1) ∧ w'.cell? ⟨g, n * 3 + 1, none⟩ = some (.int .i64 (vb x)) ∧ w'.cell? ⟨g, n * 3 + 2, none⟩ = some (.int .i64 (vc x)) ∧ w'.cell? ⟨g, c * 3, none⟩ = some (.int .i64 y.1) ∧ w'.cell? ⟨g, c * 3 + 1, none⟩ = some (.int .i64 (vb y)) ∧ w'.cell? ⟨g, c * 3 + 2, none⟩ = some (.int .i64 (vc y))) :=
              fun w' hS => ⟨hS.cell_eq k1 (fun h => h), hS.cell_eq k2 (fun h => h), hS.cell_eq c0 (fun h => h), hS.cell_eq c1 (fun h => h), hS.cell_eq c2 (fun h => h), hS.cell_eq d0 (fun h => h), hS.cell_eq d1 (fun h => h), hS.cell_eq d2 (fun h => h)⟩
            have HK := Lib.hid hK
            clear hK
            go_region_held3 (fun w' => w'.cell? ⟨b, 1, none⟩ = some (.slice (some ⟨g, 0, none⟩) h.length cap) ∧ w'.cell? ⟨b, 2, none⟩ = some (.func (.func 14) #[] #[]) ∧ w'.cell? ⟨g, n * 3, none⟩ = some (.int .i64 x.1) ∧ w'.cell? ⟨g, n * 3 + 1, none⟩ = some (.int .i64 (vb x)) ∧ w'.cell? ⟨g, n * 3 + 2, none⟩ = some (.int .i64 (vc x)) ∧ w'.cell? ⟨g, c * 3, none⟩ = some (.int .i64 y.1) ∧ w'.cell? ⟨g, c * 3 + 1, none⟩ = some (.int .i64 (vb y)) ∧ w'.cell? ⟨g, c * 3 + 2, none⟩ = some (.int .i64 (vc y)))
              (first | exact HK.out _ q0 | exact HK.out _ q0.drew)
              (first | ((go_at_call 14; refine (CB.out _).mono ?_; rintro e w8 ⟨rfl, hS8⟩; have q0 := Only.then (by first | exact q0 | exact q0.drew) hS8; clear hS8)))
            all_goals
              have hT8 := HT2.out.same q0
              obtain ⟨z1, z2, z3, z4, z5, z6, z7, z8⟩ := HK.out _ q0
              obtain ⟨cs, hcs, hcr⟩ := hT8.2.2
              have f0 := blk_frozen hcs (c * 3)
              have f1 := blk_frozen hcs (c * 3 + 1)
              have g1 := blk_frozen hcs (c * 3 + 2)
              have f2 := blk_frozen hcs (n * 3)
              have f3 := blk_frozen hcs (n * 3 + 1)
              have g3 := blk_frozen hcs (n * 3 + 2)
              have HT8 := Lib.hid hT8
              have HO8 := Lib.hid (HO2.out.then q0)
              have hne : n ≠ c := by have := HW.out.1; have := HW.out.2.1; omega
              clear hT8 hcs hcr k0 k1 k2 c0 c1 c2 d0 d1 d2 HK CB q0 HT2 HO2
              go_upto_region 5 with fail
              go_region
              have hq8 : Only (· = g) w8 ((((((w8.setCell ⟨g, n * 3, none⟩ (.int .i64 y.1)).setCell ⟨g, n * 3 + 1, none⟩ (.int .i64 (vb y))).setCell ⟨g, n * 3 + 2, none⟩ (.int .i64 (vc y))).setCell ⟨g, c * 3, none⟩ (.int .i64 x.1)).setCell ⟨g, c * 3 + 1, none⟩ (.int .i64 (vb x))).setCell ⟨g, c * 3 + 2, none⟩ (.int .i64 (vc x))).drew :=
                (((((((Only.refl (· = g) w8).setCell (fun _ => rfl) _).setCell (fun _ => rfl) _).setCell (fun _ => rfl) _).setCell (fun _ => rfl) _).setCell (fun _ => rfl) _).setCell (fun _ => rfl) _).drew
              have hr8 := (HT8.out.2.2.set n y hn).set c x (by simpa using hcl)
              have hsw : (h.set n y).set c x = swapG h n c := by unfold swapG; rw [HX.out, HY.out]
              rw [hsw] at hr8
              have hb8 := hq8.heap HT8.out.1 (fun h => by have h2 : b = g := h; omega)
              have hT9 := tvG_drew (by rw [swapG_len]; exact hb8) hbg hr8
              have HT9 := Lib.hid hT9
              have HO9 := Lib.hid (HO8.out.same hq8)
              generalize ((((((w8.setCell ⟨g, n * 3, none⟩ (.int .i64 y.1)).setCell ⟨g, n * 3 + 1, none⟩ (.int .i64 (vb y))).setCell ⟨g, n * 3 + 2, none⟩ (.int .i64 (vc y))).setCell ⟨g, c * 3, none⟩ (.int .i64 x.1)).setCell ⟨g, c * 3 + 1, none⟩ (.int .i64 (vb x))).setCell ⟨g, c * 3 + 2, none⟩ (.int .i64 (vc x))).drew = W9 at *
              clear hq8 hr8 hsw hb8 hT9 z1 z2 z3 z4 z5 z6 z7 z8 f0 f1 f2 f3 g1 g3 HT8 HO8
              go_wp2_with fail
              go_roundw
              case rel => exact ⟨c, swapG h n c, rfl, by rw [swapG_len]; exact hcl, (swapG_perm h n c hn hcl).trans HP.out, gdown_step h n c hcl HD.out HW.out (by rw [HX.out, HY.out]; exact HB.out), HO9.out, HT9.out⟩
              case measure => simp [intOf]; have := HW.out.1; have := HW.out.2.1; omega
      | true =>
        rw [hb] at cb
        have CB := Lib.hid cb
        have HW : Hid (WorstG h n e) := Lib.hid (by rw [show e = 2 * n + 2 by rw [HEC.out, HC.out]]; refine gworst_right h n ?_; rw [show 2 * n + 1 = c by rw [HC.out], show 2 * n + 2 = e by rw [HEC.out, HC.out], HX.out, HY.out]; exact hb)
        clear cb hb
        have q0 : Same wr wr := Only.refl _ _
        have hK : ∀ w', Same wr w' → (w'.cell? ⟨b, 1, none⟩ = some (.slice (some ⟨g, 0, none⟩) h.length cap) ∧ w'.cell? ⟨b, 2, none⟩ = some (.func (.func 14) #[] #[]) ∧ w'.cell? ⟨g, c * 3, none⟩ = some (.int .i64 x.1) ∧ w'.cell? ⟨g, c * 3 + 1, none⟩ = some (.int .i64 (vb x)) ∧ w'.cell? ⟨g, c * 3 + 2, none⟩ = some (.int .i64 (vc x)) ∧ w'.cell? ⟨g, e * 3, none⟩ = some (.int .i64 y.1) ∧ w'.cell? ⟨g, e * 3 + 1, none⟩ = some (.int .i64 (vb y)) ∧ w'.cell? ⟨g, e * 3 + 2, none⟩ = some (.int .i64 (vc y))) :=
          fun w' hS => ⟨hS.cell_eq k1 (fun h => h), hS.cell_eq k2 (fun h => h), hS.cell_eq c0 (fun h => h), hS.cell_eq c1 (fun h => h), hS.cell_eq c2 (fun h => h), hS.cell_eq d0 (fun h => h), hS.cell_eq d1 (fun h => h), hS.cell_eq d2 (fun h => h)⟩
        have HK := Lib.hid hK
        clear hK
        go_region_held3 (fun w' => w'.cell? ⟨b, 1, none⟩ = some (.slice (some ⟨g, 0, none⟩) h.length cap) ∧ w'.cell? ⟨b, 2, none⟩ = some (.func (.func 14) #[] #[]) ∧ w'.cell? ⟨g, c * 3, none⟩ = some (.int .i64 x.1) ∧ w'.cell? ⟨g, c * 3 + 1, none⟩ = some (.int .i64 (vb x)) ∧ w'.cell? ⟨g, c * 3 + 2, none⟩ = some (.int .i64 (vc x)) ∧ w'.cell? ⟨g, e * 3, none⟩ = some (.int .i64 y.1) ∧ w'.cell? ⟨g, e * 3 + 1, none⟩ = some (.int .i64 (vb y)) ∧ w'.cell? ⟨g, e * 3 + 2, none⟩ = some (.int .i64 (vc y)))
          (first | exact HK.out _ q0 | exact HK.out _ q0.drew)
          (first | ((go_at_call 14; refine (CB.out _).mono ?_; rintro e w8 ⟨rfl, hS8⟩; have q0 := Only.then (by first | exact q0 | exact q0.drew) hS8; clear hS8)))
        all_goals
          have HT3 := Lib.hid (HT2.out.same q0)
          have HO3 := Lib.hid (HO.out.then q0)
          clear k0 k1 k2 c0 c1 c2 d0 d1 d2 HK CB q0 HT2 HO HX HY
          obtain ⟨W2, hW2⟩ : ∃ x, x = w8 := ⟨_, rfl⟩
          subst hW2
          have HT2 := HT3; have HO2 := HO3
          have hcl := hel
          clear HT3 HO3 hd1 hel
          go_upto_region 4 with fail
          try rw [HE.out]
          clear hw1 HE HEC
          obtain ⟨⟨k0, k1, k2⟩, _⟩ := three_facts HT2.out.1
          obtain ⟨c0, c1, c2⟩ := HT2.out.2.2.cell n hn
          obtain ⟨d0, d1, d2⟩ := HT2.out.2.2.cell e hcl
          have hg1 : decide (h.length ≤ e) = false := decide_eq_false (by omega)
          have hg2 : decide ((h.length : Int) ≤ (e : Int)) = false := decide_eq_false (by omega)
          generalize hX : hpG h n = x at *
          generalize hY : hpG h e = y at *
          have HX := Lib.hid hX; have HY := Lib.hid hY
          clear hX hY
          have cb := fun w0 => vbetter_any x y w0
          cases hb : Bet.bet x y with
          | false =>
            rw [hb] at cb
            have CB := Lib.hid cb; have HB := Lib.hid hb
            clear cb hb
            have q0 : Same W2 W2 := Only.refl _ _
            have hK : ∀ w', Same W2 w' → (w'.cell? ⟨b, 1, none⟩ = some (.slice (some ⟨g, 0, none⟩) h.length cap) ∧ w'.cell? ⟨b, 2, none⟩ = some (.func (.func 14) #[] #[]) ∧ w'.cell? ⟨g, n * 3, none⟩ = some (.int .i64 x.1) ∧ w'.cell? ⟨g, n * 3 + 1, none⟩ = some (.int .i64 (vb x)) ∧ w'.cell? ⟨g, n * 3 + 2, none⟩ = some (.int .i64 (vc x)) ∧ w'.cell? ⟨g, e * 3, none⟩ = some (.int .i64 y.1) ∧ w'.cell? ⟨g, e * 3 + 1, none⟩ = some (.int .i64 (vb y)) ∧ w'.cell? ⟨g, e * 3 + 2, none⟩ = some (.int .i64 (vc y))) :=
              fun w' hS => ⟨hS.cell_eq k1 (fun h => h), hS.cell_eq k2 (fun h => h), hS.cell_eq c0 (fun h => h), hS.cell_eq c1 (fun h => h), hS.cell_eq c2 (fun h => h), hS.cell_eq d0 (fun h => h), hS.cell_eq d1 (fun h => h), hS.cell_eq d2 (fun h => h)⟩
            have HK := Lib.hid hK
            clear hK
            go_region_held3 (fun w' => w'.cell? ⟨b, 1, none⟩ = some (.slice (some ⟨g, 0, none⟩) h.length cap) ∧ w'.cell? ⟨b, 2, none⟩ = some (.func (.func 14) #[] #[]) ∧ w'.cell? ⟨g, n * 3, none⟩ = some (.int .i64 x.1) ∧ w'.cell? ⟨g, n * 3 + 1, none⟩ = some (.int .i64 (vb x)) ∧ w'.cell? ⟨g, n * 3 + 2, none⟩ = some (.int .i64 (vc x)) ∧ w'.cell? ⟨g, e * 3, none⟩ = some (.int .i64 y.1) ∧ w'.cell? ⟨g, e * 3 + 1, none⟩ = some (.int .i64 (vb y)) ∧ w'.cell? ⟨g, e * 3 + 2, none⟩ = some (.int .i64 (vc y)))
              (first | exact HK.out _ q0 | exact HK.out _ q0.drew)
              (first | ((go_at_call 14; refine (CB.out _).mono ?_; rintro e w8 ⟨rfl, hS8⟩; have q0 := Only.then (by first | exact q0 | exact q0.drew) hS8; clear hS8)))
            all_goals
              go_wp2_with fail
              refine bodyPost_ret (results_none rfl _ _ _) rfl ?_
              exact ⟨rfl, by first | exact HO2.out.then q0 | exact HO2.out.then q0.drew, h, HP.out, gdown_stop h n e HD.out HW.out (.inr (by rw [HX.out, HY.out]; exact HB.out)), by first | exact HT2.out.same q0 | exact HT2.out.same q0.drew⟩
          | true =>
            rw [hb] at cb
            have CB := Lib.hid cb; have HB := Lib.hid hb
            clear cb hb
            have q0 : Same W2 W2 := Only.refl _ _
            have hK : ∀ w', Same W2 w' → (w'.cell? ⟨b, 1, none⟩ = some (.slice (some ⟨g, 0, none⟩) h.length cap) ∧ w'.cell? ⟨b, 2, none⟩ = some (.func (.func 14) #[] #[]) ∧ w'.cell? ⟨g, n * 3, none⟩ = some (.int .i64 x.1) ∧ w'.cell? ⟨g, n * 3 + 1, none⟩ = some (.int .i64 (vb x)) ∧ w'.cell? ⟨g, n * 3 + 2, none⟩ = some (.int .i64 (vc x)) ∧ w'.cell? ⟨g, e * 3, none⟩ = some (.int .i64 y.1) ∧ w'.cell? ⟨g, e * 3 + 1, none⟩ = some (.int .i64 (vb y)) ∧ w'.cell? ⟨g, e * 3 + 2, none⟩ = some (.int .i64 (vc y))) :=
              fun w' hS => ⟨hS.cell_eq k1 (fun h => h), hS.cell_eq k2 (fun h => h), hS.cell_eq c0 (fun h => h), hS.cell_eq c1 (fun h => h), hS.cell_eq c2 (fun h => h), hS.cell_eq d0 (fun h => h), hS.cell_eq d1 (fun h => h), hS.cell_eq d2 (fun h => h)⟩
            have HK := Lib.hid hK
            clear hK
            go_region_held3 (fun w' => w'.cell? ⟨b, 1, none⟩ = some (.slice (some ⟨g, 0, none⟩) h.length cap) ∧ w'.cell? ⟨b, 2, none⟩ = some (.func (.func 14) #[] #[]) ∧ w'.cell? ⟨g, n * 3, none⟩ = some (.int .i64 x.1) ∧ w'.cell? ⟨g, n * 3 + 1, none⟩ = some (.int .i64 (vb x)) ∧ w'.cell? ⟨g, n * 3 + 2, none⟩ = some (.int .i64 (vc x)) ∧ w'.cell? ⟨g, e * 3, none⟩ = some (.int .i64 y.1) ∧ w'.cell? ⟨g, e * 3 + 1, none⟩ = some (.int .i64 (vb y)) ∧ w'.cell? ⟨g, e * 3 + 2, none⟩ = some (.int .i64 (vc y)))
              (first | exact HK.out _ q0 | exact HK.out _ q0.drew)
              (first | ((go_at_call 14; refine (CB.out _).mono ?_; rintro e w8 ⟨rfl, hS8⟩; have q0 := Only.then (by first | exact q0 | exact q0.drew) hS8; clear hS8)))
            all_goals
              have hT8 := HT2.out.same q0
              obtain ⟨z1, z2, z3, z4, z5, z6, z7, z8⟩ := HK.out _ q0
              obtain ⟨cs, hcs, hcr⟩ := hT8.2.2
              have f0 := blk_frozen hcs (e * 3)
              have f1 := blk_frozen hcs (e * 3 + 1)
              have g1 := blk_frozen hcs (e * 3 + 2)
              have f2 := blk_frozen hcs (n * 3)
              have f3 := blk_frozen hcs (n * 3 + 1)
              have g3 := blk_frozen hcs (n * 3 + 2)
              have HT8 := Lib.hid hT8
              have HO8 := Lib.hid (HO2.out.then q0)
              have hne : n ≠ e := by have := HW.out.1; have := HW.out.2.1; omega
              clear hT8 hcs hcr k0 k1 k2 c0 c1 c2 d0 d1 d2 HK CB q0 HT2 HO2
              go_upto_region 5 with fail
              go_region
              have hq8 : Only (· = g) w8 ((((((w8.setCell ⟨g, n * 3, none⟩ (.int .i64 y.1)).setCell ⟨g, n * 3 + 1, none⟩ (.int .i64 (vb y))).setCell ⟨g, n * 3 + 2, none⟩ (.int .i64 (vc y))).setCell ⟨g, e * 3, none⟩ (.int .i64 x.1)).setCell ⟨g, e * 3 + 1, none⟩ (.int .i64 (vb x))).setCell ⟨g, e * 3 + 2, none⟩ (.int .i64 (vc x))).drew :=
                (((((((Only.refl (· = g) w8).setCell (fun _ => rfl) _).setCell (fun _ => rfl) _).setCell (fun _ => rfl) _).setCell (fun _ => rfl) _).setCell (fun _ => rfl) _).setCell (fun _ => rfl) _).drew
              have hr8 := (HT8.out.2.2.set n y hn).set e x (by simpa using hcl)
              have hsw : (h.set n y).set e x = swapG h n e := by unfold swapG; rw [HX.out, HY.out]
              rw [hsw] at hr8
              have hb8 := hq8.heap HT8.out.1 (fun h => by have h2 : b = g := h; omega)
              have hT9 := tvG_drew (by rw [swapG_len]; exact hb8) hbg hr8
              have HT9 := Lib.hid hT9
              have HO9 := Lib.hid (HO8.out.same hq8)
              generalize ((((((w8.setCell ⟨g, n * 3, none⟩ (.int .i64 y.1)).setCell ⟨g, n * 3 + 1, none⟩ (.int .i64 (vb y))).setCell ⟨g, n * 3 + 2, none⟩ (.int .i64 (vc y))).setCell ⟨g, e * 3, none⟩ (.int .i64 x.1)).setCell ⟨g, e * 3 + 1, none⟩ (.int .i64 (vb x))).setCell ⟨g, e * 3 + 2, none⟩ (.int .i64 (vc x))).drew = W9 at *
              clear hq8 hr8 hsw hb8 hT9 z1 z2 z3 z4 z5 z6 z7 z8 f0 f1 f2 f3 g1 g3 HT8 HO8
              go_wp2_with fail
              go_roundw
              case rel => exact ⟨e, swapG h n e, rfl, by rw [swapG_len]; exact hcl, (swapG_perm h n e hn hcl).trans HP.out, gdown_step h n e hcl HD.out HW.out (by rw [HX.out, HY.out]; exact HB.out), HO9.out, HT9.out⟩
              case measure => simp [intOf]; have := HW.out.1; have := HW.out.2.1; omega
    · have hd1 : decide ((c : Int) + 1 < (h.length : Int)) = false := decide_eq_false (by omega)
      have hw1 := wrap_succV c (by have := HC.out; omega)
      obtain ⟨⟨k0, k1, k2⟩, _⟩ := three_facts HT2.out.1
      go_quiet (fail)
      rename_i nq
      have HT3 := Lib.hid (HT2.out.same ((Only.refl (fun _ => False) wr).drewN nq))
      have HO3 := Lib.hid (HO.out.drewN nq)
      clear k0 k1 k2 HT2 HO
      have HT2 := HT3; have HO2 := HO3
      clear HT3 HO3
      generalize wr.drewN nq = W2 at *
      go_upto_region 4 with fail
      by_cases hcl : c < h.length
      · have HW : Hid (WorstG h n c) := Lib.hid (by rw [HC.out]; exact gworst_one h n (by have := HC.out; omega))
        obtain ⟨⟨k0, k1, k2⟩, _⟩ := three_facts HT2.out.1
        obtain ⟨c0, c1, c2⟩ := HT2.out.2.2.cell n hn
        obtain ⟨d0, d1, d2⟩ := HT2.out.2.2.cell c hcl
        have hg1 : decide (h.length ≤ c) = false := decide_eq_false (by omega)
        have hg2 : decide ((h.length : Int) ≤ (c : Int)) = false := decide_eq_false (by omega)
        generalize hX : hpG h n = x at *
        generalize hY : hpG h c = y at *
        have HX := Lib.hid hX; have HY := Lib.hid hY
        clear hX hY
        have cb := fun w0 => vbetter_any x y w0
        cases hb : Bet.bet x y with
        | false =>
          rw [hb] at cb
          have CB := Lib.hid cb; have HB := Lib.hid hb
          clear cb hb
          have q0 : Same W2 W2 := Only.refl _ _
          have hK : ∀ w', Same W2 w' → (w'.cell? ⟨b, 1, none⟩ = some (.slice (some ⟨g, 0, none⟩) h.length cap) ∧ w'.cell? ⟨b, 2, none⟩ = some (.func (.func 14) #[] #[]) ∧ w'.cell? ⟨g, n * 3, none⟩ = some (.int .i64 x.1) ∧ w'.cell? ⟨g, n * 3 + 1, none⟩ = some (.int .i64 (vb x)) ∧ w'.cell? ⟨g, n * 3 + 2, none⟩ = some (.int .i64 (vc x)) ∧ w'.cell? ⟨g, c * 3, none⟩ = some (.int .i64 y.1) ∧ w'.cell? ⟨g, c * 3 + 1, none⟩ = some (.int .i64 (vb y)) ∧ w'.cell? ⟨g, c * 3 + 2, none⟩ = some (.int .i64 (vc y))) :=
            fun w' hS => ⟨hS.cell_eq k1 (fun h => h), hS.cell_eq k2 (fun h => h), hS.cell_eq c0 (fun h => h), hS.cell_eq c1 (fun h => h), hS.cell_eq c2 (fun h => h), hS.cell_eq d0 (fun h => h), hS.cell_eq d1 (fun h => h), hS.cell_eq d2 (fun h => h)⟩
          have HK := Lib.hid hK
          clear hK
          go_region_held3 (fun w' => w'.cell? ⟨b, 1, none⟩ = some (.slice (some ⟨g, 0, none⟩) h.length cap) ∧ w'.cell? ⟨b, 2, none⟩ = some (.func (.func 14) #[] #[]) ∧ w'.cell? ⟨g, n * 3, none⟩ = some (.int .i64 x.1) ∧ w'.cell? ⟨g, n * 3 + 1, none⟩ = some (.int .i64 (vb x)) ∧ w'.cell? ⟨g, n * 3 + 2, none⟩ = some (.int .i64 (vc x)) ∧ w'.cell? ⟨g, c * 3, none⟩ = some (.int .i64 y.1) ∧ w'.cell? ⟨g, c * 3 + 1, none⟩ = some (.int .i64 (vb y)) ∧ w'.cell? ⟨g, c * 3 + 2, none⟩ = some (.int .i64 (vc y)))
            (first | exact HK.out _ q0 | exact HK.out _ q0.drew)
            (first | ((go_at_call 14; refine (CB.out _).mono ?_; rintro e w8 ⟨rfl, hS8⟩; have q0 := Only.then (by first | exact q0 | exact q0.drew) hS8; clear hS8)))
          all_goals
            go_wp2_with fail
            refine bodyPost_ret (results_none rfl _ _ _) rfl ?_
            exact ⟨rfl, by first | exact HO2.out.then q0 | exact HO2.out.then q0.drew, h, HP.out, gdown_stop h n c HD.out HW.out (.inr (by rw [HX.out, HY.out]; exact HB.out)), by first | exact HT2.out.same q0 | exact HT2.out.same q0.drew⟩
        | true =>
          rw [hb] at cb
          have CB := Lib.hid cb; have HB := Lib.hid hb
          clear cb hb
          have q0 : Same W2 W2 := Only.refl _ _
          have hK : ∀ w', Same W2 w' → (w'.cell? ⟨b, 1, none⟩ = some (.slice (some ⟨g, 0, none⟩) h.length cap) ∧ w'.cell? ⟨b, 2, none⟩ = some (.func (.func 14) #[] #[]) ∧ w'.cell? ⟨g, n * 3, none⟩ = some (.int .i64 x.1) ∧ w'.cell? ⟨g, n * 3 + 1, none⟩ = some (.int .i64 (vb x)) ∧ w'.cell? ⟨g, n * 3 + 2, none⟩ = some (.int .i64 (vc x)) ∧ w'.cell? ⟨g, c * 3, none⟩ = some (.int .i64 y.1) ∧ w'.cell? ⟨g, c * 3 + 1, none⟩ = some (.int .i64 (vb y)) ∧ w'.cell? ⟨g, c * 3 + 2, none⟩ = some (.int .i64 (vc y))) :=
            fun w' hS => ⟨hS.cell_eq k1 (fun h => h), hS.cell_eq k2 (fun h => h), hS.cell_eq c0 (fun h => h), hS.cell_eq c1 (fun h => h), hS.cell_eq c2 (fun h => h), hS.cell_eq d0 (fun h => h), hS.cell_eq d1 (fun h => h), hS.cell_eq d2 (fun h => h)⟩
          have HK := Lib.hid hK
          clear hK
          go_region_held3 (fun w' => w'.cell? ⟨b, 1, none⟩ = some (.slice (some ⟨g, 0, none⟩) h.length cap) ∧ w'.cell? ⟨b, 2, none⟩ = some (.func (.func 14) #[] #[]) ∧ w'.cell? ⟨g, n * 3, none⟩ = some (.int .i64 x.1) ∧ w'.cell? ⟨g, n * 3 + 1, none⟩ = some (.int .i64 (vb x)) ∧ w'.cell? ⟨g, n * 3 + 2, none⟩ = some (.int .i64 (vc x)) ∧ w'.cell? ⟨g, c * 3, none⟩ = some (.int .i64 y.1) ∧ w'.cell? ⟨g, c * 3 + 1, none⟩ = some (.int .i64 (vb y)) ∧ w'.cell? ⟨g, c * 3 + 2, none⟩ = some (.int .i64 (vc y)))
            (first | exact HK.out _ q0 | exact HK.out _ q0.drew)
            (first | ((go_at_call 14; refine (CB.out _).mono ?_; rintro e w8 ⟨rfl, hS8⟩; have q0 := Only.then (by first | exact q0 | exact q0.drew) hS8; clear hS8)))
          all_goals
            have hT8 := HT2.out.same q0
            obtain ⟨z1, z2, z3, z4, z5, z6, z7, z8⟩ := HK.out _ q0
            obtain ⟨cs, hcs, hcr⟩ := hT8.2.2
            have f0 := blk_frozen hcs (c * 3)
            have f1 := blk_frozen hcs (c * 3 + 1)
            have g1 := blk_frozen hcs (c * 3 + 2)
            have f2 := blk_frozen hcs (n * 3)
            have f3 := blk_frozen hcs (n * 3 + 1)
            have g3 := blk_frozen hcs (n * 3 + 2)
            have HT8 := Lib.hid hT8
            have HO8 := Lib.hid (HO2.out.then q0)
            have hne : n ≠ c := by have := HW.out.1; have := HW.out.2.1; omega
            clear hT8 hcs hcr k0 k1 k2 c0 c1 c2 d0 d1 d2 HK CB q0 HT2 HO2
            go_upto_region 5 with fail
            go_region
            have hq8 : Only (· = g) w8 ((((((w8.setCell ⟨g, n * 3, none⟩ (.int .i64 y.1)).setCell ⟨g, n * 3 + 1, none⟩ (.int .i64 (vb y))).setCell ⟨g, n * 3 + 2, none⟩ (.int .i64 (vc y))).setCell ⟨g, c * 3, none⟩ (.int .i64 x.1)).setCell ⟨g, c * 3 + 1, none⟩ (.int .i64 (vb x))).setCell ⟨g, c * 3 + 2, none⟩ (.int .i64 (vc x))).drew :=
              (((((((Only.refl (· = g) w8).setCell (fun _ => rfl) _).setCell (fun _ => rfl) _).setCell (fun _ => rfl) _).setCell (fun _ => rfl) _).setCell (fun _ => rfl) _).setCell (fun _ => rfl) _).drew
            have hr8 := (HT8.out.2.2.set n y hn).set c x (by simpa using hcl)
            have hsw : (h.set n y).set c x = swapG h n c := by unfold swapG; rw [HX.out, HY.out]
            rw [hsw] at hr8
            have hb8 := hq8.heap HT8.out.1 (fun h => by have h2 : b = g := h; omega)
            have hT9 := tvG_drew (by rw [swapG_len]; exact hb8) hbg hr8
            have HT9 := Lib.hid hT9
            have HO9 := Lib.hid (HO8.out.same hq8)
            generalize ((((((w8.setCell ⟨g, n * 3, none⟩ (.int .i64 y.1)).setCell ⟨g, n * 3 + 1, none⟩ (.int .i64 (vb y))).setCell ⟨g, n * 3 + 2, none⟩ (.int .i64 (vc y))).setCell ⟨g, c * 3, none⟩ (.int .i64 x.1)).setCell ⟨g, c * 3 + 1, none⟩ (.int .i64 (vb x))).setCell ⟨g, c * 3 + 2, none⟩ (.int .i64 (vc x))).drew = W9 at *
            clear hq8 hr8 hsw hb8 hT9 z1 z2 z3 z4 z5 z6 z7 z8 f0 f1 f2 f3 g1 g3 HT8 HO8
            go_wp2_with fail
            go_roundw
            case rel => exact ⟨c, swapG h n c, rfl, by rw [swapG_len]; exact hcl, (swapG_perm h n c hn hcl).trans HP.out, gdown_step h n c hcl HD.out HW.out (by rw [HX.out, HY.out]; exact HB.out), HO9.out, HT9.out⟩
            case measure => simp [intOf]; have := HW.out.1; have := HW.out.2.1; omega
      · obtain ⟨⟨k0, k1, k2⟩, _⟩ := three_facts HT2.out.1
        have hg1 : decide (h.length ≤ c) = true := decide_eq_true (by omega)
        have hg2 : decide ((h.length : Int) ≤ (c : Int)) = true := decide_eq_true (by omega)
        go_quiet (fail)
        rename_i nq
        go_wp2_with fail
        refine bodyPost_ret (results_none rfl _ _ _) rfl ?_
        exact ⟨rfl, HO2.out.drewN nq, h, HP.out, gdown_stop h n (2 * n + 1) HD.out (gworst_one h n (by have := HC.out; omega)) (.inl (by have := HC.out; omega)), HT2.out.same ((Only.refl (fun _ => False) W2).drewN nq)⟩
end Go.Proofs.Ytpgbnjneoejebaa
