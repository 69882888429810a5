import Derived.Test.YtjegohibpojneaaTopAwake
import Derived.Deep.CutRange
set_option linter.unusedVariables false
set_option linter.unusedSimpArgs false
namespace Go.Proofs.Ytjegohibpojneaa
open Go.RowKit
attribute [local go_sem ↓] Go.wp_at_zero Go.wp_at_succ

theorem SlP.freshK {w w' : World} {v : Value} {l : List (Int × Int)} {S : Nat → Prop} {base : Nat} (h : SlP w v l) (hf : Fr base v) (ho : Only S w w') (hS : ∀ i, S i → i < base) : SlP w' v l :=
  h.keep ho (fun b off sp n c _ e hb => by have := hf b off sp n c e; have := hS b hb; omega)
set_option maxRecDepth 100000 in
set_option maxHeartbeats 16000000 in
theorem topkKeeps_walk (K : Int) (v0 : Value) (l : List (Int × Int)) (w : World) (hK : -9223372036854775808 ≤ K ∧ K ≤ 9223372036854775807) (h0 : SlP w v0 l) :
    Calls Try.prog 8 #[.int .i64 K, v0] w fun e w' => e = .returned (.bool true) ∧ Same w w' := by
  have H0 := Lib.hid h0; have HKR := Lib.hid hK
  obtain ⟨ad, cp, rfl, hcp, hmx⟩ := h0.lit
  unfold maxLen at hmx
  clear h0 hK
  go_enter Try.func8, Try.ntmps8
  go_wp2_with fail
  refine (tawake_any _).mono ?_
  rintro e w1 ⟨rfl, hS1⟩
  have HS1 := Lib.hid hS1
  have H1 := Lib.hid (H0.out.same hS1)
  clear hS1
  by_cases hl : 200 < l.length
  · have hld : (200 : Int) < (l.length : Int) := by omega
    go_wp2_with fail
    go_ret
    exact ⟨rfl, HS1.out⟩
  have hld : ¬ (200 : Int) < (l.length : Int) := by omega
  go_wp2_with fail
  refine (tnew_any K w1 HKR.out).mono ?_
  rintro e w2 ⟨rfl, hS2, hT2⟩
  have HT2 := Lib.hid hT2; have H2 := Lib.hid (H1.out.same hS2); have HS2 := Lib.hid (HS1.out.then hS2)
  have hb0 : w.heap.size ≤ w1.heap.size := HS1.out.size
  generalize w1.heap.size = b at *
  clear hS2 hT2 HS1 H1
  go_wp2_with fail
  go_loopw [6] (fun i wr => ∃ (k : Nat) (h : List (Int × Int)), k ≤ l.length ∧ i = .int .i64 k ∧ Same w wr ∧ SlP wr (.slice ad l.length cp) l ∧ TopAt wr b K.toNat h ∧ HeapP h ∧ h.Perm (bestP K (l.take k))) (fun i _ => l.length - (intOf i).toNat)
  case atStart => exact ⟨0, [], by omega, rfl, HS2.out, H2.out, HT2.out, fun j h0 h1 => by simp at h1, by simp [bestP, sortP]⟩
  case round =>
    obtain ⟨k, h, hk, rfl, hS, hsl, hT, hh, hpm⟩ := hrel
    obtain ⟨u, hu⟩ := hT.v
    have HS := Lib.hid hS; have HSL := Lib.hid hsl; have HU := Lib.hid hu; have HH := Lib.hid hh; have HP := Lib.hid hpm
    clear hS hsl hT hu hh hpm HT2 H2 HS2
    obtain ⟨w3, hw3⟩ : ∃ x, x = wr := ⟨_, rfl⟩
    subst hw3
    by_cases hlt : k < l.length
    rotate_left
    · obtain rfl : k = l.length := by omega
      have cT := fun w0 (h : Same w3 w0) => tbest_any K _ l w0 (HSL.out.same h) (by omega) HKR.out
      have cR := fun w0 (h : Same w3 w0) => rbest_any K _ l w0 (HSL.out.same h) (by omega) HKR.out
      have CT := Lib.hid cT; have CR := Lib.hid cR
      clear cT cR hlt
      go_wp2_with fail
      refine (CT.out _ (Only.refl _ _)).mono ?_
      rintro e w4 ⟨v4, rfl, hS4, hown4⟩
      have HS4 := Lib.hid hS4; have H4 := Lib.hid (own_slp hown4)
      clear hS4 hown4
      go_wp2_with fail
      refine (CR.out _ HS4.out).mono ?_
      rintro e w5 ⟨v5, rfl, hS5, hsl5, _⟩
      have HS5 := Lib.hid (HS4.out.then hS5)
      have cs := rsame04_any v4 v5 _ _ w5 (H4.out.same hS5) hsl5
      rw [decide_eq_true rfl] at cs
      have CS := Lib.hid cs
      clear hS5 hsl5 cs
      go_wp2_with fail
      refine CS.out.mono ?_
      rintro e w6 ⟨rfl, hS6⟩
      have HS6 := Lib.hid ((HS.out.then HS5.out).then hS6)
      clear hS6
      go_wp2_with fail
      go_ret
      exact ⟨rfl, HS6.out⟩
    obtain ⟨b1, o1, rfl, hcell⟩ := HSL.out.spot (by omega)
    have k1 := (hcell k hlt).1
    have k2 := (hcell k hlt).2
    obtain ⟨x, hx⟩ : ∃ x, x = l[k] := ⟨_, rfl⟩
    rw [← hx] at k1 k2
    have HX : Hid (l.take (k + 1) = l.take k ++ [x]) := Lib.hid (by rw [← List.take_append_getElem hlt, ← hx])
    have K1 := Lib.hid k1; have K2 := Lib.hid k2; have HXE := Lib.hid hx
    clear hcell hx k1 k2
    have hw1 : IntKind.i64.wrap ((k : Int) + 1) = (k : Int) + 1 := by rw [IntKind.wrap_i64]; omega
    have hkc : k ≤ cp := by omega
    have hkc1 : k + 1 ≤ cp := by omega
    have cR1 := fun w0 (h : Same w3 w0) => rbest_any K _ (l.take k) w0 ((slp_low HSL.out k (by omega)).same h) (by simp; omega) HKR.out
    have CR1 := Lib.hid cR1
    clear cR1
    go_wp2_with fail
    refine (CR1.out _ (Only.refl _ _)).mono ?_
    rintro e w4 ⟨v4, rfl, hS4, hsl4, hfr4⟩
    have HSL4 := Lib.hid hsl4; have HFR4 := Lib.hid hfr4
    have HS4 := Lib.hid hS4
    have k1 := hS4.cell_eq K1.out (fun h => h); have k2 := hS4.cell_eq K2.out (fun h => h)
    clear hS4 hsl4 hfr4 CR1
    go_wp2_with fail
    refine (toffer_any b K u h (l.take k) x w4 (HU.out.same HS4.out) HH.out HP.out (by simp; omega) HKR.out.2).mono ?_
    rintro e w5 ⟨rfl, h', hT5, hh5, hpm5, hO5⟩
    rw [← HX.out] at hpm5
    have hOb : ∀ i, (i = b ∨ u.ownBlock = some i) → b ≤ i ∧ i < w3.heap.size := fun i e => by
      rcases e with e | e
      · have := heap_lt HU.out.1; omega
      · have := HU.out.off i e; omega
    have HT5 := Lib.hid hT5; have HH5 := Lib.hid hh5; have HP5 := Lib.hid hpm5
    have HSL5 := Lib.hid (HSL4.out.freshK HFR4.out hO5 (fun i e => (hOb i e).2))
    have HS5 : Hid (Same w w5) := Lib.hid ((HS.out.then HS4.out).trans hO5 (fun i hi e => by have := hOb i e; omega))
    have cR2 := fun w0 (h : Same w5 w0) => rbest_any K _ (l.take (k + 1)) w0 ((slp_low (H0.out.same HS5.out) (k + 1) (by omega)).same h) (by simp; omega) HKR.out
    have CR2 := Lib.hid cR2
    have hkp : ∃ r, r = keptP K (l.take k) x := ⟨_, rfl⟩
    obtain ⟨r, hr⟩ := hkp
    rw [← hr]
    have hls1 := bestP_len K (l.take k)
    have hls2 := bestP_len K (l.take (k + 1))
    rw [List.length_take] at hls1 hls2
    have hso2 := bestP_sort K (l.take (k + 1))
    unfold keptP at hr
    generalize bestP K (l.take k) = s1 at *
    obtain ⟨s2, hs2⟩ : ∃ s, s = bestP K (l.take (k + 1)) := ⟨_, rfl⟩
    rw [← hs2] at hls2 hso2 cR2 CR2 hpm5 HP5
    have HS2E := Lib.hid hs2
    clear hs2
    have HR := Lib.hid hr; have HL1 := Lib.hid hls1; have HL2 := Lib.hid hls2; have HSO := Lib.hid hso2
    clear cR2 k1 k2 hO5 hOb hT5 hh5 hpm5 HSL4 HFR4 HS4 HU HH HP HSL HS hr hls1 hls2 hso2
    go_wp2_with fail
    refine (CR2.out _ (Only.refl _ _)).mono ?_
    rintro e w6 ⟨v6, rfl, hS6, hsl6, _⟩
    have HS6 := Lib.hid (HS5.out.then hS6); have HT6 := Lib.hid (HT5.out.same hS6)
    have HA := Lib.hid (HSL5.out.same hS6); have HB := Lib.hid hsl6
    obtain ⟨a4, c4, rfl, _⟩ := HA.out.lit
    obtain ⟨a6, c6, rfl, _⟩ := HB.out.lit
    obtain ⟨bb, oo, hbo, hcell⟩ := H0.out.spot (by omega)
    simp only [Option.some.injEq, Addr.mk.injEq] at hbo
    obtain ⟨rfl, rfl, _⟩ := hbo
    have k1 := HS6.out.cell_eq (hcell k hlt).1 (fun h => h)
    have k2 := HS6.out.cell_eq (hcell k hlt).2 (fun h => h)
    have hxk : l[k] = x := HXE.out.symm
    rw [hxk] at k1 k2
    clear hcell hxk hS6 hsl6 HS5 HT5 HSL5 CR2
    go_upto_region 12 with fail
    go_cut [10] from 20 to 119 (fun s10 wx => s10 = .bool r ∧ Same w6 wx)
    case first =>
      have hkm := HKR.out
      have hcase : K ≤ 0 ∨ (0 < K ∧ s1.length < K.toNat) ∨ (0 < K ∧ ¬ s1.length < K.toNat) := by omega
      rcases hcase with hk0 | ⟨hk0, hk1⟩ | ⟨hk0, hk1⟩
      · have hd : decide (0 < K) = false := decide_eq_false (by omega)
        have hr := HR.out
        rw [hd] at hr
        obtain rfl : r = false := hr
        clear hk0 hkm
        go_quiet (fail)
        rename_i nq
        go_wp2_with fail
        go_meet
        case rel => exact ⟨rfl, (Only.refl _ w6).drewN nq⟩
      · have hd : decide (0 < K) = true := decide_eq_true hk0
        have hd2 : decide ((s1.length : Int) < K) = true := decide_eq_true (by omega)
        have hr := HR.out
        rw [hd, decide_eq_true hk1] at hr
        obtain rfl : r = true := hr
        clear hk0 hk1 hkm
        go_quiet (fail)
        rename_i nq
        go_wp2_with fail
        go_meet
        case rel => exact ⟨rfl, (Only.refl _ w6).drewN nq⟩
      · have hd : decide (0 < K) = true := decide_eq_true hk0
        have hd2 : decide ((s1.length : Int) < K) = false := decide_eq_false (by omega)
        have hr := HR.out
        rw [hd, decide_eq_false hk1] at hr
        obtain rfl : r = betP x (lastT s1) := hr
        obtain ⟨p, hp0⟩ : ∃ p, s1.length = p + 1 := ⟨s1.length - 1, by omega⟩
        obtain ⟨b4, o4, rfl, hc4⟩ := HA.out.spot (by omega)
        have hy : lastT s1 = s1[p] := by
          have e : s1.length - 1 = p := by omega
          unfold lastT
          rw [e]
          exact hp_eq s1 p (by omega)
        have k3 := (hc4 p (by omega)).1
        have k4 := (hc4 p (by omega)).2
        rw [← hy] at k3 k4
        have cb := fun w0 => rbetter_any x (lastT s1) w0
        have hpm : p ≤ 1000 := by have := HL1.out; omega
        generalize lastT s1 = y at *
        have hw3 : IntKind.i64.wrap ((s1.length : Int) - 1) = (p : Int) := by rw [IntKind.wrap_i64]; omega
        have hpc : p < s1.length := by omega
        have q0 : Same w6 w6 := Only.refl _ _
        have hKK : ∀ w', Same w6 w' → (w'.cell? ⟨b1, o1 + k * 2, none⟩ = some (.int .i64 x.1) ∧ w'.cell? ⟨b1, o1 + k * 2 + 1, none⟩ = some (.int .i64 x.2) ∧ w'.cell? ⟨b4, o4 + p * 2, none⟩ = some (.int .i64 y.1) ∧ w'.cell? ⟨b4, o4 + p * 2 + 1, none⟩ = some (.int .i64 y.2)) := fun w' h => ⟨h.cell_eq k1 (fun h => h), h.cell_eq k2 (fun h => h), h.cell_eq k3 (fun h => h), h.cell_eq k4 (fun h => h)⟩
        have HK := Lib.hid hKK
        unfold pairV at cb
        have CB := Lib.hid cb
        clear hKK cb hk0 hk1 hkm hy hc4 hp0
        go_region_held3 (fun w' => w'.cell? ⟨b1, o1 + k * 2, none⟩ = some (.int .i64 x.1) ∧ w'.cell? ⟨b1, o1 + k * 2 + 1, none⟩ = some (.int .i64 x.2) ∧ w'.cell? ⟨b4, o4 + p * 2, none⟩ = some (.int .i64 y.1) ∧ w'.cell? ⟨b4, o4 + p * 2 + 1, none⟩ = some (.int .i64 y.2))
          (first | exact HK.out _ q0 | exact HK.out _ q0.drew)
          (first | ((go_at_call 54; refine (CB.out _).mono ?_; rintro e w8 ⟨rfl, hS8⟩; have q0 := Only.then (by first | exact q0 | exact q0.drew) hS8; clear hS8)))
        all_goals
          go_wp2_with fail
          go_meet
          case rel => exact ⟨rfl, by first | exact q0 | exact q0.drew⟩
    case rest =>
    obtain ⟨rfl, hSx⟩ := hcut
    obtain ⟨w7, hw7⟩ : ∃ x, x = wc := ⟨_, rfl⟩
    subst hw7
    have HS7 := Lib.hid (HS6.out.then hSx); have HT7 := Lib.hid (HT6.out.same hSx); have HB7 := Lib.hid (HB.out.same hSx)
    clear hSx HS6 HT6 HB HA k1 k2
    have hwq := worst_eq K h' s2 HH5.out HP5.out HSO.out
    have cw := tworst_any b K.toNat h' w7 HT7.out (by have := HKR.out; omega)
    rw [hwq] at cw
    have CW := Lib.hid cw
    obtain ⟨q, hq⟩ : ∃ q, q = worstQ K s2 := ⟨_, rfl⟩
    rw [← hq] at CW
    have HQ := Lib.hid hq
    clear hwq cw hq
    go_wp2_with fail
    refine CW.out.mono ?_
    rintro e w8 ⟨rfl, hS8⟩
    have HS8 := Lib.hid (HS7.out.then hS8); have HT8 := Lib.hid (HT7.out.same hS8); have HB8 := Lib.hid (HB7.out.same hS8)
    clear hS8 HS7 HT7 HB7 CW
    go_upto_region 14 with fail
    have hSa : Same w8 (w8.alloc (.cells #[.int .i64 q.1.1, .int .i64 q.1.2] 89)) := (Only.refl _ w8).alloc _
    obtain ⟨p0, p1, _, _⟩ := two_facts (blk_new w8 (.cells #[.int .i64 q.1.1, .int .i64 q.1.2] 89))
    have HS9 := Lib.hid (HS8.out.then hSa); have HT9 := Lib.hid (HT8.out.same hSa); have HB9 := Lib.hid (HB8.out.same hSa)
    generalize w8.alloc (.cells #[.int .i64 q.1.1, .int .i64 q.1.2] 89) = w9 at *
    have hlen9 : h'.length = s2.length := HP5.out.length_eq
    have hsr9 : sortP h' = s2 := sort_uniq _ _ ((sortP_perm h').trans HP5.out) (sortP_sort h') HSO.out
    have cl : ∀ w0, Same w9 w0 → Calls Try.prog 56 #[.pointer (some ⟨b, 0, none⟩)] w0 fun e w' => e = .returned (.int .i64 s2.length) ∧ Same w0 w' := fun w0 h => by
      have := tlen_any b K.toNat h' w0 (HT9.out.same h)
      rw [hlen9] at this
      exact this
    have cli : ∀ w0, Same w9 w0 → Calls Try.prog 58 #[.pointer (some ⟨b, 0, none⟩)] w0 fun e w' => ∃ v', e = .returned v' ∧ Same w0 w' ∧ SlP w' v' s2 := fun w0 h => by
      refine (tlist_any b K.toNat h' w0 (HT9.out.same h) (by have := HL2.out; omega)).mono ?_
      rintro e w' ⟨v', he, hS, hown⟩
      rw [hsr9] at hown
      exact ⟨v', he, hS, own_slp hown⟩
    have csm : ∀ v' w0, Same w9 w0 → SlP w0 v' s2 → Calls Try.prog 57 #[v', .slice a6 s2.length c6] w0 fun e w' => e = .returned (.bool true) ∧ Same w0 w' := fun v' w0 h hv => by
      have := rsame04_any v' _ s2 s2 w0 hv (HB9.out.same h)
      rw [decide_eq_true rfl] at this
      exact this
    have CL := Lib.hid cl; have CLI := Lib.hid cli; have CSM := Lib.hid csm
    clear hSa HS8 HT8 HB8 hlen9 hsr9 cl cli csm
    have q0 : Same w9 w9 := Only.refl _ _
    have hrr : (r == r) = true := beq_self_eq_true r
    have hnn : ((s2.length : Int) == (s2.length : Int)) = true := beq_self_eq_true _
    have hkm := HKR.out
    have hs2 : s2 = bestP K (l.take (k + 1)) := HS2E.out
    have hend : ∀ w', Same w9 w' → (Same w w' ∧ SlP w' (.slice (some ⟨b1, o1, none⟩) l.length cp) l ∧ TopAt w' b K.toNat h' ∧ HeapP h' ∧ h'.Perm (bestP K (l.take (k + 1)))) :=
      fun w' hS => ⟨HS9.out.then hS, H0.out.same (HS9.out.then hS), HT9.out.same hS, HH5.out, by rw [← hs2]; exact HP5.out⟩
    clear hs2 HS9 HT9
    by_cases hfull : 0 < K ∧ s2.length = K.toNat
    · obtain ⟨p, hp0⟩ : ∃ p, s2.length = p + 1 := ⟨s2.length - 1, by omega⟩
      have hq : q = (lastT s2, true) := by rw [HQ.out]; unfold worstQ; rw [if_neg (by omega)]
      obtain ⟨b6, o6, rfl, hc6⟩ := HB9.out.spot (by omega)
      have hy : lastT s2 = s2[p] := by
        have e : s2.length - 1 = p := by omega
        unfold lastT
        rw [e]
        exact hp_eq s2 p (by omega)
      have k3 := (hc6 p (by omega)).1
      have k4 := (hc6 p (by omega)).2
      rw [← hy] at k3 k4
      rw [hq] at p0 p1 ⊢
      have hd : decide (0 < K) = true := decide_eq_true hfull.1
      have hd2 : ((s2.length : Int) == K) = true := by simp; omega
      have hpm : p ≤ 1000 := by have := HL2.out; omega
      generalize lastT s2 = y at *
      have hw3 : IntKind.i64.wrap ((s2.length : Int) - 1) = (p : Int) := by rw [IntKind.wrap_i64]; omega
      have hy1 : (y.1 == y.1) = true := beq_self_eq_true _
      have hy2 : (y.2 == y.2) = true := beq_self_eq_true _
      have hpc : p < s2.length := by omega
      have hKK : ∀ w', Same w9 w' → (w'.cell? ⟨w8.heap.size, 0, none⟩ = some (.int .i64 y.1) ∧ w'.cell? ⟨w8.heap.size, 1, none⟩ = some (.int .i64 y.2) ∧ w'.cell? ⟨b6, o6 + p * 2, none⟩ = some (.int .i64 y.1) ∧ w'.cell? ⟨b6, o6 + p * 2 + 1, none⟩ = some (.int .i64 y.2)) := fun w' h => ⟨h.cell_eq p0 (fun h => h), h.cell_eq p1 (fun h => h), h.cell_eq k3 (fun h => h), h.cell_eq k4 (fun h => h)⟩
      have HK := Lib.hid hKK
      clear hKK hkm hy hc6 hq hfull hp0
      refine wp_region_held_drew (S := (fun w' => w'.cell? ⟨w8.heap.size, 0, none⟩ = some (.int .i64 y.1) ∧ w'.cell? ⟨w8.heap.size, 1, none⟩ = some (.int .i64 y.2) ∧ w'.cell? ⟨b6, o6 + p * 2, none⟩ = some (.int .i64 y.1) ∧ w'.cell? ⟨b6, o6 + p * 2 + 1, none⟩ = some (.int .i64 y.2))) (by kernel_rfl) ?_ (fun hHeld => ?_)
      focus (first | exact HK.out _ q0 | exact HK.out _ q0.drew)
      refine wpAnyH_take (i := 0) (oi := ⟨some 69, _, _, _, _, _⟩) (v := ?_) rfl (by kernel_rfl) (by kernel_rfl) (by kernel_rfl) (fun _ _ _ h => h) (Or.inl ⟨by rfl, ?_⟩) (by assumption) ?_
      rotate_left
      focus ((intro w hSw; (try dsimp only at hSw); go_simp); try (with_reducible rfl))
      try simp only [Act.put, List.setIfInBounds_toArray, List.set_cons_zero, List.set_cons_succ]
      refine wpAnyH_take (i := 1) (oi := ⟨some 70, _, _, _, _, _⟩) (v := ?_) rfl (by kernel_rfl) (by kernel_rfl) (by kernel_rfl) (fun _ _ _ h => h) (Or.inl ⟨by rfl, ?_⟩) (by assumption) ?_
      rotate_left
      focus ((intro w hSw; (try dsimp only at hSw); go_simp); try (with_reducible rfl))
      try simp only [Act.put, List.setIfInBounds_toArray, List.set_cons_zero, List.set_cons_succ]
      refine wpAnyH_take (i := 2) (oi := ⟨some 71, _, _, _, _, _⟩) (v := ?_) rfl (by kernel_rfl) (by kernel_rfl) (by kernel_rfl) (fun _ _ _ h => h) (Or.inl ⟨by rfl, ?_⟩) (by assumption) ?_
      rotate_left
      focus ((intro w hSw; (try dsimp only at hSw); go_simp); try (with_reducible rfl))
      try simp only [Act.put, List.setIfInBounds_toArray, List.set_cons_zero, List.set_cons_succ]
      refine wpAnyH_take (i := 3) (oi := ⟨some 72, _, _, _, _, _⟩) (v := ?_) rfl (by kernel_rfl) (by kernel_rfl) (by kernel_rfl) (fun _ _ _ h => h) (Or.inl ⟨by rfl, ?_⟩) (by assumption) ?_
      rotate_left
      focus ((intro w hSw; (try dsimp only at hSw); go_simp); try (with_reducible rfl))
      try simp only [Act.put, List.setIfInBounds_toArray, List.set_cons_zero, List.set_cons_succ]
      refine wpAnyH_take (i := 4) (oi := ⟨some 73, _, _, _, _, _⟩) (v := ?_) rfl (by kernel_rfl) (by kernel_rfl) (by kernel_rfl) (fun _ _ _ h => h) (Or.inl ⟨by rfl, ?_⟩) (by assumption) ?_
      rotate_left
      focus ((intro w hSw; (try dsimp only at hSw); go_simp); try (with_reducible rfl))
      try simp only [Act.put, List.setIfInBounds_toArray, List.set_cons_zero, List.set_cons_succ]
      refine wpAnyH_take (i := 6) (oi := ⟨some 75, _, _, _, _, _⟩) (v := ?_) rfl (by kernel_rfl) (by kernel_rfl) (by kernel_rfl) (fun _ _ _ h => h) (Or.inl ⟨by rfl, ?_⟩) (by assumption) ?_
      rotate_left
      focus ((intro w hSw; (try dsimp only at hSw); go_simp); try (with_reducible rfl))
      try simp only [Act.put, List.setIfInBounds_toArray, List.set_cons_zero, List.set_cons_succ]
      refine wpAnyH_take (i := 7) (oi := ⟨some 76, _, _, _, _, _⟩) (v := ?_) rfl (by kernel_rfl) (by kernel_rfl) (by kernel_rfl) (fun _ _ _ h => h) (Or.inl ⟨by rfl, ?_⟩) (by assumption) ?_
      rotate_left
      focus ((intro w hSw; (try dsimp only at hSw); go_simp); try (with_reducible rfl))
      try simp only [Act.put, List.setIfInBounds_toArray, List.set_cons_zero, List.set_cons_succ]
      refine wpAnyH_ready (rs := [5]) (by kernel_rfl) (by simp) ?_
      refine AllReadyH.cons (o := ⟨some 74, _, _, _, _, _⟩) rfl (fun K hK => ?_) AllReadyH.nil
      go_simp
      go_at_call 56; (first | refine (CL.out _ q0).mono ?_ | refine (CL.out _ q0.drew).mono ?_); rintro e w10 ⟨rfl, hS10⟩; have q0 := Only.then (by first | exact q0 | exact q0.drew) hS10; clear hS10
      refine hK.out _ _ ?_ (fun hHeld => ?_)
      focus ((try dsimp only); first | exact HK.out _ q0 | exact HK.out _ q0.drew)
      clear hK K
      try simp only [Act.put, List.setIfInBounds_toArray, List.set_cons_zero, List.set_cons_succ]
      refine wpAnyH_take (i := 8) (oi := ⟨some 77, _, _, _, _, _⟩) (v := ?_) rfl (by kernel_rfl) (by kernel_rfl) (by kernel_rfl) (fun _ _ _ h => h) (Or.inl ⟨by rfl, ?_⟩) (by assumption) ?_
      rotate_left
      focus ((intro w hSw; (try dsimp only at hSw); go_simp); try (with_reducible rfl))
      try simp only [Act.put, List.setIfInBounds_toArray, List.set_cons_zero, List.set_cons_succ]
      refine wpAnyH_take (i := 9) (oi := ⟨some 78, _, _, _, _, _⟩) (v := ?_) rfl (by kernel_rfl) (by kernel_rfl) (by kernel_rfl) (fun _ _ _ h => h) (Or.inl ⟨by rfl, ?_⟩) (by assumption) ?_
      rotate_left
      focus ((intro w hSw; (try dsimp only at hSw); go_simp); try (with_reducible rfl))
      try simp only [Act.put, List.setIfInBounds_toArray, List.set_cons_zero, List.set_cons_succ]
      refine wpAnyH_take (i := 10) (oi := ⟨some 79, _, _, _, _, _⟩) (v := ?_) rfl (by kernel_rfl) (by kernel_rfl) (by kernel_rfl) (fun _ _ _ h => h) (Or.inl ⟨by rfl, ?_⟩) (by assumption) ?_
      rotate_left
      focus ((intro w hSw; (try dsimp only at hSw); go_simp); try (with_reducible rfl))
      try simp only [Act.put, List.setIfInBounds_toArray, List.set_cons_zero, List.set_cons_succ]
      refine wpAnyH_take (i := 11) (oi := ⟨some 80, _, _, _, _, _⟩) (v := ?_) rfl (by kernel_rfl) (by kernel_rfl) (by kernel_rfl) (fun _ _ _ h => h) (Or.inl ⟨by rfl, ?_⟩) (by assumption) ?_
      rotate_left
      focus ((intro w hSw; (try dsimp only at hSw); go_simp); try (with_reducible rfl))
      try simp only [Act.put, List.setIfInBounds_toArray, List.set_cons_zero, List.set_cons_succ]
      refine wpAnyH_take (i := 13) (oi := ⟨some 82, _, _, _, _, _⟩) (v := ?_) rfl (by kernel_rfl) (by kernel_rfl) (by kernel_rfl) (fun _ _ _ h => h) (Or.inl ⟨by rfl, ?_⟩) (by assumption) ?_
      rotate_left
      focus ((intro w hSw; (try dsimp only at hSw); go_simp); try (with_reducible rfl))
      try simp only [Act.put, List.setIfInBounds_toArray, List.set_cons_zero, List.set_cons_succ]
      refine wpAnyH_ready (rs := [12]) (by kernel_rfl) (by simp) ?_
      refine AllReadyH.cons (o := ⟨some 81, _, _, _, _, _⟩) rfl (fun K hK => ?_) AllReadyH.nil
      go_simp
      go_at_call 58; (first | refine (CLI.out _ q0).mono ?_ | refine (CLI.out _ q0.drew).mono ?_); rintro e w11 ⟨v11, rfl, hS10, hsl11⟩; have q0 := Only.then (by first | exact q0 | exact q0.drew) hS10; clear hS10
      refine hK.out _ _ ?_ (fun hHeld => ?_)
      focus ((try dsimp only); first | exact HK.out _ q0 | exact HK.out _ q0.drew)
      clear hK K
      try simp only [Act.put, List.setIfInBounds_toArray, List.set_cons_zero, List.set_cons_succ]
      refine wpAnyH_ready (rs := [14]) (by kernel_rfl) (by simp) ?_
      refine AllReadyH.cons (o := ⟨some 83, _, _, _, _, _⟩) rfl (fun K hK => ?_) AllReadyH.nil
      go_simp
      go_at_call 57; (first | refine (CSM.out _ _ q0 hsl11).mono ?_ | refine (CSM.out _ _ q0.drew (hsl11.same (Only.refl (fun _ => False) _).drew)).mono ?_); rintro e w12 ⟨rfl, hS10⟩; have q0 := Only.then (by first | exact q0 | exact q0.drew) hS10; clear hS10
      refine hK.out _ _ ?_ (fun hHeld => ?_)
      focus ((try dsimp only); first | exact HK.out _ q0 | exact HK.out _ q0.drew)
      clear hK K
      try simp only [Act.put, List.setIfInBounds_toArray, List.set_cons_zero, List.set_cons_succ]
      refine wpAnyH_take (i := 15) (oi := ⟨some 84, _, _, _, _, _⟩) (v := ?_) rfl (by kernel_rfl) (by kernel_rfl) (by kernel_rfl) (fun _ _ _ h => h) (Or.inl ⟨by rfl, ?_⟩) (by assumption) ?_
      rotate_left
      focus ((intro w hSw; (try dsimp only at hSw); go_simp); try (with_reducible rfl))
      try simp only [Act.put, List.setIfInBounds_toArray, List.set_cons_zero, List.set_cons_succ]
      refine wpAnyH_take (i := 16) (oi := ⟨some 85, _, _, _, _, _⟩) (v := ?_) rfl (by kernel_rfl) (by kernel_rfl) (by kernel_rfl) (fun _ _ _ h => h) (Or.inl ⟨by rfl, ?_⟩) (by assumption) ?_
      rotate_left
      focus ((intro w hSw; (try dsimp only at hSw); go_simp); try (with_reducible rfl))
      try simp only [Act.put, List.setIfInBounds_toArray, List.set_cons_zero, List.set_cons_succ]
      refine wpAnyH_take (i := 17) (oi := ⟨some 86, _, _, _, _, _⟩) (v := ?_) rfl (by kernel_rfl) (by kernel_rfl) (by kernel_rfl) (fun _ _ _ h => h) (Or.inl ⟨by rfl, ?_⟩) (by assumption) ?_
      rotate_left
      focus ((intro w hSw; (try dsimp only at hSw); go_simp); try (with_reducible rfl))
      try simp only [Act.put, List.setIfInBounds_toArray, List.set_cons_zero, List.set_cons_succ]
      refine wpAnyH_take (i := 18) (oi := ⟨some 87, _, _, _, _, _⟩) (v := ?_) rfl (by kernel_rfl) (by kernel_rfl) (by kernel_rfl) (fun _ _ _ h => h) (Or.inl ⟨by rfl, ?_⟩) (by assumption) ?_
      rotate_left
      focus ((intro w hSw; (try dsimp only at hSw); go_simp); try (with_reducible rfl))
      try simp only [Act.put, List.setIfInBounds_toArray, List.set_cons_zero, List.set_cons_succ]
      refine wpAnyH_take (i := 19) (oi := ⟨some 88, _, _, _, _, _⟩) (v := ?_) rfl (by kernel_rfl) (by kernel_rfl) (by kernel_rfl) (fun _ _ _ h => h) (Or.inl ⟨by rfl, ?_⟩) (by assumption) ?_
      rotate_left
      focus ((intro w hSw; (try dsimp only at hSw); go_simp); try (with_reducible rfl))
      try simp only [Act.put, List.setIfInBounds_toArray, List.set_cons_zero, List.set_cons_succ]
      refine wpAnyH_take (i := 20) (oi := ⟨some 89, _, _, _, _, _⟩) (v := ?_) rfl (by kernel_rfl) (by kernel_rfl) (by kernel_rfl) (fun _ _ _ h => h) (Or.inl ⟨by rfl, ?_⟩) (by assumption) ?_
      rotate_left
      focus ((intro w hSw; (try dsimp only at hSw); go_simp); try (with_reducible rfl))
      try simp only [Act.put, List.setIfInBounds_toArray, List.set_cons_zero, List.set_cons_succ]
      refine wpAnyH_take (i := 21) (oi := ⟨some 90, _, _, _, _, _⟩) (v := ?_) rfl (by kernel_rfl) (by kernel_rfl) (by kernel_rfl) (fun _ _ _ h => h) (Or.inl ⟨by rfl, ?_⟩) (by assumption) ?_
      rotate_left
      focus ((intro w hSw; (try dsimp only at hSw); go_simp); try (with_reducible rfl))
      try simp only [Act.put, List.setIfInBounds_toArray, List.set_cons_zero, List.set_cons_succ]
      refine wpAnyH_take (i := 22) (oi := ⟨some 91, _, _, _, _, _⟩) (v := ?_) rfl (by kernel_rfl) (by kernel_rfl) (by kernel_rfl) (fun _ _ _ h => h) (Or.inl ⟨by rfl, ?_⟩) (by assumption) ?_
      rotate_left
      focus ((intro w hSw; (try dsimp only at hSw); go_simp); try (with_reducible rfl))
      try simp only [Act.put, List.setIfInBounds_toArray, List.set_cons_zero, List.set_cons_succ]
      refine wpAnyH_take (i := 23) (oi := ⟨some 92, _, _, _, _, _⟩) (v := ?_) rfl (by kernel_rfl) (by kernel_rfl) (by kernel_rfl) (fun _ _ _ h => h) (Or.inl ⟨by rfl, ?_⟩) (by assumption) ?_
      rotate_left
      focus ((intro w hSw; (try dsimp only at hSw); go_simp); try (with_reducible rfl))
      try simp only [Act.put, List.setIfInBounds_toArray, List.set_cons_zero, List.set_cons_succ]
      refine wpAnyH_take (i := 24) (oi := ⟨some 93, _, _, _, _, _⟩) (v := ?_) rfl (by kernel_rfl) (by kernel_rfl) (by kernel_rfl) (fun _ _ _ h => h) (Or.inl ⟨by rfl, ?_⟩) (by assumption) ?_
      rotate_left
      focus ((intro w hSw; (try dsimp only at hSw); go_simp); try (with_reducible rfl))
      try simp only [Act.put, List.setIfInBounds_toArray, List.set_cons_zero, List.set_cons_succ]
      refine wpAnyH_take (i := 25) (oi := ⟨some 94, _, _, _, _, _⟩) (v := ?_) rfl (by kernel_rfl) (by kernel_rfl) (by kernel_rfl) (fun _ _ _ h => h) (Or.inl ⟨by rfl, ?_⟩) (by assumption) ?_
      rotate_left
      focus ((intro w hSw; (try dsimp only at hSw); go_simp); try (with_reducible rfl))
      try simp only [Act.put, List.setIfInBounds_toArray, List.set_cons_zero, List.set_cons_succ]
      refine wpAnyH_take (i := 26) (oi := ⟨some 95, _, _, _, _, _⟩) (v := ?_) rfl (by kernel_rfl) (by kernel_rfl) (by kernel_rfl) (fun _ _ _ h => h) (Or.inl ⟨by rfl, ?_⟩) (by assumption) ?_
      rotate_left
      focus ((intro w hSw; (try dsimp only at hSw); go_simp); try (with_reducible rfl))
      try simp only [Act.put, List.setIfInBounds_toArray, List.set_cons_zero, List.set_cons_succ]
      refine wpAnyH_take (i := 27) (oi := ⟨some 96, _, _, _, _, _⟩) (v := ?_) rfl (by kernel_rfl) (by kernel_rfl) (by kernel_rfl) (fun _ _ _ h => h) (Or.inl ⟨by rfl, ?_⟩) (by assumption) ?_
      rotate_left
      focus ((intro w hSw; (try dsimp only at hSw); go_simp); try (with_reducible rfl))
      try simp only [Act.put, List.setIfInBounds_toArray, List.set_cons_zero, List.set_cons_succ]
      refine wpAnyH_take (i := 28) (oi := ⟨some 97, _, _, _, _, _⟩) (v := ?_) rfl (by kernel_rfl) (by kernel_rfl) (by kernel_rfl) (fun _ _ _ h => h) (Or.inl ⟨by rfl, ?_⟩) (by assumption) ?_
      rotate_left
      focus ((intro w hSw; (try dsimp only at hSw); go_simp); try (with_reducible rfl))
      try simp only [Act.put, List.setIfInBounds_toArray, List.set_cons_zero, List.set_cons_succ]
      refine wpAnyH_take (i := 29) (oi := ⟨some 98, _, _, _, _, _⟩) (v := ?_) rfl (by kernel_rfl) (by kernel_rfl) (by kernel_rfl) (fun _ _ _ h => h) (Or.inl ⟨by rfl, ?_⟩) (by assumption) ?_
      rotate_left
      focus ((intro w hSw; (try dsimp only at hSw); go_simp); try (with_reducible rfl))
      try simp only [Act.put, List.setIfInBounds_toArray, List.set_cons_zero, List.set_cons_succ]
      refine wpAnyH_take (i := 30) (oi := ⟨some 99, _, _, _, _, _⟩) (v := ?_) rfl (by kernel_rfl) (by kernel_rfl) (by kernel_rfl) (fun _ _ _ h => h) (Or.inl ⟨by rfl, ?_⟩) (by assumption) ?_
      rotate_left
      focus ((intro w hSw; (try dsimp only at hSw); go_simp); try (with_reducible rfl))
      try simp only [Act.put, List.setIfInBounds_toArray, List.set_cons_zero, List.set_cons_succ]
      refine wpAnyH_take (i := 31) (oi := ⟨some 100, _, _, _, _, _⟩) (v := ?_) rfl (by kernel_rfl) (by kernel_rfl) (by kernel_rfl) (fun _ _ _ h => h) (Or.inl ⟨by rfl, ?_⟩) (by assumption) ?_
      rotate_left
      focus ((intro w hSw; (try dsimp only at hSw); go_simp); try (with_reducible rfl))
      try simp only [Act.put, List.setIfInBounds_toArray, List.set_cons_zero, List.set_cons_succ]
      refine wpAnyH_take (i := 32) (oi := ⟨some 101, _, _, _, _, _⟩) (v := ?_) rfl (by kernel_rfl) (by kernel_rfl) (by kernel_rfl) (fun _ _ _ h => h) (Or.inl ⟨by rfl, ?_⟩) (by assumption) ?_
      rotate_left
      focus ((intro w hSw; (try dsimp only at hSw); go_simp); try (with_reducible rfl))
      try simp only [Act.put, List.setIfInBounds_toArray, List.set_cons_zero, List.set_cons_succ]
      refine wpAnyH_take (i := 33) (oi := ⟨some 102, _, _, _, _, _⟩) (v := ?_) rfl (by kernel_rfl) (by kernel_rfl) (by kernel_rfl) (fun _ _ _ h => h) (Or.inl ⟨by rfl, ?_⟩) (by assumption) ?_
      rotate_left
      focus ((intro w hSw; (try dsimp only at hSw); go_simp); try (with_reducible rfl))
      try simp only [Act.put, List.setIfInBounds_toArray, List.set_cons_zero, List.set_cons_succ]
      refine wpAnyH_take (i := 34) (oi := ⟨some 103, _, _, _, _, _⟩) (v := ?_) rfl (by kernel_rfl) (by kernel_rfl) (by kernel_rfl) (fun _ _ _ h => h) (Or.inl ⟨by rfl, ?_⟩) (by assumption) ?_
      rotate_left
      focus ((intro w hSw; (try dsimp only at hSw); go_simp); try (with_reducible rfl))
      try simp only [Act.put, List.setIfInBounds_toArray, List.set_cons_zero, List.set_cons_succ]
      refine wpAnyH_take (i := 35) (oi := ⟨some 104, _, _, _, _, _⟩) (v := ?_) rfl (by kernel_rfl) (by kernel_rfl) (by kernel_rfl) (fun _ _ _ h => h) (Or.inl ⟨by rfl, ?_⟩) (by assumption) ?_
      rotate_left
      focus ((intro w hSw; (try dsimp only at hSw); go_simp); try (with_reducible rfl))
      try simp only [Act.put, List.setIfInBounds_toArray, List.set_cons_zero, List.set_cons_succ]
      refine wpAnyH_take (i := 36) (oi := ⟨some 105, _, _, _, _, _⟩) (v := ?_) rfl (by kernel_rfl) (by kernel_rfl) (by kernel_rfl) (fun _ _ _ h => h) (Or.inl ⟨by rfl, ?_⟩) (by assumption) ?_
      rotate_left
      focus ((intro w hSw; (try dsimp only at hSw); go_simp); try (with_reducible rfl))
      try simp only [Act.put, List.setIfInBounds_toArray, List.set_cons_zero, List.set_cons_succ]
      refine wpAnyH_take (i := 37) (oi := ⟨some 106, _, _, _, _, _⟩) (v := ?_) rfl (by kernel_rfl) (by kernel_rfl) (by kernel_rfl) (fun _ _ _ h => h) (Or.inl ⟨by rfl, ?_⟩) (by assumption) ?_
      rotate_left
      focus ((intro w hSw; (try dsimp only at hSw); go_simp); try (with_reducible rfl))
      try simp only [Act.put, List.setIfInBounds_toArray, List.set_cons_zero, List.set_cons_succ]
      refine wpAnyH_take (i := 38) (oi := ⟨some 107, _, _, _, _, _⟩) (v := ?_) rfl (by kernel_rfl) (by kernel_rfl) (by kernel_rfl) (fun _ _ _ h => h) (Or.inl ⟨by rfl, ?_⟩) (by assumption) ?_
      rotate_left
      focus ((intro w hSw; (try dsimp only at hSw); go_simp); try (with_reducible rfl))
      try simp only [Act.put, List.setIfInBounds_toArray, List.set_cons_zero, List.set_cons_succ]
      refine wpAnyH_take (i := 39) (oi := ⟨some 108, _, _, _, _, _⟩) (v := ?_) rfl (by kernel_rfl) (by kernel_rfl) (by kernel_rfl) (fun _ _ _ h => h) (Or.inl ⟨by rfl, ?_⟩) (by assumption) ?_
      rotate_left
      focus ((intro w hSw; (try dsimp only at hSw); go_simp); try (with_reducible rfl))
      try simp only [Act.put, List.setIfInBounds_toArray, List.set_cons_zero, List.set_cons_succ]
      refine wpAnyH_take (i := 40) (oi := ⟨some 109, _, _, _, _, _⟩) (v := ?_) rfl (by kernel_rfl) (by kernel_rfl) (by kernel_rfl) (fun _ _ _ h => h) (Or.inl ⟨by rfl, ?_⟩) (by assumption) ?_
      rotate_left
      focus ((intro w hSw; (try dsimp only at hSw); go_simp); try (with_reducible rfl))
      try simp only [Act.put, List.setIfInBounds_toArray, List.set_cons_zero, List.set_cons_succ]
      refine wpAnyH_take (i := 41) (oi := ⟨some 110, _, _, _, _, _⟩) (v := ?_) rfl (by kernel_rfl) (by kernel_rfl) (by kernel_rfl) (fun _ _ _ h => h) (Or.inl ⟨by rfl, ?_⟩) (by assumption) ?_
      rotate_left
      focus ((intro w hSw; (try dsimp only at hSw); go_simp); try (with_reducible rfl))
      try simp only [Act.put, List.setIfInBounds_toArray, List.set_cons_zero, List.set_cons_succ]
      refine wpAnyH_take (i := 42) (oi := ⟨some 111, _, _, _, _, _⟩) (v := ?_) rfl (by kernel_rfl) (by kernel_rfl) (by kernel_rfl) (fun _ _ _ h => h) (Or.inl ⟨by rfl, ?_⟩) (by assumption) ?_
      rotate_left
      focus ((intro w hSw; (try dsimp only at hSw); go_simp); try (with_reducible rfl))
      try simp only [Act.put, List.setIfInBounds_toArray, List.set_cons_zero, List.set_cons_succ]
      refine wpAnyH_take (i := 43) (oi := ⟨some 112, _, _, _, _, _⟩) (v := ?_) rfl (by kernel_rfl) (by kernel_rfl) (by kernel_rfl) (fun _ _ _ h => h) (Or.inl ⟨by rfl, ?_⟩) (by assumption) ?_
      rotate_left
      focus ((intro w hSw; (try dsimp only at hSw); go_simp); try (with_reducible rfl))
      try simp only [Act.put, List.setIfInBounds_toArray, List.set_cons_zero, List.set_cons_succ]
      refine wpAnyH_take (i := 44) (oi := ⟨some 113, _, _, _, _, _⟩) (v := ?_) rfl (by kernel_rfl) (by kernel_rfl) (by kernel_rfl) (fun _ _ _ h => h) (Or.inl ⟨by rfl, ?_⟩) (by assumption) ?_
      rotate_left
      focus ((intro w hSw; (try dsimp only at hSw); go_simp); try (with_reducible rfl))
      try simp only [Act.put, List.setIfInBounds_toArray, List.set_cons_zero, List.set_cons_succ]
      refine wpAnyH_take (i := 45) (oi := ⟨some 114, _, _, _, _, _⟩) (v := ?_) rfl (by kernel_rfl) (by kernel_rfl) (by kernel_rfl) (fun _ _ _ h => h) (Or.inl ⟨by rfl, ?_⟩) (by assumption) ?_
      rotate_left
      focus ((intro w hSw; (try dsimp only at hSw); go_simp); try (with_reducible rfl))
      try simp only [Act.put, List.setIfInBounds_toArray, List.set_cons_zero, List.set_cons_succ]
      refine wpAnyH_take (i := 46) (oi := ⟨some 115, _, _, _, _, _⟩) (v := undef) rfl (by kernel_rfl) (by kernel_rfl) (by kernel_rfl) (fun _ _ _ h => h) (Or.inr ⟨by rfl, rfl⟩) (by assumption) ?_
      try simp only [Act.put, List.setIfInBounds_toArray, List.set_cons_zero, List.set_cons_succ]
      refine wpAnyH_take (i := 47) (oi := ⟨some 116, _, _, _, _, _⟩) (v := undef) rfl (by kernel_rfl) (by kernel_rfl) (by kernel_rfl) (fun _ _ _ h => h) (Or.inr ⟨by rfl, rfl⟩) (by assumption) ?_
      try simp only [Act.put, List.setIfInBounds_toArray, List.set_cons_zero, List.set_cons_succ]
      refine wpAnyH_take (i := 48) (oi := ⟨some 117, _, _, _, _, _⟩) (v := undef) rfl (by kernel_rfl) (by kernel_rfl) (by kernel_rfl) (fun _ _ _ h => h) (Or.inr ⟨by rfl, rfl⟩) (by assumption) ?_
      try simp only [Act.put, List.setIfInBounds_toArray, List.set_cons_zero, List.set_cons_succ]
      refine wpAnyH_take (i := 49) (oi := ⟨some 118, _, _, _, _, _⟩) (v := ?_) rfl (by kernel_rfl) (by kernel_rfl) (by kernel_rfl) (fun _ _ _ h => h) (Or.inl ⟨by rfl, ?_⟩) (by assumption) ?_
      rotate_left
      focus ((intro w hSw; (try dsimp only at hSw); go_simp); try (with_reducible rfl))
      try simp only [Act.put, List.setIfInBounds_toArray, List.set_cons_zero, List.set_cons_succ]
      refine wpAnyH_take (i := 50) (oi := ⟨some 119, _, _, _, _, _⟩) (v := ?_) rfl (by kernel_rfl) (by kernel_rfl) (by kernel_rfl) (fun _ _ _ h => h) (Or.inl ⟨by rfl, ?_⟩) (by assumption) ?_
      rotate_left
      focus ((intro w hSw; (try dsimp only at hSw); go_simp); try (with_reducible rfl))
      try simp only [Act.put, List.setIfInBounds_toArray, List.set_cons_zero, List.set_cons_succ]
      refine wpAnyH_done (by kernel_rfl) ?_ _
      all_goals
        have HEND := Lib.hid (hend _ (by first | exact q0 | exact q0.drew))
        clear CL CLI CSM HK q0
        go_wp2_with fail
        go_roundw
        case rel => exact ⟨k + 1, h', by omega, by go_num, HEND.out⟩
        case measure => simp [intOf]; omega
    · have hq : q = ((0, 0), false) := by rw [HQ.out]; unfold worstQ; rw [if_pos (by have := HL2.out; omega)]
      rw [hq] at p0 p1 ⊢
      have hKK : ∀ w', Same w9 w' → (w'.cell? ⟨w8.heap.size, 0, none⟩ = some (.int .i64 0) ∧ w'.cell? ⟨w8.heap.size, 1, none⟩ = some (.int .i64 0)) := fun w' h => ⟨h.cell_eq p0 (fun h => h), h.cell_eq p1 (fun h => h)⟩
      have HK := Lib.hid hKK
      clear hKK hq
      by_cases hk1 : 0 < K
      · have hd : decide (0 < K) = true := decide_eq_true hk1
        have hd2 : ((s2.length : Int) == K) = false := by
          have h1 : ¬ s2.length = K.toNat := fun e => hfull ⟨hk1, e⟩
          simp; omega
        clear hkm hfull hk1
        refine wp_region_held_drew (S := (fun w' => w'.cell? ⟨w8.heap.size, 0, none⟩ = some (.int .i64 0) ∧ w'.cell? ⟨w8.heap.size, 1, none⟩ = some (.int .i64 0))) (by kernel_rfl) ?_ (fun hHeld => ?_)
        focus (first | exact HK.out _ q0 | exact HK.out _ q0.drew)
        refine wpAnyH_take (i := 0) (oi := ⟨some 69, _, _, _, _, _⟩) (v := ?_) rfl (by kernel_rfl) (by kernel_rfl) (by kernel_rfl) (fun _ _ _ h => h) (Or.inl ⟨by rfl, ?_⟩) (by assumption) ?_
        rotate_left
        focus ((intro w hSw; (try dsimp only at hSw); go_simp); try (with_reducible rfl))
        try simp only [Act.put, List.setIfInBounds_toArray, List.set_cons_zero, List.set_cons_succ]
        refine wpAnyH_take (i := 1) (oi := ⟨some 70, _, _, _, _, _⟩) (v := ?_) rfl (by kernel_rfl) (by kernel_rfl) (by kernel_rfl) (fun _ _ _ h => h) (Or.inl ⟨by rfl, ?_⟩) (by assumption) ?_
        rotate_left
        focus ((intro w hSw; (try dsimp only at hSw); go_simp); try (with_reducible rfl))
        try simp only [Act.put, List.setIfInBounds_toArray, List.set_cons_zero, List.set_cons_succ]
        refine wpAnyH_take (i := 2) (oi := ⟨some 71, _, _, _, _, _⟩) (v := ?_) rfl (by kernel_rfl) (by kernel_rfl) (by kernel_rfl) (fun _ _ _ h => h) (Or.inl ⟨by rfl, ?_⟩) (by assumption) ?_
        rotate_left
        focus ((intro w hSw; (try dsimp only at hSw); go_simp); try (with_reducible rfl))
        try simp only [Act.put, List.setIfInBounds_toArray, List.set_cons_zero, List.set_cons_succ]
        refine wpAnyH_take (i := 3) (oi := ⟨some 72, _, _, _, _, _⟩) (v := ?_) rfl (by kernel_rfl) (by kernel_rfl) (by kernel_rfl) (fun _ _ _ h => h) (Or.inl ⟨by rfl, ?_⟩) (by assumption) ?_
        rotate_left
        focus ((intro w hSw; (try dsimp only at hSw); go_simp); try (with_reducible rfl))
        try simp only [Act.put, List.setIfInBounds_toArray, List.set_cons_zero, List.set_cons_succ]
        refine wpAnyH_take (i := 4) (oi := ⟨some 73, _, _, _, _, _⟩) (v := ?_) rfl (by kernel_rfl) (by kernel_rfl) (by kernel_rfl) (fun _ _ _ h => h) (Or.inl ⟨by rfl, ?_⟩) (by assumption) ?_
        rotate_left
        focus ((intro w hSw; (try dsimp only at hSw); go_simp); try (with_reducible rfl))
        try simp only [Act.put, List.setIfInBounds_toArray, List.set_cons_zero, List.set_cons_succ]
        refine wpAnyH_take (i := 6) (oi := ⟨some 75, _, _, _, _, _⟩) (v := ?_) rfl (by kernel_rfl) (by kernel_rfl) (by kernel_rfl) (fun _ _ _ h => h) (Or.inl ⟨by rfl, ?_⟩) (by assumption) ?_
        rotate_left
        focus ((intro w hSw; (try dsimp only at hSw); go_simp); try (with_reducible rfl))
        try simp only [Act.put, List.setIfInBounds_toArray, List.set_cons_zero, List.set_cons_succ]
        refine wpAnyH_take (i := 7) (oi := ⟨some 76, _, _, _, _, _⟩) (v := ?_) rfl (by kernel_rfl) (by kernel_rfl) (by kernel_rfl) (fun _ _ _ h => h) (Or.inl ⟨by rfl, ?_⟩) (by assumption) ?_
        rotate_left
        focus ((intro w hSw; (try dsimp only at hSw); go_simp); try (with_reducible rfl))
        try simp only [Act.put, List.setIfInBounds_toArray, List.set_cons_zero, List.set_cons_succ]
        refine wpAnyH_ready (rs := [5]) (by kernel_rfl) (by simp) ?_
        refine AllReadyH.cons (o := ⟨some 74, _, _, _, _, _⟩) rfl (fun K hK => ?_) AllReadyH.nil
        go_simp
        go_at_call 56; (first | refine (CL.out _ q0).mono ?_ | refine (CL.out _ q0.drew).mono ?_); rintro e w10 ⟨rfl, hS10⟩; have q0 := Only.then (by first | exact q0 | exact q0.drew) hS10; clear hS10
        refine hK.out _ _ ?_ (fun hHeld => ?_)
        focus ((try dsimp only); first | exact HK.out _ q0 | exact HK.out _ q0.drew)
        clear hK K
        try simp only [Act.put, List.setIfInBounds_toArray, List.set_cons_zero, List.set_cons_succ]
        refine wpAnyH_take (i := 8) (oi := ⟨some 77, _, _, _, _, _⟩) (v := ?_) rfl (by kernel_rfl) (by kernel_rfl) (by kernel_rfl) (fun _ _ _ h => h) (Or.inl ⟨by rfl, ?_⟩) (by assumption) ?_
        rotate_left
        focus ((intro w hSw; (try dsimp only at hSw); go_simp); try (with_reducible rfl))
        try simp only [Act.put, List.setIfInBounds_toArray, List.set_cons_zero, List.set_cons_succ]
        refine wpAnyH_take (i := 9) (oi := ⟨some 78, _, _, _, _, _⟩) (v := ?_) rfl (by kernel_rfl) (by kernel_rfl) (by kernel_rfl) (fun _ _ _ h => h) (Or.inl ⟨by rfl, ?_⟩) (by assumption) ?_
        rotate_left
        focus ((intro w hSw; (try dsimp only at hSw); go_simp); try (with_reducible rfl))
        try simp only [Act.put, List.setIfInBounds_toArray, List.set_cons_zero, List.set_cons_succ]
        refine wpAnyH_take (i := 10) (oi := ⟨some 79, _, _, _, _, _⟩) (v := ?_) rfl (by kernel_rfl) (by kernel_rfl) (by kernel_rfl) (fun _ _ _ h => h) (Or.inl ⟨by rfl, ?_⟩) (by assumption) ?_
        rotate_left
        focus ((intro w hSw; (try dsimp only at hSw); go_simp); try (with_reducible rfl))
        try simp only [Act.put, List.setIfInBounds_toArray, List.set_cons_zero, List.set_cons_succ]
        refine wpAnyH_take (i := 11) (oi := ⟨some 80, _, _, _, _, _⟩) (v := ?_) rfl (by kernel_rfl) (by kernel_rfl) (by kernel_rfl) (fun _ _ _ h => h) (Or.inl ⟨by rfl, ?_⟩) (by assumption) ?_
        rotate_left
        focus ((intro w hSw; (try dsimp only at hSw); go_simp); try (with_reducible rfl))
        try simp only [Act.put, List.setIfInBounds_toArray, List.set_cons_zero, List.set_cons_succ]
        refine wpAnyH_take (i := 13) (oi := ⟨some 82, _, _, _, _, _⟩) (v := ?_) rfl (by kernel_rfl) (by kernel_rfl) (by kernel_rfl) (fun _ _ _ h => h) (Or.inl ⟨by rfl, ?_⟩) (by assumption) ?_
        rotate_left
        focus ((intro w hSw; (try dsimp only at hSw); go_simp); try (with_reducible rfl))
        try simp only [Act.put, List.setIfInBounds_toArray, List.set_cons_zero, List.set_cons_succ]
        refine wpAnyH_ready (rs := [12]) (by kernel_rfl) (by simp) ?_
        refine AllReadyH.cons (o := ⟨some 81, _, _, _, _, _⟩) rfl (fun K hK => ?_) AllReadyH.nil
        go_simp
        go_at_call 58; (first | refine (CLI.out _ q0).mono ?_ | refine (CLI.out _ q0.drew).mono ?_); rintro e w11 ⟨v11, rfl, hS10, hsl11⟩; have q0 := Only.then (by first | exact q0 | exact q0.drew) hS10; clear hS10
        refine hK.out _ _ ?_ (fun hHeld => ?_)
        focus ((try dsimp only); first | exact HK.out _ q0 | exact HK.out _ q0.drew)
        clear hK K
        try simp only [Act.put, List.setIfInBounds_toArray, List.set_cons_zero, List.set_cons_succ]
        refine wpAnyH_ready (rs := [14]) (by kernel_rfl) (by simp) ?_
        refine AllReadyH.cons (o := ⟨some 83, _, _, _, _, _⟩) rfl (fun K hK => ?_) AllReadyH.nil
        go_simp
        go_at_call 57; (first | refine (CSM.out _ _ q0 hsl11).mono ?_ | refine (CSM.out _ _ q0.drew (hsl11.same (Only.refl (fun _ => False) _).drew)).mono ?_); rintro e w12 ⟨rfl, hS10⟩; have q0 := Only.then (by first | exact q0 | exact q0.drew) hS10; clear hS10
        refine hK.out _ _ ?_ (fun hHeld => ?_)
        focus ((try dsimp only); first | exact HK.out _ q0 | exact HK.out _ q0.drew)
        clear hK K
        try simp only [Act.put, List.setIfInBounds_toArray, List.set_cons_zero, List.set_cons_succ]
        refine wpAnyH_take (i := 15) (oi := ⟨some 84, _, _, _, _, _⟩) (v := ?_) rfl (by kernel_rfl) (by kernel_rfl) (by kernel_rfl) (fun _ _ _ h => h) (Or.inl ⟨by rfl, ?_⟩) (by assumption) ?_
        rotate_left
        focus ((intro w hSw; (try dsimp only at hSw); go_simp); try (with_reducible rfl))
        try simp only [Act.put, List.setIfInBounds_toArray, List.set_cons_zero, List.set_cons_succ]
        refine wpAnyH_take (i := 16) (oi := ⟨some 85, _, _, _, _, _⟩) (v := ?_) rfl (by kernel_rfl) (by kernel_rfl) (by kernel_rfl) (fun _ _ _ h => h) (Or.inl ⟨by rfl, ?_⟩) (by assumption) ?_
        rotate_left
        focus ((intro w hSw; (try dsimp only at hSw); go_simp); try (with_reducible rfl))
        try simp only [Act.put, List.setIfInBounds_toArray, List.set_cons_zero, List.set_cons_succ]
        refine wpAnyH_take (i := 17) (oi := ⟨some 86, _, _, _, _, _⟩) (v := ?_) rfl (by kernel_rfl) (by kernel_rfl) (by kernel_rfl) (fun _ _ _ h => h) (Or.inl ⟨by rfl, ?_⟩) (by assumption) ?_
        rotate_left
        focus ((intro w hSw; (try dsimp only at hSw); go_simp); try (with_reducible rfl))
        try simp only [Act.put, List.setIfInBounds_toArray, List.set_cons_zero, List.set_cons_succ]
        refine wpAnyH_take (i := 18) (oi := ⟨some 87, _, _, _, _, _⟩) (v := ?_) rfl (by kernel_rfl) (by kernel_rfl) (by kernel_rfl) (fun _ _ _ h => h) (Or.inl ⟨by rfl, ?_⟩) (by assumption) ?_
        rotate_left
        focus ((intro w hSw; (try dsimp only at hSw); go_simp); try (with_reducible rfl))
        try simp only [Act.put, List.setIfInBounds_toArray, List.set_cons_zero, List.set_cons_succ]
        refine wpAnyH_take (i := 19) (oi := ⟨some 88, _, _, _, _, _⟩) (v := ?_) rfl (by kernel_rfl) (by kernel_rfl) (by kernel_rfl) (fun _ _ _ h => h) (Or.inl ⟨by rfl, ?_⟩) (by assumption) ?_
        rotate_left
        focus ((intro w hSw; (try dsimp only at hSw); go_simp); try (with_reducible rfl))
        try simp only [Act.put, List.setIfInBounds_toArray, List.set_cons_zero, List.set_cons_succ]
        refine wpAnyH_take (i := 20) (oi := ⟨some 89, _, _, _, _, _⟩) (v := ?_) rfl (by kernel_rfl) (by kernel_rfl) (by kernel_rfl) (fun _ _ _ h => h) (Or.inl ⟨by rfl, ?_⟩) (by assumption) ?_
        rotate_left
        focus ((intro w hSw; (try dsimp only at hSw); go_simp); try (with_reducible rfl))
        try simp only [Act.put, List.setIfInBounds_toArray, List.set_cons_zero, List.set_cons_succ]
        refine wpAnyH_take (i := 21) (oi := ⟨some 90, _, _, _, _, _⟩) (v := ?_) rfl (by kernel_rfl) (by kernel_rfl) (by kernel_rfl) (fun _ _ _ h => h) (Or.inl ⟨by rfl, ?_⟩) (by assumption) ?_
        rotate_left
        focus ((intro w hSw; (try dsimp only at hSw); go_simp); try (with_reducible rfl))
        try simp only [Act.put, List.setIfInBounds_toArray, List.set_cons_zero, List.set_cons_succ]
        refine wpAnyH_take (i := 22) (oi := ⟨some 91, _, _, _, _, _⟩) (v := ?_) rfl (by kernel_rfl) (by kernel_rfl) (by kernel_rfl) (fun _ _ _ h => h) (Or.inl ⟨by rfl, ?_⟩) (by assumption) ?_
        rotate_left
        focus ((intro w hSw; (try dsimp only at hSw); go_simp); try (with_reducible rfl))
        try simp only [Act.put, List.setIfInBounds_toArray, List.set_cons_zero, List.set_cons_succ]
        refine wpAnyH_take (i := 23) (oi := ⟨some 92, _, _, _, _, _⟩) (v := ?_) rfl (by kernel_rfl) (by kernel_rfl) (by kernel_rfl) (fun _ _ _ h => h) (Or.inl ⟨by rfl, ?_⟩) (by assumption) ?_
        rotate_left
        focus ((intro w hSw; (try dsimp only at hSw); go_simp); try (with_reducible rfl))
        try simp only [Act.put, List.setIfInBounds_toArray, List.set_cons_zero, List.set_cons_succ]
        refine wpAnyH_take (i := 24) (oi := ⟨some 93, _, _, _, _, _⟩) (v := ?_) rfl (by kernel_rfl) (by kernel_rfl) (by kernel_rfl) (fun _ _ _ h => h) (Or.inl ⟨by rfl, ?_⟩) (by assumption) ?_
        rotate_left
        focus ((intro w hSw; (try dsimp only at hSw); go_simp); try (with_reducible rfl))
        try simp only [Act.put, List.setIfInBounds_toArray, List.set_cons_zero, List.set_cons_succ]
        refine wpAnyH_take (i := 25) (oi := ⟨some 94, _, _, _, _, _⟩) (v := ?_) rfl (by kernel_rfl) (by kernel_rfl) (by kernel_rfl) (fun _ _ _ h => h) (Or.inl ⟨by rfl, ?_⟩) (by assumption) ?_
        rotate_left
        focus ((intro w hSw; (try dsimp only at hSw); go_simp); try (with_reducible rfl))
        try simp only [Act.put, List.setIfInBounds_toArray, List.set_cons_zero, List.set_cons_succ]
        refine wpAnyH_take (i := 26) (oi := ⟨some 95, _, _, _, _, _⟩) (v := ?_) rfl (by kernel_rfl) (by kernel_rfl) (by kernel_rfl) (fun _ _ _ h => h) (Or.inl ⟨by rfl, ?_⟩) (by assumption) ?_
        rotate_left
        focus ((intro w hSw; (try dsimp only at hSw); go_simp); try (with_reducible rfl))
        try simp only [Act.put, List.setIfInBounds_toArray, List.set_cons_zero, List.set_cons_succ]
        refine wpAnyH_take (i := 27) (oi := ⟨some 96, _, _, _, _, _⟩) (v := ?_) rfl (by kernel_rfl) (by kernel_rfl) (by kernel_rfl) (fun _ _ _ h => h) (Or.inl ⟨by rfl, ?_⟩) (by assumption) ?_
        rotate_left
        focus ((intro w hSw; (try dsimp only at hSw); go_simp); try (with_reducible rfl))
        try simp only [Act.put, List.setIfInBounds_toArray, List.set_cons_zero, List.set_cons_succ]
        refine wpAnyH_take (i := 28) (oi := ⟨some 97, _, _, _, _, _⟩) (v := ?_) rfl (by kernel_rfl) (by kernel_rfl) (by kernel_rfl) (fun _ _ _ h => h) (Or.inl ⟨by rfl, ?_⟩) (by assumption) ?_
        rotate_left
        focus ((intro w hSw; (try dsimp only at hSw); go_simp); try (with_reducible rfl))
        try simp only [Act.put, List.setIfInBounds_toArray, List.set_cons_zero, List.set_cons_succ]
        refine wpAnyH_take (i := 29) (oi := ⟨some 98, _, _, _, _, _⟩) (v := ?_) rfl (by kernel_rfl) (by kernel_rfl) (by kernel_rfl) (fun _ _ _ h => h) (Or.inl ⟨by rfl, ?_⟩) (by assumption) ?_
        rotate_left
        focus ((intro w hSw; (try dsimp only at hSw); go_simp); try (with_reducible rfl))
        try simp only [Act.put, List.setIfInBounds_toArray, List.set_cons_zero, List.set_cons_succ]
        refine wpAnyH_take (i := 30) (oi := ⟨some 99, _, _, _, _, _⟩) (v := ?_) rfl (by kernel_rfl) (by kernel_rfl) (by kernel_rfl) (fun _ _ _ h => h) (Or.inl ⟨by rfl, ?_⟩) (by assumption) ?_
        rotate_left
        focus ((intro w hSw; (try dsimp only at hSw); go_simp); try (with_reducible rfl))
        try simp only [Act.put, List.setIfInBounds_toArray, List.set_cons_zero, List.set_cons_succ]
        refine wpAnyH_take (i := 31) (oi := ⟨some 100, _, _, _, _, _⟩) (v := ?_) rfl (by kernel_rfl) (by kernel_rfl) (by kernel_rfl) (fun _ _ _ h => h) (Or.inl ⟨by rfl, ?_⟩) (by assumption) ?_
        rotate_left
        focus ((intro w hSw; (try dsimp only at hSw); go_simp); try (with_reducible rfl))
        try simp only [Act.put, List.setIfInBounds_toArray, List.set_cons_zero, List.set_cons_succ]
        refine wpAnyH_take (i := 32) (oi := ⟨some 101, _, _, _, _, _⟩) (v := undef) rfl (by kernel_rfl) (by kernel_rfl) (by kernel_rfl) (fun _ _ _ h => h) (Or.inr ⟨by rfl, rfl⟩) (by assumption) ?_
        try simp only [Act.put, List.setIfInBounds_toArray, List.set_cons_zero, List.set_cons_succ]
        refine wpAnyH_take (i := 33) (oi := ⟨some 102, _, _, _, _, _⟩) (v := undef) rfl (by kernel_rfl) (by kernel_rfl) (by kernel_rfl) (fun _ _ _ h => h) (Or.inr ⟨by rfl, rfl⟩) (by assumption) ?_
        try simp only [Act.put, List.setIfInBounds_toArray, List.set_cons_zero, List.set_cons_succ]
        refine wpAnyH_take (i := 34) (oi := ⟨some 103, _, _, _, _, _⟩) (v := undef) rfl (by kernel_rfl) (by kernel_rfl) (by kernel_rfl) (fun _ _ _ h => h) (Or.inr ⟨by rfl, rfl⟩) (by assumption) ?_
        try simp only [Act.put, List.setIfInBounds_toArray, List.set_cons_zero, List.set_cons_succ]
        refine wpAnyH_take (i := 35) (oi := ⟨some 104, _, _, _, _, _⟩) (v := undef) rfl (by kernel_rfl) (by kernel_rfl) (by kernel_rfl) (fun _ _ _ h => h) (Or.inr ⟨by rfl, rfl⟩) (by assumption) ?_
        try simp only [Act.put, List.setIfInBounds_toArray, List.set_cons_zero, List.set_cons_succ]
        refine wpAnyH_take (i := 36) (oi := ⟨some 105, _, _, _, _, _⟩) (v := undef) rfl (by kernel_rfl) (by kernel_rfl) (by kernel_rfl) (fun _ _ _ h => h) (Or.inr ⟨by rfl, rfl⟩) (by assumption) ?_
        try simp only [Act.put, List.setIfInBounds_toArray, List.set_cons_zero, List.set_cons_succ]
        refine wpAnyH_take (i := 37) (oi := ⟨some 106, _, _, _, _, _⟩) (v := undef) rfl (by kernel_rfl) (by kernel_rfl) (by kernel_rfl) (fun _ _ _ h => h) (Or.inr ⟨by rfl, rfl⟩) (by assumption) ?_
        try simp only [Act.put, List.setIfInBounds_toArray, List.set_cons_zero, List.set_cons_succ]
        refine wpAnyH_take (i := 38) (oi := ⟨some 107, _, _, _, _, _⟩) (v := undef) rfl (by kernel_rfl) (by kernel_rfl) (by kernel_rfl) (fun _ _ _ h => h) (Or.inr ⟨by rfl, rfl⟩) (by assumption) ?_
        try simp only [Act.put, List.setIfInBounds_toArray, List.set_cons_zero, List.set_cons_succ]
        refine wpAnyH_take (i := 39) (oi := ⟨some 108, _, _, _, _, _⟩) (v := undef) rfl (by kernel_rfl) (by kernel_rfl) (by kernel_rfl) (fun _ _ _ h => h) (Or.inr ⟨by rfl, rfl⟩) (by assumption) ?_
        try simp only [Act.put, List.setIfInBounds_toArray, List.set_cons_zero, List.set_cons_succ]
        refine wpAnyH_take (i := 40) (oi := ⟨some 109, _, _, _, _, _⟩) (v := ?_) rfl (by kernel_rfl) (by kernel_rfl) (by kernel_rfl) (fun _ _ _ h => h) (Or.inl ⟨by rfl, ?_⟩) (by assumption) ?_
        rotate_left
        focus ((intro w hSw; (try dsimp only at hSw); go_simp); try (with_reducible rfl))
        try simp only [Act.put, List.setIfInBounds_toArray, List.set_cons_zero, List.set_cons_succ]
        refine wpAnyH_take (i := 41) (oi := ⟨some 110, _, _, _, _, _⟩) (v := ?_) rfl (by kernel_rfl) (by kernel_rfl) (by kernel_rfl) (fun _ _ _ h => h) (Or.inl ⟨by rfl, ?_⟩) (by assumption) ?_
        rotate_left
        focus ((intro w hSw; (try dsimp only at hSw); go_simp); try (with_reducible rfl))
        try simp only [Act.put, List.setIfInBounds_toArray, List.set_cons_zero, List.set_cons_succ]
        refine wpAnyH_take (i := 42) (oi := ⟨some 111, _, _, _, _, _⟩) (v := ?_) rfl (by kernel_rfl) (by kernel_rfl) (by kernel_rfl) (fun _ _ _ h => h) (Or.inl ⟨by rfl, ?_⟩) (by assumption) ?_
        rotate_left
        focus ((intro w hSw; (try dsimp only at hSw); go_simp); try (with_reducible rfl))
        try simp only [Act.put, List.setIfInBounds_toArray, List.set_cons_zero, List.set_cons_succ]
        refine wpAnyH_take (i := 43) (oi := ⟨some 112, _, _, _, _, _⟩) (v := ?_) rfl (by kernel_rfl) (by kernel_rfl) (by kernel_rfl) (fun _ _ _ h => h) (Or.inl ⟨by rfl, ?_⟩) (by assumption) ?_
        rotate_left
        focus ((intro w hSw; (try dsimp only at hSw); go_simp); try (with_reducible rfl))
        try simp only [Act.put, List.setIfInBounds_toArray, List.set_cons_zero, List.set_cons_succ]
        refine wpAnyH_take (i := 44) (oi := ⟨some 113, _, _, _, _, _⟩) (v := ?_) rfl (by kernel_rfl) (by kernel_rfl) (by kernel_rfl) (fun _ _ _ h => h) (Or.inl ⟨by rfl, ?_⟩) (by assumption) ?_
        rotate_left
        focus ((intro w hSw; (try dsimp only at hSw); go_simp); try (with_reducible rfl))
        try simp only [Act.put, List.setIfInBounds_toArray, List.set_cons_zero, List.set_cons_succ]
        refine wpAnyH_take (i := 45) (oi := ⟨some 114, _, _, _, _, _⟩) (v := ?_) rfl (by kernel_rfl) (by kernel_rfl) (by kernel_rfl) (fun _ _ _ h => h) (Or.inl ⟨by rfl, ?_⟩) (by assumption) ?_
        rotate_left
        focus ((intro w hSw; (try dsimp only at hSw); go_simp); try (with_reducible rfl))
        try simp only [Act.put, List.setIfInBounds_toArray, List.set_cons_zero, List.set_cons_succ]
        refine wpAnyH_take (i := 46) (oi := ⟨some 115, _, _, _, _, _⟩) (v := ?_) rfl (by kernel_rfl) (by kernel_rfl) (by kernel_rfl) (fun _ _ _ h => h) (Or.inl ⟨by rfl, ?_⟩) (by assumption) ?_
        rotate_left
        focus ((intro w hSw; (try dsimp only at hSw); go_simp); try (with_reducible rfl))
        try simp only [Act.put, List.setIfInBounds_toArray, List.set_cons_zero, List.set_cons_succ]
        refine wpAnyH_take (i := 47) (oi := ⟨some 116, _, _, _, _, _⟩) (v := ?_) rfl (by kernel_rfl) (by kernel_rfl) (by kernel_rfl) (fun _ _ _ h => h) (Or.inl ⟨by rfl, ?_⟩) (by assumption) ?_
        rotate_left
        focus ((intro w hSw; (try dsimp only at hSw); go_simp); try (with_reducible rfl))
        try simp only [Act.put, List.setIfInBounds_toArray, List.set_cons_zero, List.set_cons_succ]
        refine wpAnyH_take (i := 48) (oi := ⟨some 117, _, _, _, _, _⟩) (v := ?_) rfl (by kernel_rfl) (by kernel_rfl) (by kernel_rfl) (fun _ _ _ h => h) (Or.inl ⟨by rfl, ?_⟩) (by assumption) ?_
        rotate_left
        focus ((intro w hSw; (try dsimp only at hSw); go_simp); try (with_reducible rfl))
        try simp only [Act.put, List.setIfInBounds_toArray, List.set_cons_zero, List.set_cons_succ]
        refine wpAnyH_take (i := 49) (oi := ⟨some 118, _, _, _, _, _⟩) (v := ?_) rfl (by kernel_rfl) (by kernel_rfl) (by kernel_rfl) (fun _ _ _ h => h) (Or.inl ⟨by rfl, ?_⟩) (by assumption) ?_
        rotate_left
        focus ((intro w hSw; (try dsimp only at hSw); go_simp); try (with_reducible rfl))
        try simp only [Act.put, List.setIfInBounds_toArray, List.set_cons_zero, List.set_cons_succ]
        refine wpAnyH_take (i := 50) (oi := ⟨some 119, _, _, _, _, _⟩) (v := ?_) rfl (by kernel_rfl) (by kernel_rfl) (by kernel_rfl) (fun _ _ _ h => h) (Or.inl ⟨by rfl, ?_⟩) (by assumption) ?_
        rotate_left
        focus ((intro w hSw; (try dsimp only at hSw); go_simp); try (with_reducible rfl))
        try simp only [Act.put, List.setIfInBounds_toArray, List.set_cons_zero, List.set_cons_succ]
        refine wpAnyH_done (by kernel_rfl) ?_ _
        all_goals
          have HEND := Lib.hid (hend _ (by first | exact q0 | exact q0.drew))
          clear CL CLI CSM HK q0
          go_wp2_with fail
          go_roundw
          case rel => exact ⟨k + 1, h', by omega, by go_num, HEND.out⟩
          case measure => simp [intOf]; omega
      · have hd : decide (0 < K) = false := decide_eq_false hk1
        clear hkm hfull hk1
        refine wp_region_held_drew (S := (fun w' => w'.cell? ⟨w8.heap.size, 0, none⟩ = some (.int .i64 0) ∧ w'.cell? ⟨w8.heap.size, 1, none⟩ = some (.int .i64 0))) (by kernel_rfl) ?_ (fun hHeld => ?_)
        focus (first | exact HK.out _ q0 | exact HK.out _ q0.drew)
        refine wpAnyH_take (i := 0) (oi := ⟨some 69, _, _, _, _, _⟩) (v := ?_) rfl (by kernel_rfl) (by kernel_rfl) (by kernel_rfl) (fun _ _ _ h => h) (Or.inl ⟨by rfl, ?_⟩) (by assumption) ?_
        rotate_left
        focus ((intro w hSw; (try dsimp only at hSw); go_simp); try (with_reducible rfl))
        try simp only [Act.put, List.setIfInBounds_toArray, List.set_cons_zero, List.set_cons_succ]
        refine wpAnyH_take (i := 1) (oi := ⟨some 70, _, _, _, _, _⟩) (v := ?_) rfl (by kernel_rfl) (by kernel_rfl) (by kernel_rfl) (fun _ _ _ h => h) (Or.inl ⟨by rfl, ?_⟩) (by assumption) ?_
        rotate_left
        focus ((intro w hSw; (try dsimp only at hSw); go_simp); try (with_reducible rfl))
        try simp only [Act.put, List.setIfInBounds_toArray, List.set_cons_zero, List.set_cons_succ]
        refine wpAnyH_take (i := 2) (oi := ⟨some 71, _, _, _, _, _⟩) (v := ?_) rfl (by kernel_rfl) (by kernel_rfl) (by kernel_rfl) (fun _ _ _ h => h) (Or.inl ⟨by rfl, ?_⟩) (by assumption) ?_
        rotate_left
        focus ((intro w hSw; (try dsimp only at hSw); go_simp); try (with_reducible rfl))
        try simp only [Act.put, List.setIfInBounds_toArray, List.set_cons_zero, List.set_cons_succ]
        refine wpAnyH_take (i := 3) (oi := ⟨some 72, _, _, _, _, _⟩) (v := ?_) rfl (by kernel_rfl) (by kernel_rfl) (by kernel_rfl) (fun _ _ _ h => h) (Or.inl ⟨by rfl, ?_⟩) (by assumption) ?_
        rotate_left
        focus ((intro w hSw; (try dsimp only at hSw); go_simp); try (with_reducible rfl))
        try simp only [Act.put, List.setIfInBounds_toArray, List.set_cons_zero, List.set_cons_succ]
        refine wpAnyH_take (i := 4) (oi := ⟨some 73, _, _, _, _, _⟩) (v := ?_) rfl (by kernel_rfl) (by kernel_rfl) (by kernel_rfl) (fun _ _ _ h => h) (Or.inl ⟨by rfl, ?_⟩) (by assumption) ?_
        rotate_left
        focus ((intro w hSw; (try dsimp only at hSw); go_simp); try (with_reducible rfl))
        try simp only [Act.put, List.setIfInBounds_toArray, List.set_cons_zero, List.set_cons_succ]
        refine wpAnyH_take (i := 6) (oi := ⟨some 75, _, _, _, _, _⟩) (v := ?_) rfl (by kernel_rfl) (by kernel_rfl) (by kernel_rfl) (fun _ _ _ h => h) (Or.inl ⟨by rfl, ?_⟩) (by assumption) ?_
        rotate_left
        focus ((intro w hSw; (try dsimp only at hSw); go_simp); try (with_reducible rfl))
        try simp only [Act.put, List.setIfInBounds_toArray, List.set_cons_zero, List.set_cons_succ]
        refine wpAnyH_take (i := 7) (oi := ⟨some 76, _, _, _, _, _⟩) (v := ?_) rfl (by kernel_rfl) (by kernel_rfl) (by kernel_rfl) (fun _ _ _ h => h) (Or.inl ⟨by rfl, ?_⟩) (by assumption) ?_
        rotate_left
        focus ((intro w hSw; (try dsimp only at hSw); go_simp); try (with_reducible rfl))
        try simp only [Act.put, List.setIfInBounds_toArray, List.set_cons_zero, List.set_cons_succ]
        refine wpAnyH_ready (rs := [5]) (by kernel_rfl) (by simp) ?_
        refine AllReadyH.cons (o := ⟨some 74, _, _, _, _, _⟩) rfl (fun K hK => ?_) AllReadyH.nil
        go_simp
        go_at_call 56; (first | refine (CL.out _ q0).mono ?_ | refine (CL.out _ q0.drew).mono ?_); rintro e w10 ⟨rfl, hS10⟩; have q0 := Only.then (by first | exact q0 | exact q0.drew) hS10; clear hS10
        refine hK.out _ _ ?_ (fun hHeld => ?_)
        focus ((try dsimp only); first | exact HK.out _ q0 | exact HK.out _ q0.drew)
        clear hK K
        try simp only [Act.put, List.setIfInBounds_toArray, List.set_cons_zero, List.set_cons_succ]
        refine wpAnyH_take (i := 8) (oi := ⟨some 77, _, _, _, _, _⟩) (v := ?_) rfl (by kernel_rfl) (by kernel_rfl) (by kernel_rfl) (fun _ _ _ h => h) (Or.inl ⟨by rfl, ?_⟩) (by assumption) ?_
        rotate_left
        focus ((intro w hSw; (try dsimp only at hSw); go_simp); try (with_reducible rfl))
        try simp only [Act.put, List.setIfInBounds_toArray, List.set_cons_zero, List.set_cons_succ]
        refine wpAnyH_take (i := 9) (oi := ⟨some 78, _, _, _, _, _⟩) (v := ?_) rfl (by kernel_rfl) (by kernel_rfl) (by kernel_rfl) (fun _ _ _ h => h) (Or.inl ⟨by rfl, ?_⟩) (by assumption) ?_
        rotate_left
        focus ((intro w hSw; (try dsimp only at hSw); go_simp); try (with_reducible rfl))
        try simp only [Act.put, List.setIfInBounds_toArray, List.set_cons_zero, List.set_cons_succ]
        refine wpAnyH_take (i := 10) (oi := ⟨some 79, _, _, _, _, _⟩) (v := ?_) rfl (by kernel_rfl) (by kernel_rfl) (by kernel_rfl) (fun _ _ _ h => h) (Or.inl ⟨by rfl, ?_⟩) (by assumption) ?_
        rotate_left
        focus ((intro w hSw; (try dsimp only at hSw); go_simp); try (with_reducible rfl))
        try simp only [Act.put, List.setIfInBounds_toArray, List.set_cons_zero, List.set_cons_succ]
        refine wpAnyH_take (i := 11) (oi := ⟨some 80, _, _, _, _, _⟩) (v := ?_) rfl (by kernel_rfl) (by kernel_rfl) (by kernel_rfl) (fun _ _ _ h => h) (Or.inl ⟨by rfl, ?_⟩) (by assumption) ?_
        rotate_left
        focus ((intro w hSw; (try dsimp only at hSw); go_simp); try (with_reducible rfl))
        try simp only [Act.put, List.setIfInBounds_toArray, List.set_cons_zero, List.set_cons_succ]
        refine wpAnyH_take (i := 13) (oi := ⟨some 82, _, _, _, _, _⟩) (v := ?_) rfl (by kernel_rfl) (by kernel_rfl) (by kernel_rfl) (fun _ _ _ h => h) (Or.inl ⟨by rfl, ?_⟩) (by assumption) ?_
        rotate_left
        focus ((intro w hSw; (try dsimp only at hSw); go_simp); try (with_reducible rfl))
        try simp only [Act.put, List.setIfInBounds_toArray, List.set_cons_zero, List.set_cons_succ]
        refine wpAnyH_ready (rs := [12]) (by kernel_rfl) (by simp) ?_
        refine AllReadyH.cons (o := ⟨some 81, _, _, _, _, _⟩) rfl (fun K hK => ?_) AllReadyH.nil
        go_simp
        go_at_call 58; (first | refine (CLI.out _ q0).mono ?_ | refine (CLI.out _ q0.drew).mono ?_); rintro e w11 ⟨v11, rfl, hS10, hsl11⟩; have q0 := Only.then (by first | exact q0 | exact q0.drew) hS10; clear hS10
        refine hK.out _ _ ?_ (fun hHeld => ?_)
        focus ((try dsimp only); first | exact HK.out _ q0 | exact HK.out _ q0.drew)
        clear hK K
        try simp only [Act.put, List.setIfInBounds_toArray, List.set_cons_zero, List.set_cons_succ]
        refine wpAnyH_ready (rs := [14]) (by kernel_rfl) (by simp) ?_
        refine AllReadyH.cons (o := ⟨some 83, _, _, _, _, _⟩) rfl (fun K hK => ?_) AllReadyH.nil
        go_simp
        go_at_call 57; (first | refine (CSM.out _ _ q0 hsl11).mono ?_ | refine (CSM.out _ _ q0.drew (hsl11.same (Only.refl (fun _ => False) _).drew)).mono ?_); rintro e w12 ⟨rfl, hS10⟩; have q0 := Only.then (by first | exact q0 | exact q0.drew) hS10; clear hS10
        refine hK.out _ _ ?_ (fun hHeld => ?_)
        focus ((try dsimp only); first | exact HK.out _ q0 | exact HK.out _ q0.drew)
        clear hK K
        try simp only [Act.put, List.setIfInBounds_toArray, List.set_cons_zero, List.set_cons_succ]
        refine wpAnyH_take (i := 15) (oi := ⟨some 84, _, _, _, _, _⟩) (v := ?_) rfl (by kernel_rfl) (by kernel_rfl) (by kernel_rfl) (fun _ _ _ h => h) (Or.inl ⟨by rfl, ?_⟩) (by assumption) ?_
        rotate_left
        focus ((intro w hSw; (try dsimp only at hSw); go_simp); try (with_reducible rfl))
        try simp only [Act.put, List.setIfInBounds_toArray, List.set_cons_zero, List.set_cons_succ]
        refine wpAnyH_take (i := 16) (oi := ⟨some 85, _, _, _, _, _⟩) (v := ?_) rfl (by kernel_rfl) (by kernel_rfl) (by kernel_rfl) (fun _ _ _ h => h) (Or.inl ⟨by rfl, ?_⟩) (by assumption) ?_
        rotate_left
        focus ((intro w hSw; (try dsimp only at hSw); go_simp); try (with_reducible rfl))
        try simp only [Act.put, List.setIfInBounds_toArray, List.set_cons_zero, List.set_cons_succ]
        refine wpAnyH_take (i := 17) (oi := ⟨some 86, _, _, _, _, _⟩) (v := ?_) rfl (by kernel_rfl) (by kernel_rfl) (by kernel_rfl) (fun _ _ _ h => h) (Or.inl ⟨by rfl, ?_⟩) (by assumption) ?_
        rotate_left
        focus ((intro w hSw; (try dsimp only at hSw); go_simp); try (with_reducible rfl))
        try simp only [Act.put, List.setIfInBounds_toArray, List.set_cons_zero, List.set_cons_succ]
        refine wpAnyH_take (i := 18) (oi := ⟨some 87, _, _, _, _, _⟩) (v := ?_) rfl (by kernel_rfl) (by kernel_rfl) (by kernel_rfl) (fun _ _ _ h => h) (Or.inl ⟨by rfl, ?_⟩) (by assumption) ?_
        rotate_left
        focus ((intro w hSw; (try dsimp only at hSw); go_simp); try (with_reducible rfl))
        try simp only [Act.put, List.setIfInBounds_toArray, List.set_cons_zero, List.set_cons_succ]
        refine wpAnyH_take (i := 19) (oi := ⟨some 88, _, _, _, _, _⟩) (v := ?_) rfl (by kernel_rfl) (by kernel_rfl) (by kernel_rfl) (fun _ _ _ h => h) (Or.inl ⟨by rfl, ?_⟩) (by assumption) ?_
        rotate_left
        focus ((intro w hSw; (try dsimp only at hSw); go_simp); try (with_reducible rfl))
        try simp only [Act.put, List.setIfInBounds_toArray, List.set_cons_zero, List.set_cons_succ]
        refine wpAnyH_take (i := 20) (oi := ⟨some 89, _, _, _, _, _⟩) (v := ?_) rfl (by kernel_rfl) (by kernel_rfl) (by kernel_rfl) (fun _ _ _ h => h) (Or.inl ⟨by rfl, ?_⟩) (by assumption) ?_
        rotate_left
        focus ((intro w hSw; (try dsimp only at hSw); go_simp); try (with_reducible rfl))
        try simp only [Act.put, List.setIfInBounds_toArray, List.set_cons_zero, List.set_cons_succ]
        refine wpAnyH_take (i := 21) (oi := ⟨some 90, _, _, _, _, _⟩) (v := ?_) rfl (by kernel_rfl) (by kernel_rfl) (by kernel_rfl) (fun _ _ _ h => h) (Or.inl ⟨by rfl, ?_⟩) (by assumption) ?_
        rotate_left
        focus ((intro w hSw; (try dsimp only at hSw); go_simp); try (with_reducible rfl))
        try simp only [Act.put, List.setIfInBounds_toArray, List.set_cons_zero, List.set_cons_succ]
        refine wpAnyH_take (i := 22) (oi := ⟨some 91, _, _, _, _, _⟩) (v := undef) rfl (by kernel_rfl) (by kernel_rfl) (by kernel_rfl) (fun _ _ _ h => h) (Or.inr ⟨by rfl, rfl⟩) (by assumption) ?_
        try simp only [Act.put, List.setIfInBounds_toArray, List.set_cons_zero, List.set_cons_succ]
        refine wpAnyH_take (i := 23) (oi := ⟨some 92, _, _, _, _, _⟩) (v := undef) rfl (by kernel_rfl) (by kernel_rfl) (by kernel_rfl) (fun _ _ _ h => h) (Or.inr ⟨by rfl, rfl⟩) (by assumption) ?_
        try simp only [Act.put, List.setIfInBounds_toArray, List.set_cons_zero, List.set_cons_succ]
        refine wpAnyH_take (i := 24) (oi := ⟨some 93, _, _, _, _, _⟩) (v := undef) rfl (by kernel_rfl) (by kernel_rfl) (by kernel_rfl) (fun _ _ _ h => h) (Or.inr ⟨by rfl, rfl⟩) (by assumption) ?_
        try simp only [Act.put, List.setIfInBounds_toArray, List.set_cons_zero, List.set_cons_succ]
        refine wpAnyH_take (i := 25) (oi := ⟨some 94, _, _, _, _, _⟩) (v := undef) rfl (by kernel_rfl) (by kernel_rfl) (by kernel_rfl) (fun _ _ _ h => h) (Or.inr ⟨by rfl, rfl⟩) (by assumption) ?_
        try simp only [Act.put, List.setIfInBounds_toArray, List.set_cons_zero, List.set_cons_succ]
        refine wpAnyH_take (i := 26) (oi := ⟨some 95, _, _, _, _, _⟩) (v := ?_) rfl (by kernel_rfl) (by kernel_rfl) (by kernel_rfl) (fun _ _ _ h => h) (Or.inl ⟨by rfl, ?_⟩) (by assumption) ?_
        rotate_left
        focus ((intro w hSw; (try dsimp only at hSw); go_simp); try (with_reducible rfl))
        try simp only [Act.put, List.setIfInBounds_toArray, List.set_cons_zero, List.set_cons_succ]
        refine wpAnyH_take (i := 27) (oi := ⟨some 96, _, _, _, _, _⟩) (v := ?_) rfl (by kernel_rfl) (by kernel_rfl) (by kernel_rfl) (fun _ _ _ h => h) (Or.inl ⟨by rfl, ?_⟩) (by assumption) ?_
        rotate_left
        focus ((intro w hSw; (try dsimp only at hSw); go_simp); try (with_reducible rfl))
        try simp only [Act.put, List.setIfInBounds_toArray, List.set_cons_zero, List.set_cons_succ]
        refine wpAnyH_take (i := 28) (oi := ⟨some 97, _, _, _, _, _⟩) (v := ?_) rfl (by kernel_rfl) (by kernel_rfl) (by kernel_rfl) (fun _ _ _ h => h) (Or.inl ⟨by rfl, ?_⟩) (by assumption) ?_
        rotate_left
        focus ((intro w hSw; (try dsimp only at hSw); go_simp); try (with_reducible rfl))
        try simp only [Act.put, List.setIfInBounds_toArray, List.set_cons_zero, List.set_cons_succ]
        refine wpAnyH_take (i := 29) (oi := ⟨some 98, _, _, _, _, _⟩) (v := ?_) rfl (by kernel_rfl) (by kernel_rfl) (by kernel_rfl) (fun _ _ _ h => h) (Or.inl ⟨by rfl, ?_⟩) (by assumption) ?_
        rotate_left
        focus ((intro w hSw; (try dsimp only at hSw); go_simp); try (with_reducible rfl))
        try simp only [Act.put, List.setIfInBounds_toArray, List.set_cons_zero, List.set_cons_succ]
        refine wpAnyH_take (i := 30) (oi := ⟨some 99, _, _, _, _, _⟩) (v := ?_) rfl (by kernel_rfl) (by kernel_rfl) (by kernel_rfl) (fun _ _ _ h => h) (Or.inl ⟨by rfl, ?_⟩) (by assumption) ?_
        rotate_left
        focus ((intro w hSw; (try dsimp only at hSw); go_simp); try (with_reducible rfl))
        try simp only [Act.put, List.setIfInBounds_toArray, List.set_cons_zero, List.set_cons_succ]
        refine wpAnyH_take (i := 31) (oi := ⟨some 100, _, _, _, _, _⟩) (v := ?_) rfl (by kernel_rfl) (by kernel_rfl) (by kernel_rfl) (fun _ _ _ h => h) (Or.inl ⟨by rfl, ?_⟩) (by assumption) ?_
        rotate_left
        focus ((intro w hSw; (try dsimp only at hSw); go_simp); try (with_reducible rfl))
        try simp only [Act.put, List.setIfInBounds_toArray, List.set_cons_zero, List.set_cons_succ]
        refine wpAnyH_take (i := 32) (oi := ⟨some 101, _, _, _, _, _⟩) (v := undef) rfl (by kernel_rfl) (by kernel_rfl) (by kernel_rfl) (fun _ _ _ h => h) (Or.inr ⟨by rfl, rfl⟩) (by assumption) ?_
        try simp only [Act.put, List.setIfInBounds_toArray, List.set_cons_zero, List.set_cons_succ]
        refine wpAnyH_take (i := 33) (oi := ⟨some 102, _, _, _, _, _⟩) (v := undef) rfl (by kernel_rfl) (by kernel_rfl) (by kernel_rfl) (fun _ _ _ h => h) (Or.inr ⟨by rfl, rfl⟩) (by assumption) ?_
        try simp only [Act.put, List.setIfInBounds_toArray, List.set_cons_zero, List.set_cons_succ]
        refine wpAnyH_take (i := 34) (oi := ⟨some 103, _, _, _, _, _⟩) (v := undef) rfl (by kernel_rfl) (by kernel_rfl) (by kernel_rfl) (fun _ _ _ h => h) (Or.inr ⟨by rfl, rfl⟩) (by assumption) ?_
        try simp only [Act.put, List.setIfInBounds_toArray, List.set_cons_zero, List.set_cons_succ]
        refine wpAnyH_take (i := 35) (oi := ⟨some 104, _, _, _, _, _⟩) (v := undef) rfl (by kernel_rfl) (by kernel_rfl) (by kernel_rfl) (fun _ _ _ h => h) (Or.inr ⟨by rfl, rfl⟩) (by assumption) ?_
        try simp only [Act.put, List.setIfInBounds_toArray, List.set_cons_zero, List.set_cons_succ]
        refine wpAnyH_take (i := 36) (oi := ⟨some 105, _, _, _, _, _⟩) (v := undef) rfl (by kernel_rfl) (by kernel_rfl) (by kernel_rfl) (fun _ _ _ h => h) (Or.inr ⟨by rfl, rfl⟩) (by assumption) ?_
        try simp only [Act.put, List.setIfInBounds_toArray, List.set_cons_zero, List.set_cons_succ]
        refine wpAnyH_take (i := 37) (oi := ⟨some 106, _, _, _, _, _⟩) (v := undef) rfl (by kernel_rfl) (by kernel_rfl) (by kernel_rfl) (fun _ _ _ h => h) (Or.inr ⟨by rfl, rfl⟩) (by assumption) ?_
        try simp only [Act.put, List.setIfInBounds_toArray, List.set_cons_zero, List.set_cons_succ]
        refine wpAnyH_take (i := 38) (oi := ⟨some 107, _, _, _, _, _⟩) (v := undef) rfl (by kernel_rfl) (by kernel_rfl) (by kernel_rfl) (fun _ _ _ h => h) (Or.inr ⟨by rfl, rfl⟩) (by assumption) ?_
        try simp only [Act.put, List.setIfInBounds_toArray, List.set_cons_zero, List.set_cons_succ]
        refine wpAnyH_take (i := 39) (oi := ⟨some 108, _, _, _, _, _⟩) (v := undef) rfl (by kernel_rfl) (by kernel_rfl) (by kernel_rfl) (fun _ _ _ h => h) (Or.inr ⟨by rfl, rfl⟩) (by assumption) ?_
        try simp only [Act.put, List.setIfInBounds_toArray, List.set_cons_zero, List.set_cons_succ]
        refine wpAnyH_take (i := 40) (oi := ⟨some 109, _, _, _, _, _⟩) (v := ?_) rfl (by kernel_rfl) (by kernel_rfl) (by kernel_rfl) (fun _ _ _ h => h) (Or.inl ⟨by rfl, ?_⟩) (by assumption) ?_
        rotate_left
        focus ((intro w hSw; (try dsimp only at hSw); go_simp); try (with_reducible rfl))
        try simp only [Act.put, List.setIfInBounds_toArray, List.set_cons_zero, List.set_cons_succ]
        refine wpAnyH_take (i := 41) (oi := ⟨some 110, _, _, _, _, _⟩) (v := ?_) rfl (by kernel_rfl) (by kernel_rfl) (by kernel_rfl) (fun _ _ _ h => h) (Or.inl ⟨by rfl, ?_⟩) (by assumption) ?_
        rotate_left
        focus ((intro w hSw; (try dsimp only at hSw); go_simp); try (with_reducible rfl))
        try simp only [Act.put, List.setIfInBounds_toArray, List.set_cons_zero, List.set_cons_succ]
        refine wpAnyH_take (i := 42) (oi := ⟨some 111, _, _, _, _, _⟩) (v := ?_) rfl (by kernel_rfl) (by kernel_rfl) (by kernel_rfl) (fun _ _ _ h => h) (Or.inl ⟨by rfl, ?_⟩) (by assumption) ?_
        rotate_left
        focus ((intro w hSw; (try dsimp only at hSw); go_simp); try (with_reducible rfl))
        try simp only [Act.put, List.setIfInBounds_toArray, List.set_cons_zero, List.set_cons_succ]
        refine wpAnyH_take (i := 43) (oi := ⟨some 112, _, _, _, _, _⟩) (v := ?_) rfl (by kernel_rfl) (by kernel_rfl) (by kernel_rfl) (fun _ _ _ h => h) (Or.inl ⟨by rfl, ?_⟩) (by assumption) ?_
        rotate_left
        focus ((intro w hSw; (try dsimp only at hSw); go_simp); try (with_reducible rfl))
        try simp only [Act.put, List.setIfInBounds_toArray, List.set_cons_zero, List.set_cons_succ]
        refine wpAnyH_take (i := 44) (oi := ⟨some 113, _, _, _, _, _⟩) (v := ?_) rfl (by kernel_rfl) (by kernel_rfl) (by kernel_rfl) (fun _ _ _ h => h) (Or.inl ⟨by rfl, ?_⟩) (by assumption) ?_
        rotate_left
        focus ((intro w hSw; (try dsimp only at hSw); go_simp); try (with_reducible rfl))
        try simp only [Act.put, List.setIfInBounds_toArray, List.set_cons_zero, List.set_cons_succ]
        refine wpAnyH_take (i := 45) (oi := ⟨some 114, _, _, _, _, _⟩) (v := ?_) rfl (by kernel_rfl) (by kernel_rfl) (by kernel_rfl) (fun _ _ _ h => h) (Or.inl ⟨by rfl, ?_⟩) (by assumption) ?_
        rotate_left
        focus ((intro w hSw; (try dsimp only at hSw); go_simp); try (with_reducible rfl))
        try simp only [Act.put, List.setIfInBounds_toArray, List.set_cons_zero, List.set_cons_succ]
        refine wpAnyH_take (i := 46) (oi := ⟨some 115, _, _, _, _, _⟩) (v := ?_) rfl (by kernel_rfl) (by kernel_rfl) (by kernel_rfl) (fun _ _ _ h => h) (Or.inl ⟨by rfl, ?_⟩) (by assumption) ?_
        rotate_left
        focus ((intro w hSw; (try dsimp only at hSw); go_simp); try (with_reducible rfl))
        try simp only [Act.put, List.setIfInBounds_toArray, List.set_cons_zero, List.set_cons_succ]
        refine wpAnyH_take (i := 47) (oi := ⟨some 116, _, _, _, _, _⟩) (v := ?_) rfl (by kernel_rfl) (by kernel_rfl) (by kernel_rfl) (fun _ _ _ h => h) (Or.inl ⟨by rfl, ?_⟩) (by assumption) ?_
        rotate_left
        focus ((intro w hSw; (try dsimp only at hSw); go_simp); try (with_reducible rfl))
        try simp only [Act.put, List.setIfInBounds_toArray, List.set_cons_zero, List.set_cons_succ]
        refine wpAnyH_take (i := 48) (oi := ⟨some 117, _, _, _, _, _⟩) (v := ?_) rfl (by kernel_rfl) (by kernel_rfl) (by kernel_rfl) (fun _ _ _ h => h) (Or.inl ⟨by rfl, ?_⟩) (by assumption) ?_
        rotate_left
        focus ((intro w hSw; (try dsimp only at hSw); go_simp); try (with_reducible rfl))
        try simp only [Act.put, List.setIfInBounds_toArray, List.set_cons_zero, List.set_cons_succ]
        refine wpAnyH_take (i := 49) (oi := ⟨some 118, _, _, _, _, _⟩) (v := ?_) rfl (by kernel_rfl) (by kernel_rfl) (by kernel_rfl) (fun _ _ _ h => h) (Or.inl ⟨by rfl, ?_⟩) (by assumption) ?_
        rotate_left
        focus ((intro w hSw; (try dsimp only at hSw); go_simp); try (with_reducible rfl))
        try simp only [Act.put, List.setIfInBounds_toArray, List.set_cons_zero, List.set_cons_succ]
        refine wpAnyH_take (i := 50) (oi := ⟨some 119, _, _, _, _, _⟩) (v := ?_) rfl (by kernel_rfl) (by kernel_rfl) (by kernel_rfl) (fun _ _ _ h => h) (Or.inl ⟨by rfl, ?_⟩) (by assumption) ?_
        rotate_left
        focus ((intro w hSw; (try dsimp only at hSw); go_simp); try (with_reducible rfl))
        try simp only [Act.put, List.setIfInBounds_toArray, List.set_cons_zero, List.set_cons_succ]
        refine wpAnyH_done (by kernel_rfl) ?_ _
        all_goals
          have HEND := Lib.hid (hend _ (by first | exact q0 | exact q0.drew))
          clear CL CLI CSM HK q0
          go_wp2_with fail
          go_roundw
          case rel => exact ⟨k + 1, h', by omega, by go_num, HEND.out⟩
          case measure => simp [intOf]; omega
end Go.Proofs.Ytjegohibpojneaa
