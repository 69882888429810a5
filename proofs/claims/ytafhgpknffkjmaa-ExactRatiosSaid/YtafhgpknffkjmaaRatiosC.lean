import Derived.Test.YtafhgpknffkjmaaRatiosT
import Derived.Test.YtafhgpknffkjmaaOrder
set_option linter.unusedVariables false
set_option linter.unusedSimpArgs false
namespace Go.Proofs.Ytafhgpknffkjmaa
open Go.RowKit

theorem Sl.keep2 {α : Type} {S : Nat → Prop} {w w' : World} {v : Value} {l : List α} {enc : α → Value} (h : Sl w enc v l) (ho : Only S w w') (hS : ∀ b off n c, 0 < l.length → v = .slice (some ⟨b, off, none⟩) n c → ¬ S b) : Sl w' enc v l := by
  obtain ⟨ad, c, rfl, h1, h2, h3, h4⟩ := h
  refine ⟨ad, c, rfl, h1, h2, h3, fun h0 => ?_⟩
  obtain ⟨b, off, rfl, hc⟩ := h4 h0
  exact ⟨b, off, rfl, fun i hi => ho.cell_eq (hc i hi) (hS b off _ _ h0 rfl)⟩
/-- A number's bits don't lie in a fresh Big's own block. -/
theorem Sl.apart {w : World} {v : Value} {n g : Nat} {t : TypeId} (h : Sl w .bool v (nb n)) (hg : w.heap[g]? = some (.cells #[.slice none 0 0, .bool false] t (0, 0))) : ∀ b off m c, 0 < (nb n).length → v = .slice (some ⟨b, off, none⟩) m c → ¬ b = g := by
  rintro b off m c h0 rfl rfl
  obtain ⟨ad, c', e, h1, h2, h3, h4⟩ := h
  obtain ⟨b', off', rfl, hc⟩ := h4 h0
  simp only [Value.slice.injEq, Option.some.injEq, Addr.mk.injEq] at e
  obtain ⟨⟨rfl, rfl, _⟩, _, _⟩ := e
  have h5 := hc ((nb n).length - 1) (by omega)
  have h6 : (nb n)[(nb n).length - 1]'(by omega) = true := by
    rcases nb_last n with h | h
    · rw [h] at h0; simp at h0
    · rw [List.getLast?_eq_getElem?, List.getElem?_eq_getElem (by omega)] at h; exact Option.some.inj h
  rw [h6, blk_cells hg] at h5
  generalize off + ((nb n).length - 1) = k at h5
  match k, h5 with
  | 0, h5 => simp at h5
  | 1, h5 => simp at h5
  | k + 2, h5 => simp at h5
theorem Sl.old {α : Type} {w : World} {v : Value} {l : List α} {enc : α → Value} (h : Sl w enc v l) {b off n c : Nat} (h0 : 0 < l.length) (hv : v = .slice (some ⟨b, off, none⟩) n c) : b < w.heap.size := by
  subst hv
  obtain ⟨ad, c', e, h1, h2, h3, h4⟩ := h
  obtain ⟨b', off', rfl, hc⟩ := h4 h0
  simp only [Value.slice.injEq, Option.some.injEq, Addr.mk.injEq] at e
  obtain ⟨⟨rfl, rfl, _⟩, _, _⟩ := e
  exact World.block_lt_of_cell? w _ (hc 0 h0)
theorem neg_sgn (z : Int) (h : z ≠ 0) : (!decide (z < 0)) = decide (-z < 0) := by
  by_cases h1 : z < 0
  · rw [decide_eq_true h1, decide_eq_false (by omega)]; rfl
  · rw [decide_eq_false h1, decide_eq_true (by omega)]; rfl
set_option maxRecDepth 100000 in
set_option maxHeartbeats 2000000 in
theorem rcomp_go (an bn : Int) (a b : Nat) (w : World) (ha : i64in an) (hd : i64in a) (hb : i64in bn) (hbd : i64in b) (h1 : RatOk an a) (h2 : RatOk bn b) :
    Calls Try.prog 62 #[rat an a, rat bn b] w fun f w' => f = .returned (.int .i64 (cmpS an a bn b)) ∧ Same w w' := by
  have r1 := fun w0 => rright_any an a w0 ha hd
  have r2 := fun w0 => rright_any bn b w0 hb hbd
  rw [decide_eq_true h1] at r1
  rw [decide_eq_true h2] at r2
  have l1 := abs_len3 an ha
  have l2 := abs_len3 bn hb
  have l3 := abs_len3 a hd
  have l4 := abs_len3 b hbd
  have l5 := mul_len3 an b l1 l4
  have l6 := mul_len3 bn a l2 l3
  have l6' : (nb (-(bn * a)).natAbs).length ≤ 128 := by rw [Int.natAbs_neg]; exact l6
  have l7 := add_len3 (an * b) (-(bn * a)) 128 l5 l6'
  rw [Int.natAbs_natCast] at l3 l4
  have R1 := Lib.hid r1; have R2 := Lib.hid r2
  have L1 := Lib.hid l1; have L2 := Lib.hid l2; have L3 := Lib.hid l3; have L4 := Lib.hid l4; have L5 := Lib.hid l5; have L6 := Lib.hid l6; have L6' := Lib.hid l6'; have L7 := Lib.hid l7
  clear r1 r2 l1 l2 l3 l4 l5 l6 l6' l7 h1 h2
  have hb3 := blk2' w (.cells #[.int .i64 an, .int .i64 a] 83) (.cells #[.int .i64 bn, .int .i64 b] 83)
  have hS0 : Same w ((w.alloc (.cells #[.int .i64 an, .int .i64 a] 83)).alloc (.cells #[.int .i64 bn, .int .i64 b] 83)) := ((Only.refl _ w).alloc _).alloc _
  go_enter Try.func62, Try.ntmps62
  go_upto_region 1 with fail
  generalize (w.alloc (.cells #[.int .i64 an, .int .i64 a] 83)).alloc (.cells #[.int .i64 bn, .int .i64 b] 83) = W0 at *
  obtain ⟨k0, k1, k2, k3⟩ := pair_facts2 hb3.1
  obtain ⟨m0, m1, m2, m3⟩ := pair_facts2 hb3.2
  have HB3 := Lib.hid hb3; have HS0 := Lib.hid hS0
  clear hb3 hS0
  go_wp2_with fail
  refine (R1.out _).mono ?_
  rintro f w1 ⟨rfl, hS1⟩
  replace m0 := hS1.cell_eq m0 (fun h => h)
  replace m1 := hS1.cell_eq m1 (fun h => h)
  go_wp2_with fail
  refine (R2.out _).mono ?_
  rintro f w2 ⟨rfl, hS2⟩
  have HB := Lib.hid (And.intro (hS2.heap (hS1.heap HB3.out.1 (fun h => h)) (fun h => h)) (hS2.heap (hS1.heap HB3.out.2 (fun h => h)) (fun h => h)))
  have HS2 := Lib.hid ((HS0.out.then hS1).then hS2)
  clear k0 k1 k2 k3 m0 m1 m2 m3 hS1 hS2 HB3 HS0
  go_wp2_with fail
  have CN := Lib.hid (fun w0 => of_any an w0 ha); have CM := Lib.hid (fun w0 => of_any bn w0 hb); have CA := Lib.hid (fun w0 => of_any a w0 hd); have CB := Lib.hid (fun w0 => of_any b w0 hbd)
  have M1 := Lib.hid (fun (w0 : World) r1 r2 (h1 : Bg w0 r1 an) (h2 : Bg w0 r2 (b : Int)) => bmul_any r1 r2 an b w0 h1 h2 (by have := L1.out; omega) (by rw [Int.natAbs_natCast]; have := L4.out; omega))
  have M2 := Lib.hid (fun (w0 : World) r1 r2 (h1 : Bg w0 r1 bn) (h2 : Bg w0 r2 (a : Int)) => bmul_any r1 r2 bn a w0 h1 h2 (by have := L2.out; omega) (by rw [Int.natAbs_natCast]; have := L3.out; omega))
  have M3 := Lib.hid (fun (w0 : World) r1 r2 (h1 : Bg w0 r1 (an * b)) (h2 : Bg w0 r2 (-(bn * a))) => badd_any r1 r2 (an * b) (-(bn * a)) w0 h1 h2 (by have := L5.out; omega) (by have := L6'.out; omega))
  go_cut [5] from 7 (fun s5 wx => ∃ g sl, s5 = .pointer (some ⟨g, 0, none⟩) ∧ Same w2 wx ∧ w2.heap.size ≤ g ∧ wx.heap[g]? = some (.cells #[sl, .bool (decide (bn * a < 0))] 76 (0, 0)) ∧ Sl wx .bool sl (nb (bn * a).natAbs) ∧ ∀ b off n c, 0 < (nb (bn * a).natAbs).length → sl = .slice (some ⟨b, off, none⟩) n c → ¬ b = g)
  case first =>
    have q0 : Same w2 w2 := Only.refl _ _
    have p0 : Same w2 w2 := Only.refl _ _
    have hK : ∀ w', Same w2 w' → (Same w2 w' ∧ w'.cell? ⟨w.heap.size, 0, none⟩ = some (.int .i64 an) ∧ w'.cell? ⟨w.heap.size, 1, none⟩ = some (.int .i64 a) ∧ w'.cell? ⟨w.heap.size + 1, 0, none⟩ = some (.int .i64 bn) ∧ w'.cell? ⟨w.heap.size + 1, 1, none⟩ = some (.int .i64 b)) := fun w' h => by
      obtain ⟨k0, k1, _, _⟩ := pair_facts2 (h.heap HB.out.1 (fun h => h))
      obtain ⟨m0, m1, _, _⟩ := pair_facts2 (h.heap HB.out.2 (fun h => h))
      exact ⟨h, k0, k1, m0, m1⟩
    have HK := Lib.hid hK
    clear hK
    go_region_held3 (fun w' => Same w2 w' ∧ w'.cell? ⟨w.heap.size, 0, none⟩ = some (.int .i64 an) ∧ w'.cell? ⟨w.heap.size, 1, none⟩ = some (.int .i64 a) ∧ w'.cell? ⟨w.heap.size + 1, 0, none⟩ = some (.int .i64 bn) ∧ w'.cell? ⟨w.heap.size + 1, 1, none⟩ = some (.int .i64 b))
      (first | exact HK.out _ q0 | exact HK.out _ q0.drew | exact HK.out _ (q0.alloc _) | exact HK.out _ (q0.drew.alloc _) | exact HK.out _ (q0.put2 (fun h => absurd h (by omega)) _ _) | exact HK.out _ ((q0.alloc _).put2 (fun h => absurd h (by omega)) _ _) | exact HK.out _ ((q0.alloc _).setCell (fun h => absurd h (by omega)) _) | exact HK.out _ (q0.setCell (fun h => absurd h (by omega)) _))
      (first
        | (go_at_call 49; (with_reducible refine (CM.out _).mono ?_); rintro f wn ⟨rn, rfl, hSn, hBn⟩; obtain ⟨sn, rfl, hsn⟩ := hBn; obtain ⟨ad, cn, rfl, _, _⟩ := hsn.lit; have y1 : Bg wn _ bn := ⟨_, rfl, hsn⟩; have hSz := q0.size; have q0 := Only.then (by first | exact q0 | exact q0.drew | exact q0.alloc _ | exact q0.drew.alloc _) hSn; (first | (have hB5 := Lib.hid (hSn.heap hB5.out (fun h => h))) | (have hB5 := Lib.hid (hSn.heap (blk_new _ (.cells #[.slice none 0 0, .bool false] 76)) (fun h => h))) | skip); have y1S := Lib.hid hsn; have y1W := hSn; clear hsn hSn)
        | (go_at_call 49; (with_reducible refine (CA.out _).mono ?_); rintro f wn ⟨rn, rfl, hSn, hBn⟩; obtain ⟨sn, rfl, hsn⟩ := hBn; rw [Int.natAbs_natCast] at hsn; obtain ⟨ad, cn, rfl, _, _⟩ := hsn.lit; have y2 : Bg wn _ (a : Int) := ⟨_, rfl, (by rw [Int.natAbs_natCast]; exact hsn)⟩; have hSz := q0.size; have q0 := Only.then (by first | exact q0 | exact q0.drew | exact q0.alloc _ | exact q0.drew.alloc _) hSn; (first | (have hB5 := Lib.hid (hSn.heap hB5.out (fun h => h))) | (have hB5 := Lib.hid (hSn.heap (blk_new _ (.cells #[.slice none 0 0, .bool false] 76)) (fun h => h))) | skip); have y2S := Lib.hid hsn; have y2W := hSn; clear hsn hSn)
        | (go_at_call 51; (with_reducible refine (M2.out _ _ _ (by first | exact y1.same y2W | exact y1.same (((Only.refl (fun _ => False) _).alloc _).then y2W) | exact (y1.same y2W).same ((Only.refl (fun _ => False) _).alloc _)) (by first | exact y2 | exact y2.same ((Only.refl (fun _ => False) _).alloc _))).mono ?_); rintro f wm ⟨y3r, rfl, hSn, y3⟩; obtain ⟨sn, rfl, hsn⟩ := y3; obtain ⟨ad, cn, rfl, _, _⟩ := hsn.lit; have y3N := Lib.hid hsn; have hSz := q0.size; have q0 := Only.then (by first | exact q0 | exact q0.drew | exact q0.alloc _ | exact q0.drew.alloc _) hSn; (first | (have hB5 := Lib.hid (hSn.heap hB5.out (fun h => h))) | (have hB5 := Lib.hid (hSn.heap (blk_new _ (.cells #[.slice none 0 0, .bool false] 76)) (fun h => h))) | skip); (first | (have hB6 := hB5.out; have y3S := Lib.hid hsn) | (have hB5 := Lib.hid (blk_new wm (.cells #[.slice none 0 0, .bool false] 76)); have y3S := Lib.hid (hsn.same ((Only.refl (fun _ => False) _).alloc (.cells #[.slice none 0 0, .bool false] 76))))); obtain ⟨r0, r1, r2, r3⟩ := pair_facts2 hB5.out; have hSz := q0.size; clear hSn hsn y1 y2))
    all_goals
      go_wp2_with fail
      go_meet
      case rel =>
        refine ⟨_, _, rfl, ?_, ?_, (by first | exact pair_set2 hB5.out _ _ | exact blk_new _ _), ?_, ?_⟩
        · first | exact q0.put2 (fun h => absurd h (by omega)) _ _ | exact (q0.alloc _).put2 (fun h => absurd h (by omega)) _ _ | exact q0.alloc _
        · omega
        · first | exact y3N.out.same ((Only.refl (fun _ => False) _).alloc _) | exact y3S.out.keep2 ((Only.refl (fun k => k = _) _).put2 (fun _ => rfl) _ _) (y3S.out.apart hB5.out)
        · first | exact y3S.out.apart hB5.out | exact fun b off n c h0 h => Nat.ne_of_lt (y3N.out.old h0 h)
  case rest =>
  obtain ⟨g, sl, rfl, hSx, hge, hgx, hSl, hap⟩ := hcut
  obtain ⟨W5, hw5⟩ : ∃ x, x = wc := ⟨_, rfl⟩
  subst hw5
  obtain ⟨ads, cs, rfl, hcs, hms⟩ := hSl.lit
  have HS5 := Lib.hid hSx; have HG5 := Lib.hid hgx; have HSL := Lib.hid hSl; have HAP := Lib.hid hap
  have hg5 := heap_lt hgx
  obtain ⟨r0, r1, r2, r3⟩ := pair_facts2 hgx
  have hlp : 0 < (nb (bn * a).natAbs).length ↔ bn * a ≠ 0 := by rw [nb_len_pos]; omega
  have hz0 : bn * a = 0 → decide (bn * a < 0) = decide (-(bn * a) < 0) := fun h => by rw [h]; rfl
  have hz1 := neg_sgn (bn * a)
  clear hSx hgx hSl hap CM CA M2
  generalize hls : (nb (bn * a).natAbs).length = ls at *
  have HLS := Lib.hid hls
  clear hls
  generalize decide (bn * a < 0) = ms at *
  generalize hmt : decide (-(bn * a) < 0) = mt at *
  have HMT := Lib.hid hmt; have HZ0 := Lib.hid hz0; have HZ1 := Lib.hid hz1; have HLP := Lib.hid hlp
  clear hmt hz0 hz1 hlp
  go_upto_if 25 with fail
  go_cut [] from 7 (fun wx => Same w2 wx ∧ wx.heap[g]? = some (.cells #[.slice ads ls cs, .bool mt] 76 (0, 0)) ∧ Sl wx .bool (.slice ads ls cs) (nb (bn * a).natAbs))
  case first =>
    by_cases hz : bn * a = 0
    · have hl0 : ¬ 0 < ls := fun h => HLP.out.1 h hz
      have hm := HZ0.out hz
      subst hm
      clear hz
      go_wp2_with fail
      go_meet
      case rel => exact ⟨HS5.out, HG5.out, HSL.out⟩
    · have hl0 : 0 < ls := HLP.out.2 hz
      have hm := HZ1.out hz
      subst hm
      clear hz
      go_wp2_with fail
      go_meet
      case rel => exact ⟨HS5.out.trans ((Only.refl (· = g) _).setCell (fun _ => rfl) _) (fun k hk h => by omega), blk_set HG5.out, HSL.out.keep2 ((Only.refl (· = g) _).setCell (fun _ => rfl) _) (fun b off n c h0 h => HAP.out b off n c (by rw [← HLS.out]; exact h0) h)⟩
  case rest =>
  obtain ⟨hSx, hgx, hSl⟩ := hcut
  obtain ⟨W6, hw6⟩ : ∃ x, x = wc := ⟨_, rfl⟩
  subst hw6
  have hx : Bg W6 (.agg #[.slice ads ls cs, .bool mt]) (-(bn * a)) := ⟨_, by rw [HMT.out], by rw [Int.natAbs_neg]; exact hSl⟩
  have HX := Lib.hid hx; have HS6 := Lib.hid hSx; have HG6 := Lib.hid hgx
  have hg6 := heap_lt hgx
  clear hSx hgx hSl hx HS5 HG5 HSL HAP HLS HMT HZ0 HZ1 HLP r0 r1 r2 r3
  go_upto_region 6 with fail
  go_cut [6] from 7 (fun s6 wx => ∃ g2 s2, s6 = .pointer (some ⟨g2, 0, none⟩) ∧ Same w2 wx ∧ wx.heap[g2]? = some (.cells #[s2, .bool (decide (an * b + -(bn * a) < 0))] 76 (0, 0)) ∧ Sl wx .bool s2 (nb (an * b + -(bn * a)).natAbs))
  case first =>
    have q0 : Same W6 W6 := Only.refl _ _
    have hK : ∀ w', Same W6 w' → (Same W6 w' ∧ w'.cell? ⟨w.heap.size, 0, none⟩ = some (.int .i64 an) ∧ w'.cell? ⟨w.heap.size, 1, none⟩ = some (.int .i64 a) ∧ w'.cell? ⟨w.heap.size + 1, 0, none⟩ = some (.int .i64 bn) ∧ w'.cell? ⟨w.heap.size + 1, 1, none⟩ = some (.int .i64 b) ∧ w'.cell? ⟨g, 0, none⟩ = some (.slice ads ls cs) ∧ w'.cell? ⟨g, 1, none⟩ = some (.bool mt)) := fun w' h => by
      obtain ⟨k0, k1, _, _⟩ := pair_facts2 (h.heap (HS6.out.heap HB.out.1 (fun h => h)) (fun h => h))
      obtain ⟨m0, m1, _, _⟩ := pair_facts2 (h.heap (HS6.out.heap HB.out.2 (fun h => h)) (fun h => h))
      obtain ⟨x0, x1, _, _⟩ := pair_facts2 (h.heap HG6.out (fun h => h))
      exact ⟨h, k0, k1, m0, m1, x0, x1⟩
    have HK := Lib.hid hK
    clear hK
    go_region_held3 (fun w' => Same W6 w' ∧ w'.cell? ⟨w.heap.size, 0, none⟩ = some (.int .i64 an) ∧ w'.cell? ⟨w.heap.size, 1, none⟩ = some (.int .i64 a) ∧ w'.cell? ⟨w.heap.size + 1, 0, none⟩ = some (.int .i64 bn) ∧ w'.cell? ⟨w.heap.size + 1, 1, none⟩ = some (.int .i64 b) ∧ w'.cell? ⟨g, 0, none⟩ = some (.slice ads ls cs) ∧ w'.cell? ⟨g, 1, none⟩ = some (.bool mt))
      (first | exact HK.out _ q0 | exact HK.out _ q0.drew | exact HK.out _ (q0.alloc _) | exact HK.out _ (q0.drew.alloc _) | exact HK.out _ (q0.put2 (fun h => absurd h (by omega)) _ _) | exact HK.out _ ((q0.alloc _).put2 (fun h => absurd h (by omega)) _ _) | exact HK.out _ ((q0.alloc _).setCell (fun h => absurd h (by omega)) _) | exact HK.out _ (q0.setCell (fun h => absurd h (by omega)) _))
      (first
        | (go_at_call 49; (with_reducible refine (CN.out _).mono ?_); rintro f wn ⟨rn, rfl, hSn, hBn⟩; obtain ⟨sn, rfl, hsn⟩ := hBn; obtain ⟨ad, cn, rfl, _, _⟩ := hsn.lit; have y1 : Bg wn _ an := ⟨_, rfl, hsn⟩; have hSz := q0.size; have q0 := Only.then (by first | exact q0 | exact q0.drew | exact q0.alloc _ | exact q0.drew.alloc _) hSn; (first | (have hB5 := Lib.hid (hSn.heap hB5.out (fun h => h))) | (have hB5 := Lib.hid (hSn.heap (blk_new _ (.cells #[.slice none 0 0, .bool false] 76)) (fun h => h))) | skip); have y1S := Lib.hid hsn; have y1W := hSn; clear hsn hSn)
        | (go_at_call 49; (with_reducible refine (CB.out _).mono ?_); rintro f wn ⟨rn, rfl, hSn, hBn⟩; obtain ⟨sn, rfl, hsn⟩ := hBn; rw [Int.natAbs_natCast] at hsn; obtain ⟨ad, cn, rfl, _, _⟩ := hsn.lit; have y2 : Bg wn _ (b : Int) := ⟨_, rfl, (by rw [Int.natAbs_natCast]; exact hsn)⟩; have hSz := q0.size; have q0 := Only.then (by first | exact q0 | exact q0.drew | exact q0.alloc _ | exact q0.drew.alloc _) hSn; (first | (have hB5 := Lib.hid (hSn.heap hB5.out (fun h => h))) | (have hB5 := Lib.hid (hSn.heap (blk_new _ (.cells #[.slice none 0 0, .bool false] 76)) (fun h => h))) | skip); have y2S := Lib.hid hsn; have y2W := hSn; clear hsn hSn)
        | (go_at_call 51; (with_reducible refine (M1.out _ _ _ (by first | exact y1.same y2W | exact y1.same (((Only.refl (fun _ => False) _).alloc _).then y2W) | exact (y1.same y2W).same ((Only.refl (fun _ => False) _).alloc _)) (by first | exact y2 | exact y2.same ((Only.refl (fun _ => False) _).alloc _))).mono ?_); rintro f wn ⟨y3r, rfl, hSn, y3⟩; have hSz := q0.size; have q0 := Only.then (by first | exact q0 | exact q0.drew | exact q0.alloc _ | exact q0.drew.alloc _) hSn; (first | (have hB5 := Lib.hid (hSn.heap hB5.out (fun h => h))) | (have hB5 := Lib.hid (hSn.heap (blk_new _ (.cells #[.slice none 0 0, .bool false] 76)) (fun h => h))) | skip); clear hSn y1 y2)
        | (go_at_call 48; (with_reducible refine (M3.out _ _ _ (by first | exact y3 | exact y3.same ((Only.refl (fun _ => False) _).alloc _)) (by first | exact HX.out.same q0 | exact HX.out.same (q0.alloc _))).mono ?_); rintro f wm ⟨y4r, rfl, hSn, y4⟩; obtain ⟨sn, rfl, hsn⟩ := y4; obtain ⟨ad, cn, rfl, _, _⟩ := hsn.lit; have y3N := Lib.hid hsn; have hSz := q0.size; have q0 := Only.then (by first | exact q0 | exact q0.drew | exact q0.alloc _ | exact q0.drew.alloc _) hSn; (first | (have hB5 := Lib.hid (hSn.heap hB5.out (fun h => h))) | (have hB5 := Lib.hid (hSn.heap (blk_new _ (.cells #[.slice none 0 0, .bool false] 76)) (fun h => h))) | skip); (first | (have hB6 := hB5.out; have y3S := Lib.hid hsn) | (have hB5 := Lib.hid (blk_new wm (.cells #[.slice none 0 0, .bool false] 76)); have y3S := Lib.hid (hsn.same ((Only.refl (fun _ => False) _).alloc (.cells #[.slice none 0 0, .bool false] 76))))); obtain ⟨r0, r1, r2, r3⟩ := pair_facts2 hB5.out; have hSz := q0.size; clear hSn hsn y3))
    all_goals
      go_wp2_with fail
      go_meet
      case rel =>
        refine ⟨_, _, rfl, ?_, (by first | exact pair_set2 hB5.out _ _ | exact blk_new _ _), ?_⟩
        · first | exact HS6.out.then (q0.put2 (fun h => absurd h (by omega)) _ _) | exact HS6.out.then ((q0.alloc _).put2 (fun h => absurd h (by omega)) _ _) | exact HS6.out.then (q0.alloc _)
        · first | exact y3N.out.same ((Only.refl (fun _ => False) _).alloc _) | exact y3S.out.keep2 ((Only.refl (fun k => k = _) _).put2 (fun _ => rfl) _ _) (y3S.out.apart hB5.out)
  case rest =>
  obtain ⟨g2, s2, rfl, hSx, hgx, hSl⟩ := hcut
  obtain ⟨W7, hw7⟩ : ∃ x, x = wc := ⟨_, rfl⟩
  subst hw7
  obtain ⟨ad2, c2, rfl, hc2, hm2⟩ := hSl.lit
  have hcs : cmpS an a bn b = (an * b + -(bn * a)).sign := by unfold cmpS; rw [Int.sub_eq_add_neg]
  have hln : 0 < (nb (an * b + -(bn * a)).natAbs).length ↔ an * b + -(bn * a) ≠ 0 := by rw [nb_len_pos]; omega
  obtain ⟨r0, r1, r2, r3⟩ := pair_facts2 hgx
  have HSF := Lib.hid (HS2.out.then hSx)
  clear hSx hgx hSl HX HS6 HG6 hg6 hge hg5 M1 M3 CN CB L1 L2 L3 L4 L5 L6 L6' L7 R1 R2 HS2 HB
  generalize (nb (an * b + -(bn * a)).natAbs).length = l2 at *
  generalize an * b + -(bn * a) = z at *
  have HCS := Lib.hid hcs
  clear hcs
  rcases Int.lt_trichotomy z 0 with h | h | h
  · have hl0 : 0 < l2 := hln.2 (by omega)
    rw [decide_eq_true h] at r1
    have HSG := Lib.hid (Int.sign_eq_neg_one_of_neg h)
    have hl1 : ((l2 : Int) == 0) = false := by simp; omega
    clear hln h
    go_wp2_with fail
    go_ret
    rw [HCS.out, HSG.out]
    exact ⟨rfl, HSF.out⟩
  · subst h
    obtain rfl : l2 = 0 := by rcases Nat.eq_zero_or_pos l2 with h | h; exact h; exact absurd rfl (hln.1 h)
    clear hln
    go_wp2_with fail
    go_ret
    rw [HCS.out]
    exact ⟨rfl, HSF.out⟩
  · have hl0 : 0 < l2 := hln.2 (by omega)
    rw [decide_eq_false (by omega)] at r1
    have HSG := Lib.hid (Int.sign_eq_one_of_pos h)
    have hl1 : ((l2 : Int) == 0) = false := by simp; omega
    clear hln h
    go_wp2_with fail
    go_ret
    rw [HCS.out, HSG.out]
    exact ⟨rfl, HSF.out⟩
end Go.Proofs.Ytafhgpknffkjmaa
