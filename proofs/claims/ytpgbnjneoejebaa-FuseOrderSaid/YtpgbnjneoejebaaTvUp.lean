import Derived.Test.YtpgbnjneoejebaaTvFns
import Derived.BigRegion
set_option linter.unusedVariables false
set_option linter.unusedSimpArgs false
namespace Go.Proofs.Ytpgbnjneoejebaa
open Go.RowKit
attribute [local go_sem ↓] Go.wp_at_zero Go.wp_at_succ

theorem wrap_idV (a : Nat) (h : a ≤ 9223372036854775807) : IntKind.i64.wrap (a : Int) = (a : Int) := by rw [IntKind.wrap_i64]; omega
theorem wrap_predV (a : Nat) (h0 : 0 < a) (h : a ≤ 9223372036854775807) : IntKind.i64.wrap ((a : Int) - 1) = (a : Int) - 1 := by rw [IntKind.wrap_i64]; omega
def TvG (w : World) (b k g cap : Nat) (h : List VP) : Prop := w.heap[b]? = some (.cells #[.int .i64 k, .slice (some ⟨g, 0, none⟩) h.length cap, .func (.func 14) #[] #[]] 173 (0, 0)) ∧ b + 1 ≤ g ∧ RowV w g cap h
theorem TvG.top {w : World} {b k g cap : Nat} {h : List VP} (ht : TvG w b k g cap h) : TvAt w b k h := by
  obtain ⟨h1, h2, cs, h3, h4, h5, h6, h7⟩ := ht
  exact ⟨_, h1, by rw [cells3_len], .inr ⟨g, cap, cs, rfl, h2, h3, h4, h5, h6, h7⟩⟩
theorem TvAt.g {w : World} {b k : Nat} {h : List VP} (ht : TvAt w b k h) (h0 : 0 < h.length) : ∃ g cap, TvG w b k g cap h := by
  obtain ⟨v, h1, h2⟩ := ht
  rcases h2.2 with ⟨_, h3⟩ | ⟨g, cap, cs, rfl, h3, h4, h5, h6, h7, h8⟩
  · omega
  · exact ⟨g, cap, h1, h3, cs, h4, h5, h6, h7, h8⟩
theorem TvG.same {w w' : World} {b k g cap : Nat} {h : List VP} (ht : TvG w b k g cap h) (hS : Same w w') : TvG w' b k g cap h := by
  obtain ⟨h1, h2, cs, h3, h4⟩ := ht
  exact ⟨hS.heap h1 (fun h => h), h2, cs, hS.heap h3 (fun h => h), h4⟩
theorem tvG_drew {w : World} {b k g cap : Nat} {h : List VP} (h1 : w.drew.heap[b]? = some (.cells #[.int .i64 k, .slice (some ⟨g, 0, none⟩) h.length cap, .func (.func 14) #[] #[]] 173 (0, 0))) (h2 : b + 1 ≤ g) (h3 : RowV w g cap h) : TvG w.drew b k g cap h := by
  obtain ⟨cs, h4, h5⟩ := h3
  exact ⟨h1, h2, cs, h4, h5⟩
set_option maxRecDepth 100000 in
set_option maxHeartbeats 8000000 in
theorem tvup_any (b k g cap i0 : Nat) (h0 : List VP) (w : World) (ht : TvG w b k g cap h0) (hi : i0 < h0.length) (hu : UpG h0 i0) :
    Calls Try.prog 92 #[.pointer (some ⟨b, 0, none⟩), .int .i64 i0] w fun e w' => e = .returned (.tuple #[]) ∧ Only (· = g) w w' ∧ ∃ h', h'.Perm h0 ∧ HeapG h' ∧ TvG w' b k g cap h' := by
  have HT := Lib.hid ht; have HU := Lib.hid hu
  clear ht hu
  go_enter Try.func92, Try.ntmps92
  go_wp2_with fail
  go_loopw [1] (fun i wr => ∃ (n : Nat) (h : List VP), i = .int .i64 n ∧ n < h.length ∧ h.Perm h0 ∧ UpG h n ∧ Only (· = g) w wr ∧ TvG wr b k g cap h) (fun i _ => (intOf i).toNat)
  case atStart => exact ⟨i0, h0, rfl, hi, List.Perm.refl _, HU.out, Only.refl _ _, HT.out⟩
  case round =>
    obtain ⟨n, h, rfl, hn, hperm, hup, hO, hT⟩ := hrel
    have HP := Lib.hid hperm; have HUP := Lib.hid hup; have HO := Lib.hid hO; have HT2 := Lib.hid hT
    obtain ⟨h1, hbg, hrow⟩ := hT
    obtain ⟨⟨k0, k1, k2⟩, _⟩ := three_facts h1
    have HR := Lib.hid hrow
    have hmx : h.length ≤ 9223372036854775807 := by obtain ⟨cs, _, h2, h3, _⟩ := hrow; unfold maxLen at h3; omega
    clear hperm hup hO h1 hrow HT HU
    by_cases hn0 : n = 0
    · have hd : decide (0 < n) = false := by simp; omega
      go_upto_region 0 with fail
      go_quiet (fail)
      rename_i nq
      go_wp2_with fail
      refine bodyPost_end (results_none rfl _ _ _) rfl ?_
      exact ⟨rfl, HO.out.drewN nq, h, HP.out, gup_stop h n HUP.out (.inl hn0), HT2.out.same ((Only.refl (fun _ => False) wr).drewN nq)⟩
    · have hd : decide (0 < n) = true := by simp; omega
      obtain ⟨p, hp0⟩ : ∃ p, p = (n - 1) / 2 := ⟨_, rfl⟩
      have hq : ((n : Int) - 1).tdiv 2 = (p : Int) := by rw [Int.tdiv_eq_ediv_of_nonneg (by omega)]; omega
      have hq0 : ((n : Int) - 1) / 2 = (p : Int) := by omega
      have hq1 := wrap_predV n (by omega) (by omega)
      have hq3 := wrap_idV p (by omega)
      have hpl : p < h.length := by omega
      obtain ⟨c0, c1, c2⟩ := HR.out.cell p hpl
      obtain ⟨d0, d1, d2⟩ := HR.out.cell n hn
      generalize hX : hpG h p = x at *
      generalize hY : hpG h n = y at *
      have HX := Lib.hid hX; have HY := Lib.hid hY; have HP0 := Lib.hid hp0
      clear hX hY hp0
      have cb := fun w0 => vbetter_any x y w0
      cases hb : Bet.bet x y with
      | false =>
        rw [hb] at cb
        have CB := Lib.hid cb; have HB := Lib.hid hb
        clear cb hb
        have q0 : Same wr wr := Only.refl _ _
        have hK : ∀ w', Same wr w' → (w'.cell? ⟨b, 1, none⟩ = some (.slice (some ⟨g, 0, none⟩) h.length cap) ∧ w'.cell? ⟨b, 2, none⟩ = some (.func (.func 14) #[] #[]) ∧ w'.cell? ⟨g, p * 3, none⟩ = some (.int .i64 x.1) ∧ w'.cell? ⟨g, p * 3 + 1, none⟩ = some (.int .i64 (vb x)) ∧ w'.cell? ⟨g, p * 3 + 2, none⟩ = some (.int .i64 (vc x)) ∧ w'.cell? ⟨g, n * 3, none⟩ = some (.int .i64 y.1) ∧ w'.cell? ⟨g, n * 3 + 1, none⟩ = some (.int .i64 (vb y)) ∧ w'.cell? ⟨g, n * 3 + 2, none⟩ = some (.int .i64 (vc y))) :=
          fun w' hS => ⟨hS.cell_eq k1 (fun h => h), hS.cell_eq k2 (fun h => h), hS.cell_eq c0 (fun h => h), hS.cell_eq c1 (fun h => h), hS.cell_eq c2 (fun h => h), hS.cell_eq d0 (fun h => h), hS.cell_eq d1 (fun h => h), hS.cell_eq d2 (fun h => h)⟩
        have HK := Lib.hid hK
        clear hK
        go_upto_region 0 with fail
        go_region_held3 (fun w' => w'.cell? ⟨b, 1, none⟩ = some (.slice (some ⟨g, 0, none⟩) h.length cap) ∧ w'.cell? ⟨b, 2, none⟩ = some (.func (.func 14) #[] #[]) ∧ w'.cell? ⟨g, p * 3, none⟩ = some (.int .i64 x.1) ∧ w'.cell? ⟨g, p * 3 + 1, none⟩ = some (.int .i64 (vb x)) ∧ w'.cell? ⟨g, p * 3 + 2, none⟩ = some (.int .i64 (vc x)) ∧ w'.cell? ⟨g, n * 3, none⟩ = some (.int .i64 y.1) ∧ w'.cell? ⟨g, n * 3 + 1, none⟩ = some (.int .i64 (vb y)) ∧ w'.cell? ⟨g, n * 3 + 2, none⟩ = some (.int .i64 (vc y)))
          (first | exact HK.out _ q0 | exact HK.out _ q0.drew | exact HK.out _ (q0.alloc _))
          (first | ((go_at_call 14; refine (CB.out _).mono ?_; rintro e w8 ⟨rfl, hS8'⟩; have q0 := Only.then (by first | exact q0 | exact q0.drew) hS8'; clear hS8')))
        all_goals
          go_wp2_with fail
          refine bodyPost_end (results_none rfl _ _ _) rfl ?_
          refine ⟨rfl, by first | exact HO.out.then q0 | exact HO.out.then q0.drew, h, HP.out, gup_stop h n HUP.out (.inr ?_), by first | exact HT2.out.same q0 | exact HT2.out.same q0.drew⟩
          rw [← HP0.out, HX.out, HY.out]
          exact HB.out
      | true =>
        rw [hb] at cb
        have CB := Lib.hid cb; have HB := Lib.hid hb
        clear cb hb
        have q0 : Same wr wr := Only.refl _ _
        have hK : ∀ w', Same wr w' → (w'.cell? ⟨b, 1, none⟩ = some (.slice (some ⟨g, 0, none⟩) h.length cap) ∧ w'.cell? ⟨b, 2, none⟩ = some (.func (.func 14) #[] #[]) ∧ w'.cell? ⟨g, p * 3, none⟩ = some (.int .i64 x.1) ∧ w'.cell? ⟨g, p * 3 + 1, none⟩ = some (.int .i64 (vb x)) ∧ w'.cell? ⟨g, p * 3 + 2, none⟩ = some (.int .i64 (vc x)) ∧ w'.cell? ⟨g, n * 3, none⟩ = some (.int .i64 y.1) ∧ w'.cell? ⟨g, n * 3 + 1, none⟩ = some (.int .i64 (vb y)) ∧ w'.cell? ⟨g, n * 3 + 2, none⟩ = some (.int .i64 (vc y))) :=
          fun w' hS => ⟨hS.cell_eq k1 (fun h => h), hS.cell_eq k2 (fun h => h), hS.cell_eq c0 (fun h => h), hS.cell_eq c1 (fun h => h), hS.cell_eq c2 (fun h => h), hS.cell_eq d0 (fun h => h), hS.cell_eq d1 (fun h => h), hS.cell_eq d2 (fun h => h)⟩
        have HK := Lib.hid hK
        clear hK
        go_upto_region 0 with fail
        go_region_held3 (fun w' => w'.cell? ⟨b, 1, none⟩ = some (.slice (some ⟨g, 0, none⟩) h.length cap) ∧ w'.cell? ⟨b, 2, none⟩ = some (.func (.func 14) #[] #[]) ∧ w'.cell? ⟨g, p * 3, none⟩ = some (.int .i64 x.1) ∧ w'.cell? ⟨g, p * 3 + 1, none⟩ = some (.int .i64 (vb x)) ∧ w'.cell? ⟨g, p * 3 + 2, none⟩ = some (.int .i64 (vc x)) ∧ w'.cell? ⟨g, n * 3, none⟩ = some (.int .i64 y.1) ∧ w'.cell? ⟨g, n * 3 + 1, none⟩ = some (.int .i64 (vb y)) ∧ w'.cell? ⟨g, n * 3 + 2, none⟩ = some (.int .i64 (vc y)))
          (first | exact HK.out _ q0 | exact HK.out _ q0.drew | exact HK.out _ (q0.alloc _))
          (first | ((go_at_call 14; refine (CB.out _).mono ?_; rintro e w8 ⟨rfl, hS8'⟩; have q0 := Only.then (by first | exact q0 | exact q0.drew) hS8'; clear hS8')))
        all_goals
          have hT8 := HT2.out.same q0
          obtain ⟨z1, z2, z3, z4, z5, z6, z7, z8⟩ := HK.out _ q0
          obtain ⟨cs, hcs, hcr⟩ := hT8.2.2
          have f0 := blk_frozen hcs (p * 3)
          have f1 := blk_frozen hcs (p * 3 + 1)
          have g1 := blk_frozen hcs (p * 3 + 2)
          have f2 := blk_frozen hcs (n * 3)
          have f3 := blk_frozen hcs (n * 3 + 1)
          have g3 := blk_frozen hcs (n * 3 + 2)
          have HT8 := Lib.hid hT8
          have HO8 := Lib.hid (HO.out.then q0)
          have hne : p ≠ n := by have := HP0.out; omega
          clear hT8 hcs hcr k0 k1 k2 c0 c1 c2 d0 d1 d2 HK CB q0 HT2 HO HR
          go_upto_region 1 with fail
          go_region
          have hq8 : Only (· = g) w8 ((((((w8.setCell ⟨g, n * 3, none⟩ (.int .i64 x.1)).setCell ⟨g, n * 3 + 1, none⟩ (.int .i64 (vb x))).setCell ⟨g, n * 3 + 2, none⟩ (.int .i64 (vc x))).setCell ⟨g, p * 3, none⟩ (.int .i64 y.1)).setCell ⟨g, p * 3 + 1, none⟩ (.int .i64 (vb y))).setCell ⟨g, p * 3 + 2, none⟩ (.int .i64 (vc y))).drew :=
            (((((((Only.refl (· = g) w8).setCell (fun _ => rfl) _).setCell (fun _ => rfl) _).setCell (fun _ => rfl) _).setCell (fun _ => rfl) _).setCell (fun _ => rfl) _).setCell (fun _ => rfl) _).drew
          have hr8 := (HT8.out.2.2.set n x hn).set p y (by simpa using hpl)
          have hsw : (h.set n x).set p y = swapG h n p := by unfold swapG; rw [HX.out, HY.out]
          rw [hsw] at hr8
          have hb8 := hq8.heap HT8.out.1 (fun h => by have h2 : b = g := h; omega)
          have hT9 := tvG_drew (by rw [swapG_len]; exact hb8) hbg hr8
          have HT9 := Lib.hid hT9
          have HO9 := Lib.hid (HO8.out.same hq8)
          generalize ((((((w8.setCell ⟨g, n * 3, none⟩ (.int .i64 x.1)).setCell ⟨g, n * 3 + 1, none⟩ (.int .i64 (vb x))).setCell ⟨g, n * 3 + 2, none⟩ (.int .i64 (vc x))).setCell ⟨g, p * 3, none⟩ (.int .i64 y.1)).setCell ⟨g, p * 3 + 1, none⟩ (.int .i64 (vb y))).setCell ⟨g, p * 3 + 2, none⟩ (.int .i64 (vc y))).drew = W9 at *
          clear hq8 hr8 hsw hb8 hT9 z1 z2 z3 z4 z5 z6 z7 z8 f0 f1 f2 f3 g1 g3 HT8 HO8
          go_wp2_with fail
          go_roundw
          case rel => exact ⟨p, swapG h n p, rfl, by rw [swapG_len]; exact hpl, (swapG_perm h n p hn hpl).trans HP.out, by have := gup_step h n (by omega) hn HUP.out (by rw [← HP0.out, HX.out, HY.out]; exact HB.out); rw [← HP0.out] at this; exact this, HO9.out, HT9.out⟩
          case measure => simp [intOf]; have := HP0.out; omega
end Go.Proofs.Ytpgbnjneoejebaa
