import Derived.Test.YtjegohibpojneaaPackRefW
set_option linter.unusedVariables false
set_option linter.unusedSimpArgs false
namespace Go.Proofs.Ytjegohibpojneaa
open Go.RowKit

/-- The bits of the first n places, as numbers. -/
def bitL (w : Nat) (l : List Int) (n : Nat) : List Int := (List.range n).map fun p => ((bitsW w l p).toNat : Int)
theorem bitL_succ (w : Nat) (l : List Int) (n : Nat) : bitL w l (n + 1) = bitL w l n ++ [((bitsW w l n).toNat : Int)] := by
  unfold bitL; rw [List.range_succ, List.map_append]; rfl
theorem bitL_length (w : Nat) (l : List Int) (n : Nat) : (bitL w l n).length = n := by simp [bitL]

theorem own_form {w : World} {base n : Nat} {e : TypeId} {size : Nat} {v : Value} {xs : List Value} (h : w.ownsRow base e size v n xs) (hn : 0 < n) : ∃ g cap, v = .slice (some ⟨g, 0, none⟩) n cap ∧ base ≤ g ∧ n ≤ cap := by
  rcases h.2 with ⟨_, h0⟩ | ⟨g, cap, _, rfl, hb, _, hc, _⟩
  · omega
  · exact ⟨g, cap, rfl, hb, hc⟩
/-- The bytes of the first i bits. -/
def bytL (w : Nat) (l : List Int) (i n : Nat) : List Value := (List.range n).map fun j => .int .u8 (byteOf (fun p => decide (p < i) && bitsW w l p) j)
theorem bytL_snoc (w : Nat) (l : List Int) (i : Nat) (h : i % 8 = 0) : bytL w l i (i / 8) ++ [.int .u8 0] = bytL w l i (i / 8 + 1) := by
  unfold bytL
  rw [List.range_succ, List.map_append]
  congr 1
  simp only [List.map_cons, List.map_nil]
  have : byteOf (fun p => decide (p < i) && bitsW w l p) (i / 8) = 0 := by
    unfold byteOf
    have hf : ∀ c, (decide (8 * (i / 8) + c < i) && bitsW w l (8 * (i / 8) + c)) = false := by intro c; rw [decide_eq_false (by omega)]; rfl
    have h0 := hf 0
    rw [Nat.add_zero] at h0
    simp only [hf, h0]
    rfl
  rw [this]; rfl
theorem bytL_set (w : Nat) (l : List Int) (i : Nat) : (bytL w l i (i / 8 + 1)).set (i / 8) (.int .u8 (byteOf (fun p => decide (p < i + 1) && bitsW w l p) (i / 8))) = bytL w l (i + 1) (i / 8 + 1) := by
  unfold bytL
  apply List.ext_getElem?
  intro j
  rw [List.getElem?_set]
  by_cases hj : i / 8 = j
  · subst hj
    simp
  · rw [if_neg hj]
    rcases Nat.lt_or_ge j (i / 8 + 1) with h | h
    · rw [List.getElem?_map, List.getElem?_map, List.getElem?_range h]
      simp only [Option.map_some]
      congr 3
      refine (byteOf_keep _ _ i j (fun h => hj h.symm) ?_).symm
      intro p hp
      show (decide (p < i + 1) && bitsW w l p) = (decide (p < i) && bitsW w l p)
      congr 1; exact decide_eq_decide.2 (by omega)
    · rw [List.getElem?_eq_none (by simpa using h), List.getElem?_eq_none (by simpa using h)]
theorem bytL_get (w : Nat) (l : List Int) (i n j : Nat) (h : j < n) : (bytL w l i n)[j]? = some (.int .u8 (byteOf (fun p => decide (p < i) && bitsW w l p) j)) := by
  unfold bytL; rw [List.getElem?_map, List.getElem?_range h]; rfl
theorem bytL_fix (w : Nat) (l : List Int) : bytL w l (w * l.length) ((w * l.length + 7) / 8) = (fixB w l).map cell8 := by
  unfold bytL fixB
  rw [List.map_map]
  apply List.map_congr_left
  intro j _
  have hb := byteOf_lt (fun p => decide (p < w * l.length) && bitsW w l p) j
  simp [cell8]
  omega

set_option maxHeartbeats 1000000 in
set_option maxRecDepth 100000 in
theorem fix2_any (wd_ : Int) (v : Value) (l : List Int) (w : World) (hv : Sl w (.int .i64) v l) (hl : ∀ x ∈ l, -9223372036854775808 ≤ x ∧ x ≤ 9223372036854775807) (hn : l.length ≤ 100000000000) :
    Calls Try.prog 87 #[.int .i64 wd_, v] w fun e w' => e = .returned (.tuple #[.string (str ((fixS wd_ l).getD [])), .int .i64 (eno (fixS wd_ l))]) ∧ Same w w' := by
  obtain ⟨ad, cp, rfl, hcp, hmx, hnil, hcell⟩ := hv
  by_cases hw : wd_ < 0 ∨ 32 < wd_
  · have e : fixS wd_ l = none := by unfold fixS; rw [if_pos hw]
    have HE := Lib.hid e
    clear e
    rcases hw with h | h
    all_goals
      go_enter Try.func87, Try.ntmps87
      go_wp2_with fail
      go_ret2
      rw [HE.out]
      exact ⟨rfl, Only.refl _ _⟩
  · obtain ⟨wn, rfl⟩ := Int.eq_ofNat_of_zero_le (show 0 ≤ wd_ by omega)
    have hw32 : wn ≤ 32 := by omega
    have HC := Lib.hid hcell; have HL := Lib.hid hl
    clear hnil hcell hl hmx hw
    have hb1 : wn * l.length ≤ 32 * 100000000000 := Nat.mul_le_mul hw32 hn
    go_enter Try.func87, Try.ntmps87
    go_wp2_with fail
    go_loopw [6, 7, 8, 9] (fun bs i _ _ wr => ∃ k : Nat, k ≤ l.length ∧ i = .int .i64 k ∧ Same w wr ∧ fixOk wn (l.take k) = true ∧
      wr.ownsRow w.heap.size 3 1 bs (wn * k) ((bitL wn l (wn * k)).map num)) (fun _ i _ _ _ => l.length - (intOf i).toNat)
    case atStart => exact ⟨0, by omega, rfl, Only.refl _ _, rfl, by simpa [bitL] using World.ownsRow_nil _ _ _ _⟩
    case round =>
      obtain ⟨k, hk, rfl, hS, hok, hown⟩ := hrel
      have HOK := Lib.hid hok; have HW := Lib.hid hown
      clear hok hown
      by_cases hlt : k < l.length
      · obtain ⟨b, off, rfl, hcc⟩ := HC.out (by omega)
        have hck := hS.cell_eq (hcc k hlt) (fun h => h)
        have hr := HL.out l[k] (List.getElem_mem hlt)
        have HR := Lib.hid hcc
        clear hcc
        generalize hx : l[k] = x at *
        have HX := Lib.hid hx
        clear hx
        have hkw : wn * (k + 1) ≤ wn * l.length := Nat.mul_le_mul (Nat.le_refl _) hlt
        rw [Nat.mul_add, Nat.mul_one] at hkw
        by_cases hneg : x < 0
        · have e : fixS (wn : Int) l = none := by
            unfold fixS
            rw [if_neg (by omega), Int.toNat_natCast, fixOk_no wn l k hlt (Or.inl (by rw [HX.out]; exact hneg)), if_neg (by decide)]
          have HE := Lib.hid e
          clear e
          go_wp2_with fail
          go_ret2
          rw [HE.out]
          exact ⟨rfl, hS⟩
        · go_wp2_with fail
          go_loopw [6, 8, 9] (fun bs v i wr => ∃ q : Nat, q ≤ wn ∧ i = .int .i64 q ∧ v = .int .i64 (x / 2 ^ q) ∧ Same w wr ∧
            wr.ownsRow w.heap.size 3 1 bs (wn * k + q) ((bitL wn l (wn * k + q)).map num)) (fun _ _ i _ => wn - (intOf i).toNat)
          case atStart => exact ⟨0, by omega, rfl, by simp, hS, HW.out⟩
          case round =>
            obtain ⟨q, hq, rfl, rfl, hSq, hownq⟩ := hrel
            have HQ := Lib.hid hownq
            clear hownq
            have hx2 : 0 ≤ x / 2 ^ q ∧ x / 2 ^ q ≤ x := ⟨Int.ediv_nonneg (by omega) (Int.pow_nonneg (by omega)), Int.ediv_le_self _ (by omega)⟩
            have hx3 : x / 2 ^ (q + 1) = x / 2 ^ q / 2 := by rw [Int.pow_succ, Int.mul_comm, Int.mul_comm, ← Int.ediv_ediv_of_nonneg (Int.pow_nonneg (by omega))]
            have hbit : q < wn → x / 2 ^ q % 2 = ((bitsW wn l (wn * k + q)).toNat : Int) := by
              intro hq'
              rw [bitsW_at wn l k q hlt hq', HX.out, Nat.toNat_testBit]
              obtain ⟨xn, rfl⟩ := Int.eq_ofNat_of_zero_le (show 0 ≤ x by omega)
              simp
            have HX3 := Lib.hid hx3
            clear hx3
            by_cases hltq : q < wn
            · have hb := hbit hltq
              clear hbit
              generalize x / 2 ^ q = y at *
              have em : Int.tmod y 2 = y % 2 := Int.tmod_eq_emod_of_nonneg hx2.1
              have ed : Int.tdiv y 2 = y / 2 := Int.tdiv_eq_ediv_of_nonneg hx2.1
              have HBB := Lib.hid hb
              clear hb
              go_wp2_with (at_builtin; refine app_one [.int .i64 (y % 2)] rfl (.tmp 35) (.tmp 38) 23 rfl w.heap.size 3 (.int .i64 0) 1 8 Try.underlying23 (by kernel_rfl) rfl (by decide) _ (wn * k + q) _ rfl HQ.out rfl ?_ ?c1 ?c2 ?c3 ?c4 ?c5; intro v' w1 hown1 hO1)
              case c1 => rfl
              case c2 => intro u hu; simp at hu; subst hu; rfl
              case c3 => unfold maxLen; omega
              case c4 => omega
              case c5 => exact hSq.size
              refine ⟨⟨q + 1, by omega, by go_num, by rw [HX3.out], hSq.trans hO1 (fun j hj h => by omega), ?_⟩, by simp [intOf]; omega⟩
              rw [show wn * k + (q + 1) = wn * k + q + 1 by omega, bitL_succ, ← HBB.out]
              simpa using hown1
            · obtain rfl : q = wn := by omega
              clear hbit
              have hpow : (0 : Int) < 2 ^ q := Int.pow_pos (by omega)
              by_cases hbig : x < 2 ^ q
              · have ht : (x / 2 ^ q != 0) = false := by
                  rw [Int.ediv_eq_zero_of_lt (by omega) hbig]; rfl
                have HP := Lib.hid hpow; have HB := Lib.hid hbig
                clear hpow hbig
                go_wp2_with fail
                refine ⟨⟨k + 1, by omega, by go_num, hSq, ?_, by rw [Nat.mul_add, Nat.mul_one]; exact HQ.out⟩, by simp [intOf]; omega⟩
                rw [fixOk_snoc _ _ _ hlt, HOK.out, HX.out, decide_eq_true (by omega), decide_eq_true HB.out]
                rfl
              · have e : fixS (q : Int) l = none := by
                  unfold fixS
                  rw [if_neg (by omega), Int.toNat_natCast, fixOk_no q l k hlt (Or.inr (by rw [HX.out]; omega)), if_neg (by decide)]
                have HE := Lib.hid e
                clear e
                have ht : (x / 2 ^ q != 0) = true := by
                  have : 1 ≤ x / 2 ^ q := (Int.le_ediv_iff_mul_le hpow).2 (by omega)
                  simp; omega
                go_wp2_with fail
                go_ret2
                rw [HE.out]
                exact ⟨rfl, hSq⟩
      · obtain rfl : k = l.length := by omega
        rw [List.take_length] at HOK
        have e : fixS (wn : Int) l = some (fixB wn l) := by
          unfold fixS
          rw [if_neg (by omega), Int.toNat_natCast, HOK.out, if_pos rfl]
        have HE := Lib.hid e
        clear e
        have hslb := own_sl HW.out
        obtain ⟨ad6, cp6, hv6, hcp6, _, _, hcell6⟩ := hslb
        rw [bitL_length] at hcp6 hv6
        have hc6 : 0 < wn * l.length → ∃ g off, ad6 = some ⟨g, off, none⟩ ∧ ∀ i, i < wn * l.length → wr.cell? ⟨g, off + i, none⟩ = some (.int .i64 ((bitsW wn l i).toNat : Nat)) := by
          intro h0
          obtain ⟨g, off, h1, h2⟩ := hcell6 (by rw [bitL_length]; exact h0)
          refine ⟨g, off, h1, fun i hi => ?_⟩
          rw [h2 i (by rw [bitL_length]; exact hi)]
          simp [bitL]
        clear hcell6
        have HC6 := Lib.hid hc6
        clear hc6
        subst hv6
        clear HW
        have hfx := bytL_fix wn l
        generalize hnb : wn * l.length = nb at *
        have HNB := Lib.hid hnb; have HFX := Lib.hid hfx
        clear hnb hfx
        go_wp2_with fail
        rename World => W0
        have HSW := Lib.hid hS
        clear hS
        go_loopw [10, 11] (fun bv ii w3 => ∃ i : Nat, i ≤ nb ∧ ii = .int .i64 i ∧ Only (fun k => W0.heap.size ≤ k) W0 w3 ∧ w3.ownsRow W0.heap.size 5 1 bv ((i + 7) / 8) (bytL wn l i ((i + 7) / 8))) (fun _ ii _ => nb - (intOf ii).toNat)
        case atStart => exact ⟨0, by omega, rfl, Only.refl _ _, by simpa [bytL] using World.ownsRow_nil _ _ _ _⟩
        case round =>
          obtain ⟨i, hi, rfl, hO, hown⟩ := hrel
          have HO := Lib.hid hO; have HW2 := Lib.hid hown
          clear hO hown
          by_cases hlti : i < nb
          · obtain ⟨g6, off6, rfl, hc6⟩ := HC6.out (by omega)
            have hbc := HO.out.cell_eq (hc6 i hlti) (show ¬ W0.heap.size ≤ g6 by have := World.block_lt_of_cell? _ _ (hc6 i hlti); simp only at this; omega)
            have hplus := byteOf_plus (fun p => decide (p < i) && bitsW wn l p) i (bitsW wn l i) (by
              intro p hp
              show (decide (p < i) && bitsW wn l p) = false
              rw [decide_eq_false (by omega)]; rfl)
            have hor := byteOf_or (fun p => decide (p < i) && bitsW wn l p) (fun p => decide (p < i + 1) && bitsW wn l p) i (bitsW wn l i) (by
              intro p hp
              show (decide (p < i) && bitsW wn l p) = false
              rw [decide_eq_false (by omega)]; rfl) (by
              intro p
              show (decide (p < i + 1) && bitsW wn l p) = if p = i then bitsW wn l i else (decide (p < i) && bitsW wn l p)
              by_cases h : p = i
              · subst h; rw [if_pos rfl, decide_eq_true (by omega)]; rfl
              · rw [if_neg h]; congr 1; exact decide_eq_decide.2 (by omega))
            rw [← hplus] at hor
            have hlt1 := byteOf_lt (fun p => decide (p < i + 1) && bitsW wn l p) (i / 8)
            have hset := bytL_set wn l i
            have hget := bytL_get wn l i (i / 8 + 1) (i / 8) (by omega)
            have hbb : (bitsW wn l i).toNat ≤ 1 := Bool.toNat_le _
            generalize byteOf (fun p => decide (p < i + 1) && bitsW wn l p) (i / 8) = nw at *
            generalize byteOf (fun p => decide (p < i) && bitsW wn l p) (i / 8) = o at *
            generalize (bitsW wn l i).toNat = bt at *
            have HSET := Lib.hid hset; have HGET := Lib.hid hget; have HC7 := Lib.hid hc6
            clear hplus hset hget hc6
            have hlt1' : nw < 256 := hlt1
            have hc8l : i % 8 < 8 := by omega
            have em : Int.tmod (i : Int) 8 = ((i % 8 : Nat) : Int) := by rw [Int.tmod_eq_emod_of_nonneg (by omega)]; omega
            have em2 : (i : Int) % 8 = ((i % 8 : Nat) : Int) := by omega
            obtain ⟨c8, hc8⟩ : ∃ c8, i % 8 = c8 := ⟨_, rfl⟩
            rw [hc8] at hor hc8l em em2
            have e1 : IntKind.i64.wrap ((i : Int) / 8) = (i : Int) / 8 := by rw [IntKind.wrap_i64]; omega
            have e2 : IntKind.i64.wrap ((c8 : Nat) : Int) = c8 := by rw [IntKind.wrap_i64]; omega
            have e3 : IntKind.u64.wrap ((c8 : Nat) : Int) = c8 := by rw [IntKind.wrap_u64]; omega
            have e4 : IntKind.u8.wrap ((bt : Nat) : Int) = bt := by rw [IntKind.wrap_u8]; omega
            have e5 : ((i : Int) / 8).toNat = i / 8 := by omega
            have e6 : IntKind.u8.wrap ((bt : Int) * 2 ^ c8) = ((bt * 2 ^ c8 : Nat) : Int) := by
              have e : ((bt : Int) * 2 ^ c8) = ((bt * 2 ^ c8 : Nat) : Int) := by simp
              rw [e, IntKind.wrap_u8]; clear e; generalize bt * 2 ^ c8 = y at *; omega
            generalize bt * 2 ^ c8 = bc at *
            have e7 : IntKind.u8.wrap ((o : Int) + (bc : Int)) = nw := by rw [IntKind.wrap_u8]; omega
            have hbd : (i : Int) / 8 < ((i / 8 + 1 : Nat) : Int) ∧ 0 ≤ (i : Int) / 8 := by omega
            have hbd2 : (i : Int) / 8 < (i : Int) / 8 + 1 := by omega
            have HC8 := Lib.hid hc8; have HOR := Lib.hid hor
            clear hc8 hor
            by_cases h8 : c8 = 0
            · have hsn := bytL_snoc wn l i (by rw [HC8.out]; exact h8)
              have hn7 : (i + 7) / 8 = i / 8 := by have := HC8.out; omega
              have ht : ((c8 : Int) == 0) = true := by simp [h8]
              have HSN := Lib.hid hsn; have HN7 := Lib.hid hn7; have H8 := Lib.hid h8
              clear hsn hn7 h8
              go_wp2_with (at_builtin; refine app_one [.int .u8 0] rfl (.tmp 53) (.tmp 54) 148 rfl W0.heap.size 5 (.int .u8 0) 1 1 Try.underlying148 (by kernel_rfl) rfl (by decide) _ ((i + 7) / 8) _ rfl HW2.out rfl ?_ ?c1 ?c2 ?c3 ?c4 ?c5; intro v' w4 hown4 hO4; rw [HN7.out, HSN.out] at hown4; obtain ⟨g, cap, rfl, hg, hcap⟩ := own_form hown4 (by omega))
              case c1 => rfl
              case c2 => intro u hu; simp at hu; subst hu; rfl
              case c3 => unfold maxLen; omega
              case c4 => omega
              case c5 => exact HO.out.size
              have hOW := HO.out.same hO4
              have hbc4 := hO4.cell_eq hbc (show ¬ W0.heap.size ≤ g6 by have := World.block_lt_of_cell? _ _ (HC7.out i hlti); simp only at this; omega)
              have hco := hown4.cellAt (i / 8) (by omega)
              have hfz := hown4.frozenAt (i / 8)
              rw [HGET.out] at hco
              have HW5 := Lib.hid hown4; have HO5 := Lib.hid hOW
              clear hown4 hOW
              go_wp2_with fail
              refine wp_region_still_tail 19 (by kernel_rfl) (by kernel_rfl) ?_
              simp only [List.take_succ_cons, List.take_zero, List.drop_succ_cons, List.drop_zero]
              repeat still_step
              change wpList _ _ _ _ _ w4.drew
              have hco' : w4.drew.cell? ⟨g, i / 8, none⟩ = some (.int .u8 o) := hco
              have hfz' : w4.drew.frozen? ⟨g, i / 8, none⟩ = false := hfz
              go_wp2
              have hst2 := HW5.out.stored (i / 8) (.int .u8 nw)
              have hnx : (i + 1 + 7) / 8 = i / 8 + 1 := by omega
              refine ⟨⟨i + 1, by omega, by go_num, (HO5.out.setCell (p := ⟨g, i / 8, none⟩) (fun _ => hg) _).drew, ?_⟩, by simp [intOf]; omega⟩
              rw [hnx, ← HSET.out]
              exact hst2.1
            · have hn7 : (i + 7) / 8 = i / 8 + 1 := by have := HC8.out; omega
              have ht : ((c8 : Int) == 0) = false := by simp; omega
              have hown4 := HW2.out
              rw [hn7] at hown4
              have hOW := HO.out
              have hbc4 := hbc
              obtain ⟨g, cap, rfl, hg, hcap⟩ := own_form hown4 (by omega)
              have HN7 := Lib.hid hn7; have H8 := Lib.hid h8
              clear hn7 h8
              rename World => w4
              have HW4 := Lib.hid hown4; have HOW := Lib.hid hOW
              clear hown4 hOW
              go_wp2_with fail
              have hown4 := HW4.out; have hOW := HOW.out
              have hco := hown4.cellAt (i / 8) (by omega)
              have hfz := hown4.frozenAt (i / 8)
              rw [HGET.out] at hco
              have HW5 := Lib.hid hown4; have HO5 := Lib.hid hOW
              clear hown4 hOW
              go_wp2_with fail
              refine wp_region_still_tail 19 (by kernel_rfl) (by kernel_rfl) ?_
              simp only [List.take_succ_cons, List.take_zero, List.drop_succ_cons, List.drop_zero]
              repeat still_step
              change wpList _ _ _ _ _ w4.drew
              have hco' : w4.drew.cell? ⟨g, i / 8, none⟩ = some (.int .u8 o) := hco
              have hfz' : w4.drew.frozen? ⟨g, i / 8, none⟩ = false := hfz
              go_wp2
              have hst2 := HW5.out.stored (i / 8) (.int .u8 nw)
              have hnx : (i + 1 + 7) / 8 = i / 8 + 1 := by omega
              refine ⟨⟨i + 1, by omega, by go_num, (HO5.out.setCell (p := ⟨g, i / 8, none⟩) (fun _ => hg) _).drew, ?_⟩, by simp [intOf]; omega⟩
              rw [hnx, ← HSET.out]
              exact hst2.1
          · obtain rfl : i = nb := by omega
            have hw9 := HW2.out
            rw [HFX.out] at hw9
            have hcv := own_str (P := Try.prog) Try.underlying148 Try.underlying5 Try.underlying9 hw9
            have HW9 := Lib.hid hw9
            clear hw9
            go_wp2_with fail
            go_ret2
            rw [HE.out]
            exact ⟨rfl, HSW.out.trans HO.out (fun k hk h => by have := HSW.out.size; omega)⟩
end Go.Proofs.Ytjegohibpojneaa
