import Derived.Test.YtjegohibpojneaaPackSpec
import Derived.Test.YtjegohibpojneaaProg
set_option linter.unusedVariables false
set_option linter.unusedSimpArgs false
namespace Go.Proofs.Ytjegohibpojneaa
open Go.RowKit

theorem bits_or_u8 (a b : Nat) (ha : a < 256) (hb : b < 256) : bits .or .u8 (a : Int) (b : Int) = ((a ||| b : Nat) : Int) :=
  (bits_nat .u8 8 (by decide) wraps_u8 a b ha hb).2
theorem wraps_i64 (n : Int) (h₀ : 0 ≤ n) (h₁ : n < 2 ^ 63) : IntKind.i64.wrap n = n := by rw [IntKind.wrap_i64]; omega
theorem or128 (a : Nat) (h : a < 128) : a ||| 128 = a + 128 := by
  have : ∀ x : Fin 128, x.val ||| 128 = x.val + 128 := by decide +kernel
  exact this ⟨a, h⟩
theorem or128' (a : Nat) (h : a < 256) : a ||| 128 = a % 128 + 128 := by
  have : ∀ x : Fin 256, x.val ||| 128 = x.val % 128 + 128 := by decide +kernel
  exact this ⟨a, h⟩
theorem u8_hi (a : Nat) : bits .or .u8 ((a : Int) % 256) 128 = ((a % 128 + 128 : Nat) : Int) := by
  have e : ((a : Int) % 256) = ((a % 256 : Nat) : Int) := by omega
  rw [e]
  have := bits_or_u8 (a % 256) 128 (by omega) (by omega)
  rw [or128' _ (by omega)] at this
  exact this.trans (by omega)

set_option maxRecDepth 100000 in
theorem varint_any (n : Nat) (w : World) (hn : n < 18446744073709551616) :
    Calls Try.prog 133 #[.int .u64 n] w fun e w' => e = .returned (.string (str (vint n))) ∧ Same w w' := by
  have hor := u8_hi
  go_enter Try.func133, Try.ntmps133
  go_wp2_with fail
  go_loopw [0, 3] (fun v b wr => ∃ (k : Nat) (l : List UInt8), k < 18446744073709551616 ∧ v = .int .u64 k ∧ Same w wr ∧ wr.ownsRow w.heap.size 5 1 b l.length (l.map cell8) ∧ l ++ vint k = vint n) (fun v _ _ => (intOf v).toNat)
  case atStart => exact ⟨n, [], hn, rfl, Only.refl _ _, World.ownsRow_nil _ _ _ _, rfl⟩
  case round =>
    obtain ⟨k, l, hk, rfl, hS, hown, hl⟩ := hrel
    have hlen : l.length ≤ 10 := by have := vint_le10 n hn; rw [← hl] at this; simp at this; omega
    have HO := Lib.hid hown; have HL := Lib.hid hl
    clear hown hl
    by_cases h128 : k < 128
    · go_wp2_with (at_builtin; refine app_one [.int .u8 (k : Int)] rfl (.tmp 14) (.tmp 17) 148 rfl w.heap.size 5 (.int .u8 0) 1 1 Try.underlying148 (by kernel_rfl) rfl (by decide) _ l.length _ rfl HO.out rfl ?_ ?c1 ?c2 ?c3 ?c4 ?c5; intro v' w1 hown1 hO1; have hcv := own_str_snoc (P := Try.prog) Try.underlying148 Try.underlying5 Try.underlying9 hown1 (by omega) (by omega))
      case c1 => rfl
      case c2 => intro u hu; simp at hu; subst hu; rfl
      case c3 => unfold maxLen; omega
      case c4 => omega
      case c5 => exact hS.size
      have hl2 : l ++ [UInt8.ofNat k] = vint n := by rw [← HL.out, vint_small h128]
      go_ret
      rw [← hl2]
      exact ⟨rfl, hS.trans hO1 (fun j hj h => by omega)⟩
    · go_wp2_with (at_builtin; refine app_one [.int .u8 ((k : Int) % 128 + 128)] rfl (.tmp 8) (.tmp 12) 148 rfl w.heap.size 5 (.int .u8 0) 1 1 Try.underlying148 (by kernel_rfl) rfl (by decide) _ l.length _ rfl HO.out rfl ?_ ?c1 ?c2 ?c3 ?c4 ?c5; intro v' w1 hown1 hO1)
      case c1 => rfl
      case c2 => intro u hu; simp at hu; subst hu; rfl
      case c3 => unfold maxLen; omega
      case c4 => omega
      case c5 => exact hS.size
      refine ⟨⟨k / 128, l ++ [UInt8.ofNat ((k : Int) % 128 + 128).toNat], by omega, rfl, hS.trans hO1 (fun j hj h => by omega), by simpa using own_snoc8 hown1 (by omega) (by omega), ?_⟩, by simp [intOf]; omega⟩
      rw [← HL.out, vint_more h128, List.append_assoc]
      congr 2

theorem pvarint_neg (v : Int) (w : World) (h : v < 0) : Calls Try.prog 82 #[.int .i64 v] w fun e w' => e = .returned (.tuple #[.string (str []), .int .i64 1]) ∧ Same w w' := by
  go_enter Try.func82, Try.ntmps82
  go_wp2_with fail
  go_ret2
  exact ⟨rfl, Only.refl _ _⟩
theorem pvarint_ok (v : Nat) (w : World) (h : v ≤ 9223372036854775807) : Calls Try.prog 82 #[.int .i64 v] w fun e w' => e = .returned (.tuple #[.string (str (vint v)), .int .i64 0]) ∧ Same w w' := by
  go_enter Try.func82, Try.ntmps82
  go_wp2_with (go_at_call 133; refine (varint_any v _ (by omega)).mono ?_; rintro e w1 ⟨rfl, hS⟩)
  go_ret2
  exact ⟨rfl, hS⟩
set_option maxRecDepth 100000 in
theorem ris_any (v : Value) (l : List Int) (w : World) (hv : Sl w (.int .i64) v l) (hl : ∀ x ∈ l, -9223372036854775808 ≤ x ∧ x ≤ 9223372036854775807) (hn : l.length ≤ 1000000000000) :
    Calls Try.prog 83 #[v] w fun e w' => e = .returned (.tuple #[.string (str ((risS l).getD [])), .int .i64 (eno (risS l))]) ∧ Same w w' := by
  obtain ⟨ad, cp, rfl, hcp, hmx, hnil, hcell⟩ := hv
  have HC := Lib.hid hcell; have HL := Lib.hid hl
  clear hnil hcell hl hmx
  have hv10 := vint_le10 l.length (by omega)
  go_enter Try.func83, Try.ntmps83
  go_wp2_with (go_at_call 133; refine (varint_any l.length _ (by omega)).mono ?_; rintro e w1 ⟨rfl, hS⟩)
  go_loopw [4, 5, 14] (fun s last i wr => ∃ (k : Nat) (lv : Int) (t : List UInt8), k ≤ l.length ∧ i = .int .i64 k ∧ last = .int .i64 lv ∧ s = .string (str t) ∧ -1 ≤ lv ∧ lv ≤ 9223372036854775807 ∧ t.length ≤ 10 * (k + 1) ∧ Same w wr ∧ (risb lv (l.drop k)).map (t ++ ·) = risS l) (fun _ _ i _ => l.length - (intOf i).toNat)
  case atStart => exact ⟨0, -1, _, by omega, rfl, rfl, rfl, by omega, by omega, by omega, hS, rfl⟩
  case round =>
    obtain ⟨k, lv, t, hk, rfl, rfl, rfl, hlo, hhi, hlen, hS', heq⟩ := hrel
    by_cases hlt : k < l.length
    · obtain ⟨b, off, rfl, hc⟩ := HC.out (by omega)
      have hck := hS'.cell_eq (hc k hlt) (fun h => h)
      have hr := HL.out l[k] (List.getElem_mem hlt)
      rw [List.drop_eq_getElem_cons hlt, risb] at heq
      have HCC := Lib.hid hc
      clear hc
      generalize l[k] = x at *
      obtain ⟨hr1, hr2⟩ := hr
      have hst := str_size t
      by_cases hle : x ≤ lv
      · rw [if_pos hle] at heq
        have HE := Lib.hid heq
        clear heq
        go_wp2_with fail
        go_ret2
        have e : risS l = none := by rw [← HE.out]; rfl
        rw [e]
        exact ⟨rfl, hS'⟩
      · rw [if_neg hle] at heq
        have hd10 := vint_le10 (x - lv - 1).toNat (by omega)
        have hsv := str_size (vint (x - lv - 1).toNat)
        have HE := Lib.hid heq; have HST := Lib.hid hst; have HSV := Lib.hid hsv
        clear heq
        obtain ⟨m, hm⟩ : ∃ m : Nat, x - lv - 1 = m := ⟨(x - lv - 1).toNat, by omega⟩
        rw [hm, Int.toNat_natCast] at HE hsv HSV hd10
        have hm2 : m < 18446744073709551616 := by omega
        have HM := Lib.hid hm
        clear hm
        go_wp2_with fail
        rw [show IntKind.u64.wrap (wrap64 (wrap64 (x - lv) - 1)) = (m : Int) by rw [IntKind.wrap_u64]; unfold wrap64; have := HM.out; omega]
        refine (varint_any m _ hm2).mono ?_
        rintro e w2 ⟨rfl, hS2⟩
        go_wp2
        refine ⟨⟨k + 1, x, t ++ vint m, by omega, by go_num, rfl, by rw [str_append], by omega, by omega, by simp; omega, hS'.then hS2, ?_⟩, by simp [intOf]; omega⟩
        rw [← HE.out, Option.map_map]
        congr 1
        funext y
        simp
    · rw [List.drop_of_length_le (by omega)] at heq
      have e : risS l = some t := by rw [← heq]; simp [risb]
      have HE := Lib.hid e
      clear heq e
      go_wp2
      go_ret2
      rw [HE.out]
      exact ⟨rfl, hS'⟩

set_option maxRecDepth 100000 in
theorem fix_any (wd_ : Int) (v : Value) (l : List Int) (w : World) (hv : Sl w (.int .i64) v l) (hl : ∀ x ∈ l, -9223372036854775808 ≤ x ∧ x ≤ 9223372036854775807) (hn : l.length ≤ 1000000000000) :
    Calls Try.prog 84 #[.int .i64 wd_, v] w fun e w' => e = .returned (.tuple #[.string (str ((fixS wd_ l).getD [])), .int .i64 (eno (fixS wd_ l))]) ∧ Same w w' := by
  obtain ⟨ad, cp, rfl, hcp, hmx, hnil, hcell⟩ := hv
  by_cases hw : wd_ < 0 ∨ 32 < wd_
  · have e : fixS wd_ l = none := by unfold fixS; rw [if_pos hw]
    have HE := Lib.hid e
    clear e
    rcases hw with h | h
    all_goals
      go_enter Try.func84, Try.ntmps84
      go_wp2_with fail
      go_ret2
      rw [HE.out]
      exact ⟨rfl, Only.refl _ _⟩
  · obtain ⟨wn, rfl⟩ := Int.eq_ofNat_of_zero_le (show 0 ≤ wd_ by omega)
    have hw32 : wn ≤ 32 := by omega
    have HC := Lib.hid hcell; have HL := Lib.hid hl
    clear hnil hcell hl hmx hw
    obtain ⟨N, hN⟩ : ∃ N : Nat, ((wn : Int) * (l.length : Int) + 7) / 8 = N := ⟨(wn * l.length + 7) / 8, by omega⟩
    have hmul : (wn : Int) * (l.length : Int) = ((wn * l.length : Nat) : Int) := by simp
    have hb1 : wn * l.length ≤ 32 * 1000000000000 := Nat.mul_le_mul hw32 hn
    have HM := Lib.hid hmul
    clear hmul
    obtain ⟨i0, hi, hz0, hz1, hz2⟩ := info_parts (P := Try.prog) (e := 5) (z := .int .u8 0) (size := 1) (bytes := 1) (by kernel_rfl)
    have HI := Lib.hid (And.intro hi (And.intro hz0 (And.intro hz1 hz2)))
    clear hi hz0 hz1 hz2
    go_enter Try.func84, Try.ntmps84
    go_wp2_with (at_make; refine wpList_make_full w rfl (.tmp 22) (.tmp 22) 148 rfl w.heap.size 5 i0 (.int .u8 0) 1 Try.underlying148 HI.out.1 HI.out.2.1 HI.out.2.2.1 .i64 .i64 _ _ N rfl rfl ?c1 ?c2 ?c3 ?c4 ?c5 ?_)
    case c1 => exact hN
    case c2 => exact hN
    case c3 => rw [HI.out.2.2.2]; omega
    case c4 => unfold maxLen; omega
    case c5 => exact Nat.le_refl _
    intro w1 hown hg
    have hS1 : Same w w1 := (Only.refl _ w).grown hg (by intro k h; cases h)
    have hc1 : ∀ j, j < N → w1.cell? ⟨w.heap.size, j, none⟩ = some (.int .u8 (byteOf (fun p => decide (p < wn * 0) && bitsW wn l p) j)) ∧ w1.frozen? ⟨w.heap.size, j, none⟩ = false := by
      intro j hj
      refine ⟨?_, hown.frozenAt j⟩
      rw [hown.cellAt j (by omega)]
      show (madeCells #[Value.int IntKind.u8 0] N).toList[j]? = _
      rw [toList_madeCells_one]
      simp [byteOf, hj]
    have hlt1 : w.heap.size < w1.heap.size := by
      rcases hown.2 with ⟨h, _⟩ | ⟨g, _, _, h, _, hh, _⟩
      · cases h
      · injection h with h _ _
        injection h with h
        injection h with h _ _
        subst h
        exact heap_lt hh
    clear hown hg
    go_wp2_with fail
    go_loopw [7, 26] (fun at_ i wr => ∃ k : Nat, k ≤ l.length ∧ i = .int .i64 k ∧ at_ = .int .i64 ((wn * k : Nat) : Int) ∧ Same w wr ∧ w1.heap.size ≤ wr.heap.size ∧ fixOk wn (l.take k) = true ∧
      ∀ j, j < N → wr.cell? ⟨w.heap.size, j, none⟩ = some (.int .u8 (byteOf (fun p => decide (p < wn * k) && bitsW wn l p) j)) ∧ wr.frozen? ⟨w.heap.size, j, none⟩ = false) (fun _ i _ => l.length - (intOf i).toNat)
    case atStart => exact ⟨0, by omega, rfl, rfl, hS1, Nat.le_refl _, rfl, hc1⟩
    case round =>
      obtain ⟨k, hk, rfl, rfl, hS, hsz, hok, hc⟩ := hrel
      have HCC := Lib.hid hc; have HOK := Lib.hid hok
      clear hc hok hc1
      by_cases hlt : k < l.length
      · obtain ⟨b, off, rfl, hcc⟩ := HC.out (by omega)
        have hck := hS.cell_eq (hcc k hlt) (fun h => h)
        have hr := HL.out l[k] (List.getElem_mem hlt)
        have HR := Lib.hid hcc
        clear hcc
        generalize hx : l[k] = x at *
        have HX := Lib.hid hx
        clear hx
        by_cases hneg : x < 0
        · have e : fixS (wn : Int) l = none := by
            unfold fixS
            rw [if_neg (by omega), Int.toNat_natCast, fixOk_no wn l k hlt (Or.inl (by rw [HX.out]; exact hneg)), if_neg (by decide)]
          have HE := Lib.hid e
          clear e
          go_wp2_with fail
          go_ret2
          rw [HE.out]
          exact ⟨rfl, hS⟩
        · have hpow : (0 : Int) < 2 ^ wn := Int.pow_pos (by omega)
          by_cases hbig : x < 2 ^ wn
          · have hx4 : x < 4294967296 := by
              have : (2 : Int) ^ wn ≤ 2 ^ 32 := by
                have := Nat.pow_le_pow_right (show 2 > 0 by omega) hw32
                have h2 := Int.ofNat_le.2 this
                simpa using h2
              omega
            have ht : (x / 2 ^ wn != 0) = false := by
              rw [Int.ediv_eq_zero_of_lt (by omega) hbig]; rfl
            go_wp2_with fail
            go_loopw [7, 39, 10] (fun at_ i _ wr => ∃ q : Nat, q ≤ wn ∧ i = .int .i64 q ∧ at_ = .int .i64 ((wn * k + q : Nat) : Int) ∧ Same w wr ∧ w1.heap.size ≤ wr.heap.size ∧
              ∀ j, j < N → wr.cell? ⟨w.heap.size, j, none⟩ = some (.int .u8 (byteOf (fun p => decide (p < wn * k + q) && bitsW wn l p) j)) ∧ wr.frozen? ⟨w.heap.size, j, none⟩ = false) (fun _ i _ _ => wn - (intOf i).toNat)
            case atStart => exact ⟨0, by omega, rfl, rfl, hS, hsz, HCC.out⟩
            case round =>
              obtain ⟨q, hq, rfl, rfl, hSq, hszq, hcq⟩ := hrel
              have HQ := Lib.hid hcq
              clear hcq
              by_cases hltq : q < wn
              · have hposn : wn * k + q < wn * l.length := by
                  have : wn * (k + 1) ≤ wn * l.length := Nat.mul_le_mul (Nat.le_refl _) hlt
                  rw [Nat.mul_add] at this; omega
                have hNn : N = (wn * l.length + 7) / 8 := by have := HM.out; rw [this] at hN; omega
                have hcell8 := HQ.out ((wn * k + q) / 8) (by omega)
                have hbit := bitsW_at wn l k q hlt hltq
                have hq1 : wn * k + (q + 1) = wn * k + q + 1 := by omega
                generalize hat : wn * k + q = at_ at *
                obtain ⟨hce, hfe⟩ := hcell8
                have HAT := Lib.hid hat; have HNN := Lib.hid hNn; have HB := Lib.hid hbit; have HQ1 := Lib.hid hq1
                clear hat hNn hbit hq1
                have e1 : IntKind.i64.wrap ((at_ : Int) / 8) = (at_ : Int) / 8 := by rw [IntKind.wrap_i64]; omega
                have e2 : IntKind.i64.wrap ((at_ : Int) % 8) = (at_ : Int) % 8 := by rw [IntKind.wrap_i64]; omega
                have hx2 : 0 ≤ x / 2 ^ q ∧ x / 2 ^ q ≤ x := ⟨Int.ediv_nonneg (by omega) (Int.pow_nonneg (by omega)), Int.ediv_le_self _ (by omega)⟩
                have e3 : IntKind.i64.wrap (x / 2 ^ q) = x / 2 ^ q := by rw [IntKind.wrap_i64]; omega
                have hbd : (at_ : Int) / 8 < N ∧ 0 ≤ (at_ : Int) / 8 := by have := HNN.out; omega
                have e5 : ((at_ : Int) / 8).toNat = at_ / 8 := by omega
                have e6 : ((at_ : Int) % 8).toNat = at_ % 8 := by omega
                have hb8 : (at_ : Int) % 8 < 8 ∧ 0 ≤ (at_ : Int) % 8 := by omega
                have e7 : (at_ : Int).tmod 8 = ((at_ % 8 : Nat) : Int) := by rw [Int.tmod_eq_emod_of_nonneg (by omega)]; omega
                have e8 : bits .and .i64 (x / 2 ^ q) 1 = (((bitsW wn l at_).toNat : Nat) : Int) := by
                  rw [HB.out, HX.out, Nat.toNat_testBit]
                  obtain ⟨xn, rfl⟩ := Int.eq_ofNat_of_zero_le (show 0 ≤ x by omega)
                  have e : ((xn : Int) / 2 ^ q) = ((xn / 2 ^ q : Nat) : Int) := by simp
                  rw [e] at hx2 ⊢
                  rw [show (1 : Int) = ((1 : Nat) : Int) from rfl, (bits_nat .i64 63 (by decide) wraps_i64 (xn / 2 ^ q) 1 (by omega) (by omega)).1]
                  rw [Nat.and_one_is_mod, Int.toNat_natCast]
                obtain ⟨o, ho⟩ : ∃ o : Nat, o = byteOf (fun p => decide (p < at_) && bitsW wn l p) (at_ / 8) := ⟨_, rfl⟩
                rw [← ho] at hce
                have hset := byteOf_or (fun p => decide (p < at_) && bitsW wn l p) (fun p => decide (p < at_ + 1) && bitsW wn l p) at_ (bitsW wn l at_) (by
                  intro p hp
                  show (decide (p < at_) && bitsW wn l p) = false
                  rw [decide_eq_false (by omega)]; rfl) (by
                  intro p
                  show (decide (p < at_ + 1) && bitsW wn l p) = if p = at_ then bitsW wn l at_ else (decide (p < at_) && bitsW wn l p)
                  by_cases h : p = at_
                  · subst h; rw [if_pos rfl, decide_eq_true (by omega)]; rfl
                  · rw [if_neg h]; congr 1; exact decide_eq_decide.2 (by omega))
                rw [← ho] at hset
                have hkeep : ∀ j, j ≠ at_ / 8 → byteOf (fun p => decide (p < at_ + 1) && bitsW wn l p) j = byteOf (fun p => decide (p < at_) && bitsW wn l p) j := by
                  intro j hj
                  refine byteOf_keep _ _ at_ j hj ?_
                  intro p hp
                  show (decide (p < at_ + 1) && bitsW wn l p) = (decide (p < at_) && bitsW wn l p)
                  congr 1; exact decide_eq_decide.2 (by omega)
                have hobd : o < 256 := by rw [ho]; exact byteOf_lt _ _
                have hbb : (bitsW wn l at_).toNat ≤ 1 := Bool.toNat_le _
                generalize (bitsW wn l at_).toNat = bt at *
                have hc8 : at_ % 8 < 8 := by omega
                have e9 : IntKind.u8.wrap ((bt : Nat) : Int) = ((bt : Nat) : Int) := by rw [IntKind.wrap_u8]; omega
                have hp7 : bt * 2 ^ (at_ % 8) < 256 := by
                  have : 2 ^ (at_ % 8) ≤ 2 ^ 7 := Nat.pow_le_pow_right (by omega) (by omega)
                  have := Nat.mul_le_mul hbb this
                  omega
                generalize at_ % 8 = c8 at *
                have eA : IntKind.u8.wrap ((bt : Int) * 2 ^ c8) = ((bt * 2 ^ c8 : Nat) : Int) := by
                  have e : ((bt : Int) * 2 ^ c8) = ((bt * 2 ^ c8 : Nat) : Int) := by simp
                  rw [e, IntKind.wrap_u8]; clear e; generalize bt * 2 ^ c8 = y at *; omega
                have eB := bits_or_u8 o (bt * 2 ^ c8) hobd hp7
                rw [hset] at eB
                obtain ⟨nb, hnb⟩ : ∃ nb : Nat, nb = byteOf (fun p => decide (p < at_ + 1) && bitsW wn l p) (at_ / 8) := ⟨_, rfl⟩
                rw [← hnb] at eB
                generalize bt * 2 ^ c8 = bc at *
                have HK1 := Lib.hid hkeep; have HO := Lib.hid ho; have HP7 := Lib.hid hp7; have HNB := Lib.hid hnb
                clear hset hkeep ho hp7 hnb
                go_wp2_with fail
                refine wp_region_still_tail 15 (by kernel_rfl) (by kernel_rfl) ?_
                simp only [List.take_succ_cons, List.take_zero, List.drop_succ_cons, List.drop_zero]
                repeat still_step
                change wpList _ _ _ _ _ wr.drew
                have hce' : wr.drew.cell? ⟨w.heap.size, at_ / 8, none⟩ = some (.int .u8 o) := hce
                have hfe' : wr.drew.frozen? ⟨w.heap.size, at_ / 8, none⟩ = false := hfe
                go_wp2
                refine ⟨⟨q + 1, by omega, by go_num, by rw [HQ1.out]; go_num, hSq.drew.setCell (fun h => absurd h (by show ¬ w.heap.size < w.heap.size; omega)) _, by simpa using hszq, fun j hj => ⟨?_, (World.frozen?_setCell wr _ _ _).trans (HQ.out j hj).2⟩⟩, by simp [intOf]; omega⟩
                change (wr.setCell ⟨w.heap.size, at_ / 8, none⟩ (.int .u8 nb)).cell? _ = _
                by_cases hjj : j = at_ / 8
                · subst hjj
                  rw [World.cell?_setCell_same _ _ _ hce, HNB.out, HQ1.out]
                · rw [World.cell?_setCell_other _ _ _ _ (by intro h; injection h; omega), HQ1.out, HK1.out j hjj]
                  exact (HQ.out j hj).1
              · obtain rfl : q = wn := by omega
                go_wp2
                refine ⟨⟨k + 1, by omega, by go_num, by rw [Nat.mul_add, Nat.mul_one], hSq, hszq, ?_, by rw [Nat.mul_add, Nat.mul_one]; exact HQ.out⟩, by simp [intOf]; omega⟩
                rw [fixOk_snoc _ _ _ hlt, HOK.out, HX.out, decide_eq_true (by omega), decide_eq_true hbig]
                rfl
          · have e : fixS (wn : Int) l = none := by
              unfold fixS
              rw [if_neg (by omega), Int.toNat_natCast, fixOk_no wn l k hlt (Or.inr (by rw [HX.out]; omega)), if_neg (by decide)]
            have HE := Lib.hid e
            clear e
            have ht : (x / 2 ^ wn != 0) = true := by
              have : 1 ≤ x / 2 ^ wn := (Int.le_ediv_iff_mul_le hpow).2 (by omega)
              simp; omega
            go_wp2_with fail
            go_ret2
            rw [HE.out]
            exact ⟨rfl, hS⟩
      · obtain rfl : k = l.length := by omega
        rw [List.take_length] at HOK
        have hNn : N = (wn * l.length + 7) / 8 := by have := HM.out; rw [this] at hN; omega
        have e : fixS (wn : Int) l = some (fixB wn l) := by
          unfold fixS
          rw [if_neg (by omega), Int.toNat_natCast, HOK.out, if_pos rfl]
        have hcv : (convert 148 9 (.slice (some ⟨w.heap.size, 0, none⟩) N N)).run Try.prog wr = .ok (.string (str (fixB wn l))) wr := by
          rw [← strOfNums8]
          refine run_convert_bytes_arg wr 148 5 Try.underlying148 Try.underlying5 w.heap.size 0 N N (nums8 (fixB wn l)) (by simp [nums8, fixB_length, hNn]) (fun i hi => ?_) 9 Try.underlying9
          rw [Nat.zero_add, (HCC.out i hi).1]
          have := fixB_get wn l i (by omega)
          have hb := byteOf_lt (fun p => decide (p < wn * l.length) && bitsW wn l p) i
          simp [nums8, this]
          omega
        have HE := Lib.hid e; have HNN := Lib.hid hNn
        clear e hNn
        go_wp2_with fail
        go_ret2
        rw [HE.out]
        exact ⟨rfl, hS⟩
end Go.Proofs.Ytjegohibpojneaa
