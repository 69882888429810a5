import Derived.Test.YtjegohibpojneaaPackSpec
import Derived.Laws.BitsAllLaws
import Derived.Laws.DeepNot64
import Derived.Test.YtjegohibpojneaaProg
set_option linter.unusedVariables false
set_option linter.unusedSimpArgs false
namespace Go.Proofs.Ytjegohibpojneaa
open Go.RowKit

/-- A reader at block b: bad, or what is left. -/
def Rd (w : World) (b : Nat) (st : RS) : Prop := w.heap[b]? = some (.cells #[.string (str (st.getD [])), .bool st.isNone] 152 (0, 0))
theorem Rd.only {S : Nat → Prop} {w w' : World} {b : Nat} {st : RS} (h : Rd w b st) (ho : Only S w w') (hS : ¬ S b) : Rd w' b st := ho.heap h hS
theorem Rd.same {w w' : World} {b : Nat} {st : RS} (h : Rd w b st) (ho : Same w w') : Rd w' b st := ho.heap h (fun h => h)
theorem Rd.lt {w : World} {b : Nat} {st : RS} (h : Rd w b st) : b < w.heap.size := heap_lt h
theorem Rd.c0 {w : World} {b : Nat} {st : RS} (h : Rd w b st) : w.cell? ⟨b, 0, none⟩ = some (.string (str (st.getD []))) := blk_cells h 0
theorem Rd.c1 {w : World} {b : Nat} {st : RS} (h : Rd w b st) : w.cell? ⟨b, 1, none⟩ = some (.bool st.isNone) := blk_cells h 1
theorem Rd.f {w : World} {b : Nat} {st : RS} (h : Rd w b st) (j : Nat) : w.frozen? ⟨b, j, none⟩ = false := blk_frozen h j
theorem Rd.setS {w : World} {b : Nat} {l l' : List UInt8} (h : Rd w b (some l)) : Rd (w.setCell ⟨b, 0, none⟩ (.string (str l'))) b (some l') := by
  have := blk_set (j := 0) (v := .string (str l')) h
  simpa [Rd] using this
theorem Rd.setF {w : World} {b : Nat} {st : RS} (h : Rd w b st) : Rd ((w.setCell ⟨b, 0, none⟩ (.string ⟨#[]⟩)).setCell ⟨b, 1, none⟩ (.bool true)) b none := by
  have := blk_set (j := 1) (v := .bool true) (blk_set (j := 0) (v := .string ⟨#[]⟩) h)
  simpa [Rd, str] using this

theorem rnew_any (l : List UInt8) (w : World) : Calls Try.prog 21 #[.string (str l)] w fun e w' => e = .returned (.pointer (some ⟨w.heap.size, 0, none⟩)) ∧ Same w w' ∧ Rd w' w.heap.size (some l) := by
  go_enter Try.func21, Try.ntmps21
  go_wp2
  go_ret
  exact ⟨rfl, (Only.refl _ _).alloc _, blk_new _ _⟩
theorem rleft_any (b : Nat) (st : RS) (w : World) (h : Rd w b st) : Calls Try.prog 27 #[.pointer (some ⟨b, 0, none⟩)] w fun e w' => e = .returned (.int .i64 (st.getD []).length) ∧ Same w w' := by
  have h0 := h.c0
  have hst := str_size (st.getD [])
  have H := Lib.hid h
  clear h
  go_enter Try.func27, Try.ntmps27
  go_wp2
  go_ret
  exact ⟨rfl, Only.refl _ _⟩
theorem rbad_any (b : Nat) (st : RS) (w : World) (h : Rd w b st) : Calls Try.prog 91 #[.pointer (some ⟨b, 0, none⟩)] w fun e w' => e = .returned (.bool st.isNone) ∧ Same w w' := by
  have h1 := h.c1
  have H := Lib.hid h
  clear h
  go_enter Try.func91, Try.ntmps91
  go_wp2
  go_ret
  exact ⟨rfl, Only.refl _ _⟩
theorem rfail_any (b : Nat) (st : RS) (w : World) (h : Rd w b st) : Calls Try.prog 136 #[.pointer (some ⟨b, 0, none⟩)] w fun e w' => e = .returned (.tuple #[]) ∧ Only (· = b) w w' ∧ Rd w' b none := by
  have h0 := h.c0
  have h1 := h.c1
  have f0 := h.f 0
  have f1 := h.f 1
  have H := Lib.hid h
  clear h
  go_enter Try.func136, Try.ntmps136
  go_wp2
  go_end0
  exact ⟨rfl, ((Only.refl (· = b) w).setCell (fun _ => rfl) _).setCell (fun _ => rfl) _, H.out.setF⟩

theorem rbytes_any (b : Nat) (st : RS) (n : Int) (w : World) (h : Rd w b st) (hlen : (st.getD []).length ≤ 1000000000000) :
    Calls Try.prog 139 #[.pointer (some ⟨b, 0, none⟩), .int .i64 n] w fun e w' => e = .returned (.string (str (bytesS st n).1)) ∧ Only (· = b) w w' ∧ Rd w' b (bytesS st n).2 := by
  have h0 := h.c0
  have h1 := h.c1
  have f0 := h.f 0
  have f1 := h.f 1
  have hst := str_size (st.getD [])
  have H := Lib.hid h
  clear h
  cases st with
  | none =>
    go_enter Try.func139, Try.ntmps139
    simp only [Option.getD_none, Option.isNone_none, List.length_nil] at *
    by_cases hn : n < 0
    · go_wp2_with (go_at_call 136; refine (rfail_any b _ _ H.out).mono ?_; rintro e w1 ⟨rfl, hO, hR⟩)
      go_ret
      exact ⟨rfl, hO, hR⟩
    · by_cases hn2 : (0 : Int) < n
      · go_wp2_with (go_at_call 136; refine (rfail_any b _ _ H.out).mono ?_; rintro e w1 ⟨rfl, hO, hR⟩)
        go_ret
        exact ⟨rfl, hO, hR⟩
      · go_wp2_with (go_at_call 136; refine (rfail_any b _ _ H.out).mono ?_; rintro e w1 ⟨rfl, hO, hR⟩)
        go_ret
        exact ⟨rfl, hO, hR⟩
  | some l =>
    simp only [Option.getD_some, Option.isNone_some] at *
    by_cases hbad : n < 0 ∨ (l.length : Int) < n
    · have e : bytesS (some l) n = ([], none) := by unfold bytesS; simp only; rw [if_pos hbad]
      have HE := Lib.hid e
      clear e
      go_enter Try.func139, Try.ntmps139
      rcases hbad with hn | hn
      all_goals
        go_wp2_with (go_at_call 136; refine (rfail_any b _ _ H.out).mono ?_; rintro e w1 ⟨rfl, hO, hR⟩)
        go_ret
        rw [HE.out]
        exact ⟨rfl, hO, hR⟩
    · have e : bytesS (some l) n = (l.take n.toNat, some (l.drop n.toNat)) := by unfold bytesS; simp only; rw [if_neg hbad]
      obtain ⟨m, rfl⟩ := Int.eq_ofNat_of_zero_le (show 0 ≤ n by omega)
      rw [Int.toNat_natCast] at e
      have hm : m ≤ l.length := by omega
      have ht := str_take l m
      have hd := str_drop l m l.length (Nat.le_refl _)
      have HE := Lib.hid e
      clear e hbad
      go_enter Try.func139, Try.ntmps139
      go_wp2
      go_ret
      rw [HE.out]
      exact ⟨rfl, (Only.refl (· = b) w).setCell (fun _ => rfl) _, H.out.setS⟩

/-- The loop's state in 'word': what is left of the work, at place i with v in hand. -/
def wdS (i v : Nat) (st : RS) : Nat × RS :=
  match st with
  | none => (0, none)
  | some l => match wd i v l with
    | none => (0, none)
    | some (v, r) => (v, some r)
theorem wordS_eq (st : RS) : wordS st = wdS 0 0 st := by cases st <;> rfl
theorem bytesS_one (x : UInt8) (l : List UInt8) : bytesS (some (x :: l)) 1 = ([x], some l) := by
  unfold bytesS
  simp only
  rw [if_neg (by simp; omega)]
  rfl
theorem bytesS_nil : bytesS (some []) 1 = ([], none) := by unfold bytesS; simp
theorem bytesS_none (n : Int) : bytesS none n = ([], none) := rfl
theorem str_nil : str [] = ⟨#[]⟩ := rfl
theorem u64_strip (x : UInt8) : bits .andNot .u64 (x.toNat : Int) 128 = ((x.toNat % 128 : Nat) : Int) := by
  have hx := x.toNat_lt
  have e := u64_andNot_nat x.toNat 128 (by omega) (by omega)
  have h : ∀ y : Fin 256, y.val &&& (18446744073709551615 - 128) = y.val % 128 := by decide +kernel
  rw [h ⟨x.toNat, hx⟩] at e
  exact e
theorem word_or (k v x : Nat) (hv : v < 128 ^ k) (hb : v + x * 128 ^ k < 18446744073709551616) : bits .or .u64 (v : Int) ((x * 128 ^ k : Nat) : Int) = ((v + x * 128 ^ k : Nat) : Int) := by
  rw [(bits_nat .u64 64 (by decide) (fun n h0 h1 => by rw [IntKind.wrap_u64]; omega) v (x * 128 ^ k) (by omega) (by omega)).2]
  congr 1
  rw [show (128 : Nat) = 2 ^ 7 by decide, ← Nat.pow_mul] at hv ⊢
  rw [Nat.mul_comm x, Nat.or_comm, ← Nat.two_pow_add_eq_or_of_lt hv, Nat.add_comm]

set_option maxRecDepth 100000 in
theorem rword_any (b : Nat) (st : RS) (w : World) (h : Rd w b st) (hlen : (st.getD []).length ≤ 1000000000000) :
    Calls Try.prog 135 #[.pointer (some ⟨b, 0, none⟩)] w fun e w' => e = .returned (.int .u64 (wordS st).1) ∧ Only (· = b) w w' ∧ Rd w' b (wordS st).2 := by
  have H := Lib.hid h
  rw [wordS_eq]
  clear h
  go_enter Try.func135, Try.ntmps135
  go_wp2_with fail
  go_loopw [3, 4, 5, 6] (fun vv i _ _ wr => ∃ (k : Nat) (st' : RS), k ≤ 10 ∧ i = .int .i64 k ∧ Only (· = b) w wr ∧ Rd wr b st' ∧ (st'.getD []).length ≤ 1000000000000 ∧
    (if k = 10 then wdS 0 0 st = (0, none) ∧ ∃ v : Int, vv = .int .u64 v else ∃ v : Nat, vv = .int .u64 v ∧ v < 128 ^ k ∧ wdS k v st' = wdS 0 0 st)) (fun _ i _ _ _ => 10 - (intOf i).toNat)
  case atStart => exact ⟨0, st, by omega, rfl, Only.refl _ _, H.out, hlen, by rw [if_neg (by decide)]; exact ⟨0, rfl, by decide, rfl⟩⟩
  case round =>
    obtain ⟨k, st', hk, rfl, hO, hR, hl', hv⟩ := hrel
    have HR := Lib.hid hR; have HV := Lib.hid hv
    clear hR hv
    by_cases hk10 : k < 10
    · obtain ⟨v, rfl, hv, heq⟩ := by have := HV.out; rw [if_neg (by omega)] at this; exact this
      have hem : (str []).toList.isEmpty = true := by rw [str_toList]; rfl
      by_cases hst : st' = none ∨ st' = some []
      · have e0 : bytesS st' 1 = ([], none) := by rcases hst with rfl | rfl; exact rfl; exact bytesS_nil
        have e1 : wdS 0 0 st = (0, none) := by rw [← heq]; rcases hst with rfl | rfl; rfl; unfold wdS wd; rfl
        have E1 := Lib.hid e1
        clear e1 heq
        go_wp2_with (go_at_call 139; refine (rbytes_any b st' 1 _ HR.out hl').mono ?_; rintro e w1 ⟨rfl, hO1, hR1⟩; rw [e0] at hR1 ⊢)
        go_ret
        rw [E1.out]
        exact ⟨rfl, hO.same hO1, hR1⟩
      · obtain ⟨x, l, rfl⟩ : ∃ x l, st' = some (x :: l) := by
          cases st' with
          | none => exact absurd (Or.inl rfl) hst
          | some l => cases l with
            | nil => exact absurd (Or.inr rfl) hst
            | cons x l => exact ⟨x, l, rfl⟩
        clear hst
        have e0 := bytesS_one x l
        have hem1 : (str [x]).toList.isEmpty = false := by rw [str_toList]; rfl
        have hsz1 : (str [x]).size = 1 := rfl
        have hstrip := u64_strip x
        have hx0 : ((str [x])[0]'(by rw [hsz1]; omega)).toNat = x.toNat := rfl
        have hxlt := x.toNat_lt
        have hl2 : l.length ≤ 1000000000000 := by simp at hl'; omega
        have hw : wdS k v (some (x :: l)) = if 128 ≤ x.toNat then (if k = 9 then (0, none) else wdS (k + 1) (v + (x.toNat - 128) * 128 ^ k) (some l)) else if x.toNat = 0 ∧ 0 < k ∨ k = 9 ∧ 1 < x.toNat then (0, none) else (v + x.toNat * 128 ^ k, some l) := by
          conv => lhs; unfold wdS wd
          simp only
          rw [if_neg (by omega)]
          by_cases h1 : 128 ≤ x.toNat
          · rw [if_pos h1, if_pos h1]
            by_cases h2 : k = 9
            · rw [if_pos h2, if_pos h2]
            · rw [if_neg h2, if_neg h2]; rfl
          · rw [if_neg h1, if_neg h1]
            by_cases h2 : x.toNat = 0 ∧ 0 < k ∨ k = 9 ∧ 1 < x.toNat
            · rw [if_pos h2, if_pos h2]
            · rw [if_neg h2, if_neg h2]
        rw [hw] at heq
        generalize hxn : x.toNat = xn at *
        have HXN := Lib.hid hxn
        have e2 : IntKind.u64.wrap (xn : Int) = xn := by rw [IntKind.wrap_u64]; omega
        have HE := Lib.hid heq
        clear hxn hw heq
        have hshift : k < 9 ∨ xn < 2 → IntKind.u64.wrap (((xn % 128 : Nat) : Int) * 2 ^ (7 * k)) = ((xn % 128 * 128 ^ k : Nat) : Int) ∧ bits .or .u64 (v : Int) ((xn % 128 * 128 ^ k : Nat) : Int) = ((v + xn % 128 * 128 ^ k : Nat) : Int) ∧ v + xn % 128 * 128 ^ k < 18446744073709551616 ∧ (k < 9 → v + xn % 128 * 128 ^ k < 128 ^ (k + 1)) := by
          intro h
          have e : (((xn % 128 : Nat) : Int) * 2 ^ (7 * k)) = ((xn % 128 * 128 ^ k : Nat) : Int) := by
            rw [Int.pow_mul]; simp
          have hlt : k < 9 → v + xn % 128 * 128 ^ k < 128 ^ (k + 1) := by
            intro _
            have : xn % 128 * 128 ^ k ≤ 127 * 128 ^ k := Nat.mul_le_mul (by omega) (Nat.le_refl _)
            rw [Nat.pow_succ]; omega
          have hbd : v + xn % 128 * 128 ^ k < 18446744073709551616 := by
            rcases Nat.lt_or_ge k 9 with h9 | h9
            · have := hlt h9
              have h2 : 128 ^ (k + 1) ≤ 128 ^ 9 := Nat.pow_le_pow_right (by omega) (by omega)
              omega
            · obtain rfl : k = 9 := by omega
              have h1 : xn % 128 ≤ 1 := by omega
              have : xn % 128 * 128 ^ 9 ≤ 1 * 128 ^ 9 := Nat.mul_le_mul h1 (Nat.le_refl _)
              omega
          refine ⟨?_, word_or k v _ hv hbd, hbd, hlt⟩
          rw [e, IntKind.wrap_u64]
          generalize xn % 128 * 128 ^ k = y at *
          omega
        have HSH := Lib.hid hshift
        clear hshift
        by_cases h128 : 128 ≤ xn
        · have heq := HE.out
          rw [if_pos h128] at heq
          by_cases hk9 : k = 9
          · subst hk9
            rw [if_pos rfl] at heq
            have HE2 := Lib.hid heq
            clear heq
            go_wp2_with (go_at_call 139; refine (rbytes_any b (some (x :: l)) 1 _ HR.out hl').mono ?_; rintro e w1 ⟨rfl, hO1, hR1⟩; rw [e0] at hR1 ⊢)
            exact ⟨⟨10, some l, by omega, rfl, hO.same hO1, hR1, hl2, by rw [if_pos rfl]; exact ⟨HE2.out.symm, _, rfl⟩⟩, by simp [intOf]⟩
          · rw [if_neg hk9, show xn - 128 = xn % 128 by omega] at heq
            have HE2 := Lib.hid heq
            clear heq
            obtain ⟨s1, s2, s3, s4⟩ := HSH.out (Or.inl (by omega))
            rw [Int.natCast_emod, Int.cast_ofNat_Int] at s1 hstrip
            have S4 := Lib.hid (s4 (by omega))
            clear s4 s3
            generalize xn % 128 * 128 ^ k = y at *
            obtain ⟨z, hz⟩ : ∃ z : Nat, v + y = z := ⟨_, rfl⟩
            rw [hz] at s2 S4 HE2
            clear hz
            go_wp2_with (go_at_call 139; refine (rbytes_any b (some (x :: l)) 1 _ HR.out hl').mono ?_; rintro e w1 ⟨rfl, hO1, hR1⟩; rw [e0] at hR1 ⊢)
            exact ⟨⟨k + 1, some l, by omega, by go_num, hO.same hO1, hR1, hl2, by rw [if_neg (by omega)]; exact ⟨_, rfl, S4.out, HE2.out⟩⟩, by simp [intOf]; omega⟩
        · have heq := HE.out
          rw [if_neg h128] at heq
          by_cases hbad : xn = 0 ∧ 0 < k ∨ k = 9 ∧ 1 < xn
          · rw [if_pos hbad] at heq
            have HE2 := Lib.hid heq
            clear heq
            rcases hbad with ⟨rfl, hk0⟩ | ⟨rfl, hx1⟩
            · go_wp2_with (first | (go_at_call 139; refine (rbytes_any b (some (x :: l)) 1 _ HR.out hl').mono ?_; rintro e w1 ⟨rfl, hO1, hR1⟩; rw [e0] at hR1 ⊢) | (go_at_call 136; refine (rfail_any b _ _ hR1).mono ?_; rintro e w2 ⟨rfl, hO2, hR2⟩))
              go_ret
              rw [← HE2.out]
              exact ⟨rfl, (hO.same hO1).same hO2, hR2⟩
            · by_cases hx00 : xn = 0
              · omega
              · go_wp2_with (first | (go_at_call 139; refine (rbytes_any b (some (x :: l)) 1 _ HR.out hl').mono ?_; rintro e w1 ⟨rfl, hO1, hR1⟩; rw [e0] at hR1 ⊢) | (go_at_call 136; refine (rfail_any b _ _ hR1).mono ?_; rintro e w2 ⟨rfl, hO2, hR2⟩))
                go_ret
                rw [← HE2.out]
                exact ⟨rfl, (hO.same hO1).same hO2, hR2⟩
          · rw [if_neg hbad] at heq
            rw [show xn * 128 ^ k = xn % 128 * 128 ^ k by rw [Nat.mod_eq_of_lt (by omega)]] at heq
            obtain ⟨s1, s2, s3, _⟩ := HSH.out (by omega)
            rw [Int.natCast_emod, Int.cast_ofNat_Int] at s1 hstrip
            have HE2 := Lib.hid heq
            clear heq
            by_cases hx00 : xn = 0
            · obtain rfl : k = 0 := by omega
              subst hx00
              obtain rfl : v = 0 := by simpa using hv
              have hb0 : bits .andNot .u64 0 128 = 0 := rfl
              have hb1 : bits .or .u64 0 0 = 0 := rfl
              have hb2 : IntKind.u64.wrap 0 = 0 := rfl
              go_wp2_with (go_at_call 139; refine (rbytes_any b (some (x :: l)) 1 _ HR.out hl').mono ?_; rintro e w1 ⟨rfl, hO1, hR1⟩; rw [e0] at hR1 ⊢)
              go_ret
              rw [← HE2.out]
              exact ⟨rfl, hO.same hO1, hR1⟩
            · by_cases hk9 : k = 9
              · subst hk9
                obtain rfl : xn = 1 := by omega
                simp only [show (1 % 128 * 128 ^ 9 : Nat) = 9223372036854775808 by decide] at s2 HE2
                have hb0 : bits .andNot .u64 1 128 = 1 := rfl
                have hs2 : bits .or .u64 (v : Int) 9223372036854775808 = ((v + 9223372036854775808 : Nat) : Int) := s2
                clear s2 s1
                go_wp2_with (go_at_call 139; refine (rbytes_any b (some (x :: l)) 1 _ HR.out hl').mono ?_; rintro e w1 ⟨rfl, hO1, hR1⟩; rw [e0] at hR1 ⊢)
                go_ret
                rw [← HE2.out]
                exact ⟨rfl, hO.same hO1, hR1⟩
              · generalize xn % 128 * 128 ^ k = y at *
                obtain ⟨z, hz⟩ : ∃ z : Nat, v + y = z := ⟨_, rfl⟩
                rw [hz] at s2 HE2
                clear hz
                go_wp2_with (go_at_call 139; refine (rbytes_any b (some (x :: l)) 1 _ HR.out hl').mono ?_; rintro e w1 ⟨rfl, hO1, hR1⟩; rw [e0] at hR1 ⊢)
                go_ret
                rw [← HE2.out]
                exact ⟨rfl, hO.same hO1, hR1⟩
    · obtain rfl : k = 10 := by omega
      obtain ⟨h0, v, rfl⟩ := by have := HV.out; rw [if_pos rfl] at this; exact this
      have HE2 := Lib.hid h0
      clear h0
      go_wp2_with (go_at_call 136; refine (rfail_any b _ _ HR.out).mono ?_; rintro e w2 ⟨rfl, hO2, hR2⟩)
      go_ret
      rw [HE2.out]
      exact ⟨rfl, hO.same hO2, hR2⟩

theorem wd_lt (i v : Nat) (l r : List UInt8) (n : Nat) (hi : i ≤ 9) (hv : v < 128 ^ i) (h : wd i v l = some (n, r)) : n < 18446744073709551616 ∧ r.length < l.length := by
  induction l generalizing i v with
  | nil => unfold wd at h; cases h
  | cons b l ih =>
    unfold wd at h
    have hb := b.toNat_lt
    rw [if_neg (by omega)] at h
    by_cases h1 : 128 ≤ b.toNat
    · rw [if_pos h1] at h
      by_cases h2 : i = 9
      · rw [if_pos h2] at h; cases h
      · rw [if_neg h2] at h
        have := ih (i + 1) _ (by omega) (by
          have : (b.toNat - 128) * 128 ^ i ≤ 127 * 128 ^ i := Nat.mul_le_mul (by omega) (Nat.le_refl _)
          rw [Nat.pow_succ]; omega) h
        simp; omega
    · rw [if_neg h1] at h
      by_cases h2 : b.toNat = 0 ∧ 0 < i ∨ i = 9 ∧ 1 < b.toNat
      · rw [if_pos h2] at h; cases h
      · rw [if_neg h2] at h
        simp only [Option.some.injEq, Prod.mk.injEq] at h
        obtain ⟨rfl, rfl⟩ := h
        refine ⟨?_, by simp⟩
        by_cases h9 : i = 9
        · subst h9
          have : b.toNat * 128 ^ 9 ≤ 1 * 128 ^ 9 := Nat.mul_le_mul (by omega) (Nat.le_refl _)
          omega
        · have h3 : b.toNat * 128 ^ i ≤ 127 * 128 ^ i := Nat.mul_le_mul (by omega) (Nat.le_refl _)
          have h4 : 128 ^ i ≤ 128 ^ 8 := Nat.pow_le_pow_right (by omega) (by omega)
          omega
theorem wordS_lt (st : RS) : (wordS st).1 < 18446744073709551616 := by
  cases st with
  | none => simp [wordS]
  | some l =>
    unfold wordS
    simp only
    cases h : wd 0 0 l with
    | none => simp
    | some p => obtain ⟨n, r⟩ := p; exact (wd_lt 0 0 l r n (by omega) (by decide) h).1
theorem wordS_less (st : RS) : ((wordS st).2.getD []).length ≤ (st.getD []).length := by
  cases st with
  | none => simp [wordS]
  | some l =>
    unfold wordS
    simp only
    cases h : wd 0 0 l with
    | none => simp
    | some p => obtain ⟨n, r⟩ := p; have := (wd_lt 0 0 l r n (by omega) (by decide) h).2; simp; omega
theorem wordS_one (l r : List UInt8) (h : (wordS (some l)).2 = some r) : r.length < l.length := by
  unfold wordS at h
  simp only at h
  cases hw : wd 0 0 l with
  | none => rw [hw] at h; cases h
  | some p =>
    obtain ⟨n, r'⟩ := p
    rw [hw] at h
    injection h with h
    subst h
    exact (wd_lt 0 0 l r' n (by omega) (by decide) hw).2
theorem varS_le (st : RS) : (varS st).1 ≤ 9223372036854775807 := by unfold varS; split; exact Nat.zero_le _; omega
theorem varS_less (st : RS) : ((varS st).2.getD []).length ≤ (st.getD []).length := by unfold varS; split; simp; exact wordS_less st
theorem varS_one (l r : List UInt8) (h : (varS (some l)).2 = some r) : r.length < l.length := by
  unfold varS at h
  split at h
  · cases h
  · exact wordS_one l r h
theorem varS_none : varS none = (0, none) := rfl

theorem rvarint_any (b : Nat) (st : RS) (w : World) (h : Rd w b st) (hlen : (st.getD []).length ≤ 1000000000000) :
    Calls Try.prog 88 #[.pointer (some ⟨b, 0, none⟩)] w fun e w' => e = .returned (.int .i64 (varS st).1) ∧ Only (· = b) w w' ∧ Rd w' b (varS st).2 := by
  have H := Lib.hid h
  clear h
  have hlt := wordS_lt st
  have hv : varS st = if 9223372036854775807 < (wordS st).1 then (0, none) else wordS st := rfl
  have hc := (rword_any b st w H.out hlen)
  generalize wordS st = p at *
  obtain ⟨n, st'⟩ := p
  simp only at hc hlt hv
  have HV := Lib.hid hv; have HC := Lib.hid hc
  clear hv hc
  go_enter Try.func88, Try.ntmps88
  by_cases hbig : 9223372036854775807 < n
  · go_wp2_with (first | (go_at_call 135; refine HC.out.mono ?_; rintro e w1 ⟨rfl, hO1, hR1⟩) | (go_at_call 136; refine (rfail_any b _ _ hR1).mono ?_; rintro e w2 ⟨rfl, hO2, hR2⟩))
    go_ret
    rw [HV.out, if_pos hbig]
    exact ⟨rfl, hO1.same hO2, hR2⟩
  · have e : IntKind.i64.wrap (n : Int) = n := by rw [IntKind.wrap_i64]; omega
    go_wp2_with (go_at_call 135; refine HC.out.mono ?_; rintro e w1 ⟨rfl, hO1, hR1⟩)
    go_ret
    rw [HV.out, if_neg hbig]
    exact ⟨rfl, hO1, hR1⟩

theorem i64_xor_0 (a : Nat) (h : a < 9223372036854775808) : bits .xor .i64 (a : Int) 0 = a := by
  have : bits .xor .i64 (a : Int) 0 = IntKind.i64.wrap (((BitVec.ofInt 64 (a : Int) ^^^ BitVec.ofInt 64 0).toNat : Nat) : Int) := rfl
  rw [this, show BitVec.ofInt 64 0 = 0#64 by rfl, BitVec.xor_zero, BitVec.ofInt_natCast, BitVec.toNat_ofNat, Nat.mod_eq_of_lt (by omega), IntKind.wrap_i64]
  omega
theorem i64_xor_1 (a : Nat) (h : a < 9223372036854775808) : bits .xor .i64 (a : Int) (-1) = -1 - (a : Int) := by
  have h1 : bits .xor .i64 (a : Int) (-1) = bits .xor .i64 (-1) (a : Int) := by
    show IntKind.i64.wrap (((BitVec.ofInt 64 (a : Int) ^^^ BitVec.ofInt 64 (-1)).toNat : Nat) : Int) = IntKind.i64.wrap (((BitVec.ofInt 64 (-1) ^^^ BitVec.ofInt 64 (a : Int)).toNat : Nat) : Int)
    rw [BitVec.xor_comm]
  rw [h1]
  exact i64_not a h
end Go.Proofs.Ytjegohibpojneaa
