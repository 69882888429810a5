import Derived.Test.YtpgbnjneoejebaaDivW
import Derived.Test.YtpgbnjneoejebaaRatT
import Derived.Shelf.Spec.BitsCarry
set_option linter.unusedVariables false
set_option linter.unusedSimpArgs false
namespace Go.Proofs.Ytpgbnjneoejebaa
open Go.RowKit

theorem div64_any (hi lo y : Nat) (w : World) (hhi : hi < y) (hlo : lo < 18446744073709551616) (hy : y < 18446744073709551616) :
    Calls Try.prog 114 #[.int .u64 hi, .int .u64 lo, .int .u64 y] w fun e w' => e = .returned (.tuple #[.int .u64 (((hi * 18446744073709551616 + lo) / y : Nat) : Int), .int .u64 (((hi * 18446744073709551616 + lo) % y : Nat) : Int)]) ∧ Same w w' := by
  by_cases h : hi = 0
  · subst h
    rw [Nat.zero_mul, Nat.zero_add]
    exact div64_zero lo y w (by omega) hlo hy
  · exact div64_pos hi lo y w (by omega) hhi hlo hy
/-- A product of two words. -/
abbrev prodV (n : Nat) : Value := .agg #[.int .u64 ((n / 18446744073709551616 : Nat) : Int), .int .u64 ((n % 18446744073709551616 : Nat) : Int)]
theorem over_plain (N n : Nat) (hn : 0 < n) (hn64 : n < 18446744073709551616) :
    N / n / 18446744073709551616 = N / 18446744073709551616 / n ∧ N / n % 18446744073709551616 = (N / 18446744073709551616 % n * 18446744073709551616 + N % 18446744073709551616) / n ∧
      N % n = (N / 18446744073709551616 % n * 18446744073709551616 + N % 18446744073709551616) % n := by
  have e := Nat.div_add_mod N 18446744073709551616
  generalize N / 18446744073709551616 = h at *
  have hl : N % 18446744073709551616 < 18446744073709551616 := Nat.mod_lt _ (by decide)
  generalize N % 18446744073709551616 = l at *
  have eh := Nat.div_add_mod h n
  have hr := Nat.mod_lt h hn
  generalize h / n = q at *
  generalize h % n = r at *
  have e2 := Nat.div_add_mod (r * 18446744073709551616 + l) n
  have hr2 := Nat.mod_lt (r * 18446744073709551616 + l) hn
  have hl2 : (r * 18446744073709551616 + l) / n < 18446744073709551616 := by
    rw [Nat.div_lt_iff_lt_mul hn, Nat.mul_comm]
    have : (r + 1) * 18446744073709551616 ≤ n * 18446744073709551616 := Nat.mul_le_mul hr (Nat.le_refl _)
    omega
  generalize (r * 18446744073709551616 + l) / n = q2 at *
  generalize (r * 18446744073709551616 + l) % n = r2 at *
  have hN : N = n * (q * 18446744073709551616 + q2) + r2 := by
    rw [Nat.mul_add, ← Nat.mul_assoc, Nat.add_assoc, e2, ← e, ← eh, Nat.mul_add]
    have : 18446744073709551616 * (n * q) = n * q * 18446744073709551616 := Nat.mul_comm _ _
    omega
  have hd : N / n = q * 18446744073709551616 + q2 := by rw [hN, Nat.mul_add_div hn, Nat.div_eq_of_lt hr2, Nat.add_zero]
  refine ⟨by rw [hd]; omega, by rw [hd]; omega, by rw [hN, Nat.mul_add_mod, Nat.mod_eq_of_lt hr2]⟩
set_option maxRecDepth 100000 in
theorem over_any (N n : Nat) (w : World) (hn : 0 < n) (hn64 : n < 18446744073709551616) (hN : N < 18446744073709551616 * 18446744073709551616) :
    Calls Try.prog 91 #[prodV N, .int .u64 n] w fun e w' => e = .returned (.tuple #[prodV (N / n), .int .u64 ((N % n : Nat) : Int)]) ∧ Same w w' := by
  obtain ⟨o1, o2, o3⟩ := over_plain N n hn hn64
  unfold prodV
  rw [o1, o2, o3]
  have hl : N % 18446744073709551616 < 18446744073709551616 := Nat.mod_lt _ (by decide)
  have hh : N / 18446744073709551616 < 18446744073709551616 := by rw [Nat.div_lt_iff_lt_mul (by decide)]; exact hN
  clear o1 o2 o3 hN
  generalize N / 18446744073709551616 = h at *
  generalize N % 18446744073709551616 = l at *
  have cd := fun w0 => div64_any (h % n) l n w0 (Nat.mod_lt h hn) hl hn64
  have hq1 : (h : Int) / (n : Int) = ((h / n : Nat) : Int) := by simp
  have hq2 : (h : Int) % (n : Int) = ((h % n : Nat) : Int) := by simp
  have hq3 : (h : Int).tmod (n : Int) = ((h % n : Nat) : Int) := by rw [Int.tmod_eq_emod_of_nonneg (by omega)]; simp
  have hm := Nat.mod_lt h hn
  have hd := Nat.div_le_self h n
  have u1 := wu64 (h / n) (by omega)
  have u2 := wu64 (h % n) (by omega)
  have hnn : (n : Int) ≠ 0 := by omega
  generalize h / n = q at *
  generalize h % n = r at *
  generalize (r * 18446744073709551616 + l) / n = l2 at *
  generalize (r * 18446744073709551616 + l) % n = r2 at *
  have hb := blk2' w (.cells #[.int .u64 h, .int .u64 l] 132) (.cells #[.int .u64 0, .int .u64 0] 132)
  obtain ⟨k0, k1, k2, k3⟩ := pair_facts2 hb.1
  have HB := Lib.hid hb; have CD := Lib.hid cd
  clear hb cd hm hd hl hh hn64 k2 k3
  go_enter Try.func91, Try.ntmps91
  go_wp2_with fail
  go_quiet (fail)
  rename_i nq
  obtain ⟨W1, hW1⟩ : ∃ W1, W1 = ((w.alloc (.cells #[.int .u64 h, .int .u64 l] 132)).alloc (.cells #[.int .u64 0, .int .u64 0] 132)).drewN nq := ⟨_, rfl⟩
  have hS1 : Same w W1 := by rw [hW1]; exact (((Only.refl _ w).alloc _).alloc _).drewN nq
  have hb1 : W1.heap[w.heap.size]? = some (.cells #[.int .u64 h, .int .u64 l] 132 (0, 0)) := by rw [hW1]; exact HB.out.1
  have hb2 : W1.heap[w.heap.size + 1]? = some (.cells #[.int .u64 0, .int .u64 0] 132 (0, 0)) := by rw [hW1]; exact HB.out.2
  rw [← hW1]
  clear hW1 k0 k1
  obtain ⟨k0, k1, k2, k3⟩ := pair_facts2 hb1
  have HS1 := Lib.hid hS1; have HB2 := Lib.hid hb2
  clear hS1 hb1 hb2
  go_wp2_with (go_at_call 114; refine (CD.out _).mono ?_; rintro e w2 ⟨rfl, hS2⟩; have hbR := hS2.heap HB2.out (fun h => h); obtain ⟨m0, m1, m2, m3⟩ := pair_facts2 hbR; have HBR := Lib.hid hbR; clear hbR)
  refine bodyPost_ret (results_ct2 rfl _ _ _ _ _ _ _ rfl (pair_set2 HBR.out _ _) Try.underlying132 rfl (by kernel_rfl)) rfl ?_
  exact ⟨rfl, (HS1.out.then hS2).put2 (fun h => absurd h (by simp)) _ _⟩

theorem add64_run (x y c : Nat) (hx : x < 18446744073709551616) (hy : y < 18446744073709551616) (hc : c ≤ 1) (w : World) :
    (callFunc 112 #[.int .u64 x, .int .u64 y, .int .u64 c]).run Try.prog w =
      .ok (.value (.tuple #[.int .u64 (((x + y + c) % 18446744073709551616 : Nat) : Int), .int .u64 (((x + y + c) / 18446744073709551616 : Nat) : Int)])) w := by
  rw [run_callFunc_extern Try.func112 (by kernel_rfl) (by kernel_rfl) (by kernel_rfl) (e := add64Entry) (by kernel_rfl), run_add64 x y c (by omega) (by omega) (by omega) (by omega)]
  simp only [Result.andThen]
  congr 5 <;> omega
theorem sub64_run (x y b : Nat) (hb : b ≤ 1) (w : World) :
    (callFunc 113 #[.int .u64 x, .int .u64 y, .int .u64 b]).run Try.prog w =
      .ok (.value (.tuple #[.int .u64 (((x + 18446744073709551616 - y - b) % 18446744073709551616 : Nat) : Int), .int .u64 ((if x < y + b then 1 else 0 : Nat) : Int)])) w := by
  rw [run_callFunc_extern Try.func113 (by kernel_rfl) (by kernel_rfl) (by kernel_rfl) (e := sub64Entry) (by kernel_rfl), run_sub64 x y b hb]
  rfl
/-- Three results, the first one a struct. -/
theorem results_ctt {P : Program} {fn : Func} {p u v : Tmp} {ty : TypeId} (h : fn.results = #[.cell p ty, .tmp u, .tmp v]) (tmps : Array Value) (w : World) (g : Nat) (t : TypeId) (cs : Array Value) (fr : Nat × Nat) (d : TypeDesc)
    (hp : tmps.getD p undef = .pointer (some ⟨g, 0, none⟩)) (hg : w.heap[g]? = some (.cells cs t fr))
    (hu : P.underlying ty = some d) (hd : (match d with | .struct _ | .array _ _ => true | _ => false) = true) (hi : (P.info? ty).map (·.size) = some cs.size) :
    (results fn tmps).run P w = .ok (.tuple #[.agg cs, tmps.getD u undef, tmps.getD v undef]) w := by
  have hp' : tmps[p]?.getD undef = .pointer (some ⟨g, 0, none⟩) := by simpa using hp
  simp [results, h, hp', asAddr, run_loadVar_row w g t ty cs fr d hg hu hd hi, Result.andThen]
theorem sum_words (X Y : Nat) (h : X + Y < 18446744073709551616 * 18446744073709551616) :
    (X % 18446744073709551616 + Y % 18446744073709551616 + 0) % 18446744073709551616 = (X + Y) % 18446744073709551616 ∧
      (X / 18446744073709551616 + Y / 18446744073709551616 + (X % 18446744073709551616 + Y % 18446744073709551616 + 0) / 18446744073709551616) % 18446744073709551616 = (X + Y) / 18446744073709551616 ∧
      (X / 18446744073709551616 + Y / 18446744073709551616 + (X % 18446744073709551616 + Y % 18446744073709551616 + 0) / 18446744073709551616) / 18446744073709551616 = 0 := by omega
theorem diff_words (X Y : Nat) (h : Y ≤ X) (hX : X < 18446744073709551616 * 18446744073709551616) :
    (X % 18446744073709551616 + 18446744073709551616 - Y % 18446744073709551616 - 0) % 18446744073709551616 = (X - Y) % 18446744073709551616 ∧
      (X / 18446744073709551616 + 18446744073709551616 - Y / 18446744073709551616 - (if X % 18446744073709551616 < Y % 18446744073709551616 + 0 then 1 else 0)) % 18446744073709551616 = (X - Y) / 18446744073709551616 := by
  split <;> omega
set_option maxRecDepth 100000 in
set_option maxHeartbeats 1000000 in
theorem both_same (X Y : Nat) (m : Bool) (w : World) (h : X + Y < 18446744073709551616 * 18446744073709551616) :
    Calls Try.prog 90 #[prodV X, .bool m, prodV Y, .bool m] w fun e w' => e = .returned (.tuple #[prodV (X + Y), .bool m, .bool true]) ∧ Same w w' := by
  obtain ⟨o1, o2, o3⟩ := sum_words X Y h
  have hx1 : X / 18446744073709551616 < 18446744073709551616 := by omega
  have hx2 : X % 18446744073709551616 < 18446744073709551616 := by omega
  have hy1 : Y / 18446744073709551616 < 18446744073709551616 := by omega
  have hy2 : Y % 18446744073709551616 < 18446744073709551616 := by omega
  have hc : (X % 18446744073709551616 + Y % 18446744073709551616 + 0) / 18446744073709551616 ≤ 1 := by omega
  have a1 := fun w0 => add64_run (X % 18446744073709551616) (Y % 18446744073709551616) 0 hx2 hy2 (by omega) w0
  have a2 := fun w0 => add64_run (X / 18446744073709551616) (Y / 18446744073709551616) _ hx1 hy1 hc w0
  rw [o1] at a1
  rw [o2, o3] at a2
  unfold prodV
  clear o1 o2 o3 h hx1 hx2 hy1 hy2 hc
  generalize (X % 18446744073709551616 + Y % 18446744073709551616 + 0) / 18446744073709551616 = c at *
  generalize (X + Y) % 18446744073709551616 = zl at *
  generalize (X + Y) / 18446744073709551616 = zh at *
  generalize X / 18446744073709551616 = xh at *
  generalize X % 18446744073709551616 = xl at *
  generalize Y / 18446744073709551616 = yh at *
  generalize Y % 18446744073709551616 = yl at *
  simp only [show ((0 : Nat) : Int) = 0 from rfl] at a1 a2
  have hmm : (m == m) = true := by simp
  have hb := blk3 w (.cells #[.int .u64 xh, .int .u64 xl] 132) (.cells #[.int .u64 yh, .int .u64 yl] 132) (.cells #[.int .u64 0, .int .u64 0] 132)
  obtain ⟨k0, k1, k2, k3⟩ := pair_facts2 hb.1
  obtain ⟨l0, l1, l2, l3⟩ := pair_facts2 hb.2.1
  obtain ⟨r0, r1, r2, r3⟩ := pair_facts2 hb.2.2
  have HB := Lib.hid hb
  clear hb
  go_enter Try.func90, Try.ntmps90
  go_wp2
  refine bodyPost_ret (results_ctt rfl _ _ _ _ _ _ _ rfl (blk3 w _ _ _).2.2 Try.underlying132 rfl (by kernel_rfl)) rfl ?_
  exact ⟨rfl, (((Only.refl _ w).alloc _).alloc _).alloc _⟩
set_option maxRecDepth 100000 in
set_option maxHeartbeats 1000000 in
theorem both_diff (X Y : Nat) (m : Bool) (w : World) (hX : X < 18446744073709551616 * 18446744073709551616) (hY : Y < 18446744073709551616 * 18446744073709551616) :
    Calls Try.prog 90 #[prodV X, .bool m, prodV Y, .bool (!m)] w fun e w' => e = .returned (.tuple #[prodV (if X < Y then Y - X else X - Y), .bool (if X < Y then !m else m), .bool true]) ∧ Same w w' := by
  by_cases hlt : X < Y
  · rw [if_pos hlt, if_pos hlt]
    obtain ⟨o1, o2⟩ := diff_words Y X (by omega) hY
    have hx : X = X / 18446744073709551616 * 18446744073709551616 + X % 18446744073709551616 := by omega
    have hy : Y = Y / 18446744073709551616 * 18446744073709551616 + Y % 18446744073709551616 := by omega
    have hcmp : X / 18446744073709551616 < Y / 18446744073709551616 ∨ (X / 18446744073709551616 = Y / 18446744073709551616 ∧ X % 18446744073709551616 < Y % 18446744073709551616) := by omega
    have a1 := fun w0 => sub64_run (Y % 18446744073709551616) (X % 18446744073709551616) 0 (by omega) w0
    have a2 := fun w0 => sub64_run (Y / 18446744073709551616) (X / 18446744073709551616) (if Y % 18446744073709551616 < X % 18446744073709551616 + 0 then 1 else 0) (by split <;> omega) w0
    rw [o1] at a1
    rw [o2] at a2
    unfold prodV
    clear o1 o2 hx hy hX hY hlt
    generalize (if Y % 18446744073709551616 < X % 18446744073709551616 + 0 then 1 else 0) = c at *
    generalize (if Y / 18446744073709551616 < X / 18446744073709551616 + c then 1 else 0) = c2 at *
    generalize (Y - X) % 18446744073709551616 = zl at *
    generalize (Y - X) / 18446744073709551616 = zh at *
    generalize X / 18446744073709551616 = xh at *
    generalize X % 18446744073709551616 = xl at *
    generalize Y / 18446744073709551616 = yh at *
    generalize Y % 18446744073709551616 = yl at *
    simp only [show ((0 : Nat) : Int) = 0 from rfl] at a1 a2
    have hmm : (m == !m) = false := by cases m <;> rfl
    have hb := blk3 w (.cells #[.int .u64 xh, .int .u64 xl] 132) (.cells #[.int .u64 yh, .int .u64 yl] 132) (.cells #[.int .u64 0, .int .u64 0] 132)
    obtain ⟨k0, k1, k2, k3⟩ := pair_facts2 hb.1
    obtain ⟨l0, l1, l2, l3⟩ := pair_facts2 hb.2.1
    obtain ⟨r0, r1, r2, r3⟩ := pair_facts2 hb.2.2
    have HB := Lib.hid hb
    clear hb
    rcases hcmp with hc | ⟨hc, hd⟩
    · have hI : (xh : Int) < (yh : Int) := by omega
      go_enter Try.func90, Try.ntmps90
      go_wp2
      refine bodyPost_ret (results_ctt rfl _ _ _ _ _ _ _ rfl (blk3 w _ _ _).2.2 Try.underlying132 rfl (by kernel_rfl)) rfl ?_
      exact ⟨rfl, (((Only.refl _ w).alloc _).alloc _).alloc _⟩
    · subst hc
      have hI : (xl : Int) < (yl : Int) := by omega
      go_enter Try.func90, Try.ntmps90
      go_wp2
      refine bodyPost_ret (results_ctt rfl _ _ _ _ _ _ _ rfl (blk3 w _ _ _).2.2 Try.underlying132 rfl (by kernel_rfl)) rfl ?_
      exact ⟨rfl, (((Only.refl _ w).alloc _).alloc _).alloc _⟩
  · rw [if_neg hlt, if_neg hlt]
    obtain ⟨o1, o2⟩ := diff_words X Y (by omega) hX
    have hcmp : Y / 18446744073709551616 < X / 18446744073709551616 ∨ (X / 18446744073709551616 = Y / 18446744073709551616 ∧ Y % 18446744073709551616 ≤ X % 18446744073709551616) := by omega
    have a1 := fun w0 => sub64_run (X % 18446744073709551616) (Y % 18446744073709551616) 0 (by omega) w0
    have a2 := fun w0 => sub64_run (X / 18446744073709551616) (Y / 18446744073709551616) (if X % 18446744073709551616 < Y % 18446744073709551616 + 0 then 1 else 0) (by split <;> omega) w0
    rw [o1] at a1
    rw [o2] at a2
    unfold prodV
    clear o1 o2 hX hY hlt
    generalize (if X % 18446744073709551616 < Y % 18446744073709551616 + 0 then 1 else 0) = c at *
    generalize (if X / 18446744073709551616 < Y / 18446744073709551616 + c then 1 else 0) = c2 at *
    generalize (X - Y) % 18446744073709551616 = zl at *
    generalize (X - Y) / 18446744073709551616 = zh at *
    generalize X / 18446744073709551616 = xh at *
    generalize X % 18446744073709551616 = xl at *
    generalize Y / 18446744073709551616 = yh at *
    generalize Y % 18446744073709551616 = yl at *
    simp only [show ((0 : Nat) : Int) = 0 from rfl] at a1 a2
    have hmm : (m == !m) = false := by cases m <;> rfl
    have hb := blk3 w (.cells #[.int .u64 xh, .int .u64 xl] 132) (.cells #[.int .u64 yh, .int .u64 yl] 132) (.cells #[.int .u64 0, .int .u64 0] 132)
    obtain ⟨k0, k1, k2, k3⟩ := pair_facts2 hb.1
    obtain ⟨l0, l1, l2, l3⟩ := pair_facts2 hb.2.1
    obtain ⟨r0, r1, r2, r3⟩ := pair_facts2 hb.2.2
    clear hb
    rcases hcmp with hc | ⟨hc, hd⟩
    · have hI : (yh : Int) < (xh : Int) := by omega
      have hI2 : ((xh : Int) == (yh : Int)) = false := by simp; omega
      have hI3 : decide (xh < yh) = false := decide_eq_false (by omega)
      go_enter Try.func90, Try.ntmps90
      go_wp2
      refine bodyPost_ret (results_ctt rfl _ _ _ _ _ _ _ rfl (blk3 w _ _ _).2.2 Try.underlying132 rfl (by kernel_rfl)) rfl ?_
      exact ⟨rfl, (((Only.refl _ w).alloc _).alloc _).alloc _⟩
    · subst hc
      have hI : decide ((xl : Int) < (yl : Int)) = false := decide_eq_false (by omega)
      have hI3 : decide (xl < yl) = false := decide_eq_false (by omega)
      go_enter Try.func90, Try.ntmps90
      go_wp2
      refine bodyPost_ret (results_ctt rfl _ _ _ _ _ _ _ rfl (blk3 w _ _ _).2.2 Try.underlying132 rfl (by kernel_rfl)) rfl ?_
      exact ⟨rfl, (((Only.refl _ w).alloc _).alloc _).alloc _⟩
end Go.Proofs.Ytpgbnjneoejebaa
