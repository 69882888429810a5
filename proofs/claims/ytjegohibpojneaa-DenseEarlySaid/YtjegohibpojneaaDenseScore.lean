import Derived.Test.YtjegohibpojneaaDenseFns
set_option linter.unusedVariables false
set_option linter.unusedSimpArgs false
namespace Go.Proofs.Ytjegohibpojneaa
open Go.RowKit
attribute [local go_sem ↓] Go.wp_at_zero Go.wp_at_succ

def brP (m x y : Int) : Int := if m = 0 then x * y else -(x - y) * (x - y)
def scS (m : Int) (a b : List Int) : Nat → Int
  | 0 => 0
  | n + 1 => scS m a b n + brP m (a.getD n 0) (b.getD n 0)
def scoreP (m : Int) (a b : List Int) : Int × Int := if m < 0 ∨ 1 < m then (0, 1) else if (vecB a && vecB b) = false then (0, 2) else (scS m a b 8, 0)
theorem br_range (m x y : Int) (hx : -127 ≤ x ∧ x ≤ 127) (hy : -127 ≤ y ∧ y ≤ 127) : -100000 ≤ brP m x y ∧ brP m x y ≤ 100000 := by
  unfold brP
  split
  · have h1 : (127 - x) * (127 - y) ≥ 0 := Int.mul_nonneg (by omega) (by omega)
    have h2 : (127 + x) * (127 + y) ≥ 0 := Int.mul_nonneg (by omega) (by omega)
    have h3 : (127 - x) * (127 + y) ≥ 0 := Int.mul_nonneg (by omega) (by omega)
    have h4 : (127 + x) * (127 - y) ≥ 0 := Int.mul_nonneg (by omega) (by omega)
    simp only [Int.sub_mul, Int.mul_sub, Int.add_mul, Int.mul_add] at h1 h2 h3 h4
    omega
  · obtain ⟨d, hd⟩ : ∃ d, d = x - y := ⟨_, rfl⟩
    rw [← hd]
    have h1 : (254 - d) * (254 + d) ≥ 0 := Int.mul_nonneg (by omega) (by omega)
    have h2 : d * d ≥ 0 := by
      rcases Int.le_total 0 d with h | h
      · exact Int.mul_nonneg h h
      · have := Int.mul_nonneg (show (0:Int) ≤ -d by omega) (show (0:Int) ≤ -d by omega)
        rwa [Int.neg_mul_neg] at this
    simp only [Int.sub_mul, Int.mul_sub, Int.add_mul, Int.mul_add, Int.neg_mul] at h1 ⊢
    omega
theorem sc_range (m : Int) (a b : List Int) (ha : ∀ x ∈ a, -127 ≤ x ∧ x ≤ 127) (hb : ∀ x ∈ b, -127 ≤ x ∧ x ≤ 127) : ∀ n : Nat, -100000 * (n : Int) ≤ scS m a b n ∧ scS m a b n ≤ 100000 * (n : Int)
  | 0 => by simp [scS]
  | n + 1 => by
    have h := sc_range m a b ha hb n
    have hx : ∀ (l : List Int), (∀ x ∈ l, -127 ≤ x ∧ x ≤ 127) → -127 ≤ l.getD n 0 ∧ l.getD n 0 ≤ 127 := fun l hl => by
      rw [List.getD_eq_getElem?_getD]
      cases e : l[n]? with
      | none => simp
      | some x => exact hl x (List.mem_of_getElem? e)
    have h2 := br_range m _ _ (hx a ha) (hx b hb)
    simp only [scS]
    omega
theorem vecB_facts {l : List Int} (h : vecB l = true) : l.length = 8 ∧ ∀ x ∈ l, -127 ≤ x ∧ x ≤ 127 := by
  unfold vecB at h
  simp at h
  exact ⟨h.1, fun x hx => h.2 x hx⟩
theorem scS_eq (m : Int) (a b : List Int) (k : Nat) (h1 : k < a.length) (h2 : k < b.length) : scS m a b (k + 1) = scS m a b k + brP m a[k] b[k] := by
  simp only [scS]
  rw [List.getD_eq_getElem?_getD, List.getD_eq_getElem?_getD, List.getElem?_eq_getElem h1, List.getElem?_eq_getElem h2]
  rfl
theorem enters_b0 (args : Array Value) (w : World) : (callFunc 157 args).run Try.prog w = .ok (.enter 157 args) w := by kernel_rfl
theorem enters_b1 (args : Array Value) (w : World) : (callFunc 160 args).run Try.prog w = .ok (.enter 160 args) w := by kernel_rfl
theorem mix0 (w : World) : (Instr.index 202 (.agg #[.func (.func 157) #[] #[], .func (.func 158) #[] #[], .func (.func 160) #[] #[], .func (.func 161) #[] #[]]) (.int .i64 0)).run Try.prog w = .ok (.agg #[.func (.func 157) #[] #[], .func (.func 158) #[] #[]]) w := by kernel_rfl
theorem mix1 (w : World) : (Instr.index 202 (.agg #[.func (.func 157) #[] #[], .func (.func 158) #[] #[], .func (.func 160) #[] #[], .func (.func 161) #[] #[]]) (.int .i64 1)).run Try.prog w = .ok (.agg #[.func (.func 160) #[] #[], .func (.func 161) #[] #[]]) w := by kernel_rfl
theorem mfld0 (w : World) : (Instr.field 201 (.agg #[.func (.func 157) #[] #[], .func (.func 158) #[] #[]]) 0).run Try.prog w = .ok (.func (.func 157) #[] #[]) w := by kernel_rfl
theorem mfld1 (w : World) : (Instr.field 201 (.agg #[.func (.func 160) #[] #[], .func (.func 161) #[] #[]]) 0).run Try.prog w = .ok (.func (.func 160) #[] #[]) w := by kernel_rfl
set_option maxRecDepth 100000 in
set_option maxHeartbeats 8000000 in
/-- Score of any two vectors. -/
theorem dscore_any (m : Int) (va vb : Value) (a b : List Int) (w : World) (ha : Sl w (.int .i64) va a) (hb : Sl w (.int .i64) vb b) (hla : ∀ x ∈ a, i64b x) (hlb : ∀ x ∈ b, i64b x) :
    Calls Try.prog 71 #[.int .i64 m, va, vb] w fun e w' => e = .returned (.tuple #[.int .i64 (scoreP m a b).1, .int .i64 (scoreP m a b).2]) ∧ Same w w' := by
  by_cases h0 : m < 0
  · have hs : scoreP m a b = (0, 1) := by unfold scoreP; rw [if_pos (.inl h0)]
    rw [hs]
    have hd : decide (m < 0) = true := decide_eq_true h0
    go_enter Try.func71, Try.ntmps71
    go_wp2_with fail
    go_ret2
    exact ⟨rfl, Only.refl _ _⟩
  by_cases h1 : 1 < m
  · have hs : scoreP m a b = (0, 1) := by unfold scoreP; rw [if_pos (.inr h1)]
    rw [hs]
    have hd : decide (m < 0) = false := decide_eq_false h0
    have hd2 : decide (1 < m) = true := decide_eq_true h1
    go_enter Try.func71, Try.ntmps71
    go_wp2_with fail
    go_ret2
    exact ⟨rfl, Only.refl _ _⟩
  have ca := fun w0 (h : Same w w0) => dright_any va a w0 (ha.same h) hla
  have cb := fun w0 (h : Same w w0) => dright_any vb b w0 (hb.same h) hlb
  have HA := Lib.hid ha; have HB := Lib.hid hb
  obtain ⟨a1, c1, rfl, hc1, hm1, _, _⟩ := ha
  obtain ⟨a2, c2, rfl, hc2, hm2, _, _⟩ := hb
  unfold maxLen at hm1 hm2
  have hd : decide (m < 0) = false := decide_eq_false h0
  have hd2 : decide (1 < m) = false := decide_eq_false h1
  cases va : vecB a with
  | false =>
    have hs : scoreP m a b = (0, 2) := by unfold scoreP; rw [if_neg (by omega), va]; rfl
    rw [hs]
    rw [va] at ca
    have CA := Lib.hid ca
    clear ca cb va hs
    go_enter Try.func71, Try.ntmps71
    go_wp2_with fail
    refine (CA.out _ (Only.refl _ _)).mono ?_
    rintro e w1 ⟨rfl, hS1⟩
    go_wp2_with fail
    go_ret2
    exact ⟨rfl, hS1⟩
  | true =>
  rw [va] at ca
  cases vb : vecB b with
  | false =>
    have hs : scoreP m a b = (0, 2) := by unfold scoreP; rw [if_neg (by omega), va, vb]; rfl
    rw [hs]
    rw [vb] at cb
    have CA := Lib.hid ca; have CB := Lib.hid cb
    clear ca cb va vb hs
    go_enter Try.func71, Try.ntmps71
    go_wp2_with fail
    refine (CA.out _ (Only.refl _ _)).mono ?_
    rintro e w1 ⟨rfl, hS1⟩
    go_wp2_with fail
    refine (CB.out _ hS1).mono ?_
    rintro e w2 ⟨rfl, hS2⟩
    go_wp2_with fail
    go_ret2
    exact ⟨rfl, hS1.then hS2⟩
  | true =>
  rw [vb] at cb
  have hs : scoreP m a b = (scS m a b 8, 0) := by unfold scoreP; rw [if_neg (by omega), va, vb]; rfl
  rw [hs]
  obtain ⟨hl1, hr1⟩ := vecB_facts va
  obtain ⟨hl2, hr2⟩ := vecB_facts vb
  have CA := Lib.hid ca; have CB := Lib.hid cb
  have HR := Lib.hid (sc_range m a b hr1 hr2)
  have HR1 := Lib.hid hr1; have HR2 := Lib.hid hr2; have HL1 := Lib.hid hl1; have HL2 := Lib.hid hl2
  clear ca cb va vb hs hr1 hr2
  have hm01 : m = 0 ∨ m = 1 := by omega
  rw [hl1, hl2]
  rw [hl1] at CA HA hc1
  rw [hl2] at CB HB hc2
  clear hl1 hl2 h0 h1
  go_enter Try.func71, Try.ntmps71
  go_wp2_with fail
  refine (CA.out _ (Only.refl _ _)).mono ?_
  rintro e w1 ⟨rfl, hS1⟩
  have HS1 := Lib.hid hS1
  clear hS1 CA
  go_wp2_with fail
  refine (CB.out _ HS1.out).mono ?_
  rintro e w2 ⟨rfl, hS2⟩
  have HS2 := Lib.hid (HS1.out.then hS2)
  clear hS2 CB HS1
  go_wp2_with fail
  go_loopw [8, 28] (fun n i wr => ∃ k : Nat, k ≤ 8 ∧ i = .int .i64 k ∧ n = .int .i64 (scS m a b k) ∧ Same w wr) (fun _ i _ => 8 - (intOf i).toNat)
  case atStart => exact ⟨0, by omega, rfl, rfl, HS2.out⟩
  case round =>
    obtain ⟨k, hk, rfl, rfl, hS⟩ := hrel
    obtain ⟨w3, hw3⟩ : ∃ x, x = wr := ⟨_, rfl⟩
    subst hw3
    have HS := Lib.hid hS
    clear hS
    by_cases hlt : k < 8
    · have hd8 : decide ((k : Int) < 8) = true := decide_eq_true (by omega)
      have hd9 : decide (k < 8) = true := decide_eq_true hlt
      have hsa := HA.out.same HS.out
      have hsb := HB.out.same HS.out
      obtain ⟨b1, o1, rfl, hca⟩ := hsa.spot (by have := HL1.out; omega)
      obtain ⟨b2, o2, rfl, hcb⟩ := hsb.spot (by have := HL2.out; omega)
      have hka : k < a.length := by have := HL1.out; omega
      have hkb : k < b.length := by have := HL2.out; omega
      have k1 := hca k hka
      have k2 := hcb k hkb
      have hx := HR1.out a[k] (List.getElem_mem hka)
      have hy := HR2.out b[k] (List.getElem_mem hkb)
      have hse := scS_eq m a b k hka hkb
      have hrg := HR.out k
      generalize a[k] = x at *
      generalize b[k] = y at *
      have HSE := Lib.hid hse
      have q0 : Same w3 w3 := Only.refl _ _
      have hkI : (k : Int) < 8 := by omega
      have hx0 := mix0
      have hx1 := mix1
      have hf0 := mfld0
      have hf1 := mfld1
      have hKK : ∀ w', Same w3 w' → (w'.cell? ⟨b1, o1 + k, none⟩ = some (.int .i64 x) ∧ w'.cell? ⟨b2, o2 + k, none⟩ = some (.int .i64 y)) := fun w' h => ⟨h.cell_eq k1 (fun h => h), h.cell_eq k2 (fun h => h)⟩
      have HK := Lib.hid hKK
      have hbr := br_range m x y hx hy
      generalize scS m a b k = n at *
      generalize hv : brP m x y = v at *
      have HV := Lib.hid hv
      have hw5 : IntKind.i64.wrap (n + v) = n + v := wrapS (by omega)
      have hw6 : IntKind.i64.wrap ((k : Int) + 1) = (k : Int) + 1 := wrapS (by omega)
      clear hsa hsb hca hcb hse hKK hka hkb k1 k2 hd hd2 hv
      rcases hm01 with rfl | rfl
      · have hv0 : v = x * y := HV.out.symm
        have hxy : -9223372036854775808 ≤ x * y ∧ x * y ≤ 9223372036854775807 := by rw [← hv0]; omega
        have cbr := fun w0 => (show Calls Try.prog 157 #[.int .i64 x, .int .i64 y] w0 fun e w' => e = .returned (.int .i64 v) ∧ w' = w0 by rw [hv0]; exact brings0_any x y w0 hxy)
        have CBR := Lib.hid cbr
        clear cbr hv0 hxy
        go_upto_region 9 with fail
        go_region_held3 (fun w' => w'.cell? ⟨b1, o1 + k, none⟩ = some (.int .i64 x) ∧ w'.cell? ⟨b2, o2 + k, none⟩ = some (.int .i64 y))
          (first | exact HK.out _ q0 | exact HK.out _ q0.drew)
          (first
            | ((go_at_call 125; refine (measures_any _).mono ?_; rintro e w8 ⟨rfl, hS8⟩; have q0 := Only.then (by first | exact q0 | exact q0.drew) hS8; clear hS8))
            | ((go_at_call 157; refine (CBR.out _).mono ?_; rintro e w9 ⟨rfl, rfl⟩)))
        all_goals
          go_wp2_with fail
          go_roundw
          case rel => exact ⟨k + 1, by omega, by go_num, by rw [HSE.out], by first | exact HS.out.then q0 | exact HS.out.then q0.drew⟩
          case measure => simp [intOf]; omega
      · have hv0 : v = -(x - y) * (x - y) := HV.out.symm
        have hxy : -9223372036854775808 ≤ -(x - y) * (x - y) ∧ -(x - y) * (x - y) ≤ 9223372036854775807 := by rw [← hv0]; omega
        have cbr := fun w0 => (show Calls Try.prog 160 #[.int .i64 x, .int .i64 y] w0 fun e w' => e = .returned (.int .i64 v) ∧ w' = w0 by rw [hv0]; exact brings1_any x y w0 (by omega) hxy)
        have CBR := Lib.hid cbr
        clear cbr hv0 hxy
        go_upto_region 9 with fail
        go_region_held3 (fun w' => w'.cell? ⟨b1, o1 + k, none⟩ = some (.int .i64 x) ∧ w'.cell? ⟨b2, o2 + k, none⟩ = some (.int .i64 y))
          (first | exact HK.out _ q0 | exact HK.out _ q0.drew)
          (first
            | ((go_at_call 125; refine (measures_any _).mono ?_; rintro e w8 ⟨rfl, hS8⟩; have q0 := Only.then (by first | exact q0 | exact q0.drew) hS8; clear hS8))
            | ((go_at_call 160; refine (CBR.out _).mono ?_; rintro e w9 ⟨rfl, rfl⟩)))
        all_goals
          go_wp2_with fail
          go_roundw
          case rel => exact ⟨k + 1, by omega, by go_num, by rw [HSE.out], by first | exact HS.out.then q0 | exact HS.out.then q0.drew⟩
          case measure => simp [intOf]; omega
    · obtain rfl : k = 8 := by omega
      go_wp2_with fail
      go_ret2
      exact ⟨rfl, HS.out⟩
end Go.Proofs.Ytjegohibpojneaa
