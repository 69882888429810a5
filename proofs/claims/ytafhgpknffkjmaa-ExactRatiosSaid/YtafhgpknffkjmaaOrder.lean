import Derived.Test.YtafhgpknffkjmaaLow
import Derived.Test.YtafhgpknffkjmaaExAwake
set_option linter.unusedVariables false
set_option linter.unusedSimpArgs false
namespace Go.Proofs.Ytafhgpknffkjmaa
open Go.RowKit

def cmpS (an : Int) (a : Nat) (bn : Int) (b : Nat) : Int := (an * b - bn * a).sign
theorem compare_s (an bn : Int) (a b : Nat) (w : World) (ha : i64in an) (hd : i64in a) (hb : i64in bn) (hbd : i64in b) (h1 : RatOk an a) (h2 : RatOk bn b) :
    Calls Try.prog 61 #[rat an a, rat bn b] w fun e w' => e = .returned (.int .i64 (cmpS an a bn b)) ∧ Same w w' := rcompare_any an bn a b w ha hd hb hbd h1 h2
theorem cmpS_turn (an bn : Int) (a b : Nat) : cmpS bn b an a = -cmpS an a bn b := by
  unfold cmpS; rw [← Int.sign_neg, Int.neg_sub]
theorem cmpS_same (an : Int) (a : Nat) : cmpS an a an a = 0 := by
  unfold cmpS; rw [Int.sub_self]; rfl
theorem cmpS_cases (an bn : Int) (a b : Nat) (h1 : RatOk an a) (h2 : RatOk bn b) : (cmpS an a bn b = 0 ∧ an = bn ∧ a = b) ∨ (cmpS an a bn b = 1 ∧ ¬ (an = bn ∧ a = b)) ∨ (cmpS an a bn b = -1 ∧ ¬ (an = bn ∧ a = b) ∧ an * b < bn * a) := by
  have hz : (an = bn ∧ a = b) → an * b - bn * a = 0 := by rintro ⟨rfl, rfl⟩; exact Int.sub_self _
  unfold cmpS
  rcases Int.lt_trichotomy (an * b - bn * a) 0 with h | h | h
  · exact .inr (.inr ⟨Int.sign_eq_neg_one_of_neg h, fun h' => by have := hz h'; omega, by omega⟩)
  · exact .inl ⟨by rw [h]; rfl, ratio_eq an bn a b h1 h2 (by omega)⟩
  · exact .inr (.inl ⟨Int.sign_eq_one_of_pos h, fun h' => by have := hz h'; omega⟩)
theorem cmpS_lt (an bn : Int) (a b : Nat) (h : an * b < bn * a) : cmpS an a bn b = -1 := Int.sign_eq_neg_one_of_neg (by omega)
/-- The six numbers of three rationals, where they lie. -/
def Three (w : World) (base : Nat) (an bn cn : Int) (a b c : Nat) : Prop :=
  w.heap[base]? = some (.cells #[.int .i64 an, .int .i64 a] 83 (0, 0)) ∧ w.heap[base + 1]? = some (.cells #[.int .i64 bn, .int .i64 b] 83 (0, 0)) ∧ w.heap[base + 2]? = some (.cells #[.int .i64 cn, .int .i64 c] 83 (0, 0))
theorem Three.same {w w' : World} {base : Nat} {an bn cn : Int} {a b c : Nat} (h : Three w base an bn cn a b c) (hS : Same w w') : Three w' base an bn cn a b c :=
  ⟨hS.heap h.1 (fun h => h), hS.heap h.2.1 (fun h => h), hS.heap h.2.2 (fun h => h)⟩
theorem Three.cells {w : World} {base : Nat} {an bn cn : Int} {a b c : Nat} (h : Three w base an bn cn a b c) :
    (w.cell? ⟨base, 0, none⟩ = some (.int .i64 an) ∧ w.cell? ⟨base, 1, none⟩ = some (.int .i64 a)) ∧ (w.cell? ⟨base + 1, 0, none⟩ = some (.int .i64 bn) ∧ w.cell? ⟨base + 1, 1, none⟩ = some (.int .i64 b)) ∧ w.cell? ⟨base + 2, 0, none⟩ = some (.int .i64 cn) ∧ w.cell? ⟨base + 2, 1, none⟩ = some (.int .i64 c) := by
  obtain ⟨a0, a1, _, _⟩ := pair_facts2 h.1
  obtain ⟨b0, b1, _, _⟩ := pair_facts2 h.2.1
  obtain ⟨c0, c1, _, _⟩ := pair_facts2 h.2.2
  exact ⟨⟨a0, a1⟩, ⟨b0, b1⟩, c0, c1⟩
theorem Three.new (w : World) (an bn cn : Int) (a b c : Nat) : Three (((w.alloc (.cells #[.int .i64 an, .int .i64 a] 83)).alloc (.cells #[.int .i64 bn, .int .i64 b] 83)).alloc (.cells #[.int .i64 cn, .int .i64 c] 83)) w.heap.size an bn cn a b c := blk3 _ _ _ _

set_option maxRecDepth 100000 in
set_option maxHeartbeats 4000000 in
theorem order_walk (an bn cn : Int) (a b c : Nat) (w : World) (ha : i64in an) (hd : i64in a) (hb : i64in bn) (hbd : i64in b) (hc : i64in cn) (hcd : i64in c) (h1 : RatOk an a) (h2 : RatOk bn b) (h3 : RatOk cn c) :
    Calls Try.prog 10 #[rat an a, rat bn b, rat cn c] w fun e w' => e = .returned (.bool true) ∧ Same w w' := by
  have r1 := fun w0 => right_any an a w0 ha hd
  have r2 := fun w0 => right_any bn b w0 hb hbd
  have r3 := fun w0 => right_any cn c w0 hc hcd
  rw [decide_eq_true h1] at r1
  rw [decide_eq_true h2] at r2
  rw [decide_eq_true h3] at r3
  have R1 := Lib.hid r1; have R2 := Lib.hid r2; have R3 := Lib.hid r3
  clear r1 r2 r3
  have hT := Three.new w an bn cn a b c
  have hS0 : Same w (((w.alloc (.cells #[.int .i64 an, .int .i64 a] 83)).alloc (.cells #[.int .i64 bn, .int .i64 b] 83)).alloc (.cells #[.int .i64 cn, .int .i64 c] 83)) := (((Only.refl _ w).alloc _).alloc _).alloc _
  go_enter Try.func10, Try.ntmps10
  go_upto_region 1 with fail
  generalize ((w.alloc (.cells #[.int .i64 an, .int .i64 a] 83)).alloc (.cells #[.int .i64 bn, .int .i64 b] 83)).alloc (.cells #[.int .i64 cn, .int .i64 c] 83) = W0 at *
  have HS0 := Lib.hid hS0
  clear hS0
  go_wp2_with fail
  refine (awake3_any _).mono ?_
  rintro e w1 ⟨rfl, hS1⟩
  replace hT := hT.same hS1
  have HT1 := Lib.hid hT
  obtain ⟨⟨a0, a1⟩, ⟨b0, b1⟩, d0, d1⟩ := hT.cells
  clear hT
  go_wp2_with fail
  refine (R1.out _).mono ?_
  rintro e w2 ⟨rfl, hS2⟩
  clear a0 a1 b0 b1 d0 d1
  have hT := HT1.out.same hS2
  have HT2 := Lib.hid hT
  obtain ⟨⟨a0, a1⟩, ⟨b0, b1⟩, d0, d1⟩ := hT.cells
  clear hT
  go_wp2_with fail
  refine (R2.out _).mono ?_
  rintro e w3 ⟨rfl, hS3⟩
  clear a0 a1 b0 b1 d0 d1
  have hT := HT2.out.same hS3
  have HT3 := Lib.hid hT
  obtain ⟨⟨a0, a1⟩, ⟨b0, b1⟩, d0, d1⟩ := hT.cells
  clear hT
  go_wp2_with fail
  refine (R3.out _).mono ?_
  rintro e w4 ⟨rfl, hS4⟩
  clear a0 a1 b0 b1 d0 d1
  have hT := HT3.out.same hS4
  have HT4 := Lib.hid hT
  have HS4 := Lib.hid ((((HS0.out.then hS1).then hS2).then hS3).then hS4)
  clear HT1 HT2 HT3 HS0 hS1 hS2 hS3 hS4 hT R1 R2 R3
  go_wp2_with fail
  go_cut [7, 8, 9] from 16 (fun s7 s8 s9 wx => s7 = .int .i64 (cmpS an a bn b) ∧ s8 = .int .i64 (cmpS bn b cn c) ∧ s9 = .int .i64 (cmpS an a cn c) ∧ Same w4 wx)
  case first =>
    have q0 : Same w4 w4 := Only.refl _ _
    have hK : ∀ w', Same w4 w' → (Same w4 w' ∧ Three w' w.heap.size an bn cn a b c ∧ (w'.cell? ⟨w.heap.size, 0, none⟩ = some (.int .i64 an) ∧ w'.cell? ⟨w.heap.size, 1, none⟩ = some (.int .i64 a)) ∧ (w'.cell? ⟨w.heap.size + 1, 0, none⟩ = some (.int .i64 bn) ∧ w'.cell? ⟨w.heap.size + 1, 1, none⟩ = some (.int .i64 b)) ∧ w'.cell? ⟨w.heap.size + 2, 0, none⟩ = some (.int .i64 cn) ∧ w'.cell? ⟨w.heap.size + 2, 1, none⟩ = some (.int .i64 c)) := fun w' h => ⟨h, HT4.out.same h, (HT4.out.same h).cells⟩
    have HK := Lib.hid hK
    clear hK
    go_region_held3 (fun w' => Same w4 w' ∧ Three w' w.heap.size an bn cn a b c ∧ (w'.cell? ⟨w.heap.size, 0, none⟩ = some (.int .i64 an) ∧ w'.cell? ⟨w.heap.size, 1, none⟩ = some (.int .i64 a)) ∧ (w'.cell? ⟨w.heap.size + 1, 0, none⟩ = some (.int .i64 bn) ∧ w'.cell? ⟨w.heap.size + 1, 1, none⟩ = some (.int .i64 b)) ∧ w'.cell? ⟨w.heap.size + 2, 0, none⟩ = some (.int .i64 cn) ∧ w'.cell? ⟨w.heap.size + 2, 1, none⟩ = some (.int .i64 c))
      (first | exact HK.out _ q0 | exact HK.out _ q0.drew)
      (first | (go_at_call 61; refine (compare_s _ _ _ _ _ (by assumption) (by assumption) (by assumption) (by assumption) (by assumption) (by assumption)).mono ?_; rintro e w7 ⟨rfl, hS7⟩; have q0 := Only.then (by first | exact q0 | exact q0.drew) hS7))
    go_wp2_with fail
    go_meet
    case rel => exact ⟨rfl, rfl, rfl, by first | exact q0 | exact q0.drew⟩
  case rest =>
  obtain ⟨rfl, rfl, rfl, hSx⟩ := hcut
  obtain ⟨W5, hw5⟩ : ∃ x, x = wc := ⟨_, rfl⟩
  subst hw5
  have HT5 := Lib.hid (HT4.out.same hSx)
  have HS5 := Lib.hid (HS4.out.then hSx)
  clear HT4 HS4 hSx
  have hcs := cmpS_cases an bn a b h1 h2
  have htr : cmpS an a bn b = -1 → cmpS bn b cn c = -1 → cmpS an a cn c = -1 := by
    intro k1 k2
    rcases cmpS_cases bn cn b c h2 h3 with ⟨k, _⟩ | ⟨k, _⟩ | ⟨_, _, k3⟩
    · omega
    · omega
    rcases hcs with ⟨k, _⟩ | ⟨k, _⟩ | ⟨_, _, k4⟩
    · omega
    · omega
    have := cmp_trans an bn cn a b c (by have := h1.1; omega) (by have := h2.1; omega) (by have := h3.1; omega) k4 k3
    exact cmpS_lt _ _ _ _ this
  have HTURN := Lib.hid (cmpS_turn an bn a b)
  have hc2 := cmpS_cases bn cn b c h2 h3
  have cb := fun w0 => compare_s bn an b a w0 hb hbd ha hd h2 h1
  rw [cmpS_turn an bn a b] at cb
  have hx := fun xn yn (xd yd : Nat) => low_order an bn cn a b c (by have := h1.1; omega) (by have := h2.1; omega) (by have := h3.1; omega)
  have HAB : Hid ((an * b - bn * a).sign = cmpS an a bn b) := Lib.hid rfl
  have hsab : (cmpS an a bn b = 0 ∧ an = bn ∧ a = b) ∨ (cmpS an a bn b = 1 ∧ ¬ (an = bn ∧ a = b)) ∨ (cmpS an a bn b = -1 ∧ ¬ (an = bn ∧ a = b)) := by
    rcases hcs with h | h | h
    · exact .inl h
    · exact .inr (.inl h)
    · exact .inr (.inr ⟨h.1, h.2.1⟩)
  have hbc : -1 ≤ cmpS bn b cn c ∧ cmpS bn b cn c ≤ 1 := by rcases hc2 with h | h | h <;> have := h.1 <;> omega
  generalize cmpS an a bn b = sab at *
  generalize cmpS bn b cn c = sbc at *
  generalize cmpS an a cn c = sac at *
  have HSAB := Lib.hid hsab; have HTR := Lib.hid htr; have CB := Lib.hid cb
  clear hsab htr hcs hc2 hx cb
  go_upto_region 6 with fail
  go_cut [65] from 16 (fun s65 wx => s65 = .bool false ∧ Same W5 wx)
  case first =>
    obtain ⟨⟨a0, a1⟩, ⟨b0, b1⟩, d0, d1⟩ := HT5.out.cells
    rcases HSAB.out with ⟨rfl, rfl, rfl⟩ | ⟨rfl, hne⟩ | ⟨rfl, hne⟩
    · go_wp2_with fail
      refine (CB.out _).mono ?_
      rintro e w6 ⟨rfl, hS6⟩
      clear a0 a1 b0 b1 d0 d1
      have hT := HT5.out.same hS6
      obtain ⟨⟨a0, a1⟩, ⟨b0, b1⟩, d0, d1⟩ := hT.cells
      clear hT
      go_wp2_with fail
      go_meet
      case rel => exact ⟨rfl, hS6⟩
    · have HTRX : True := trivial
      by_cases h : an = bn
      · have hdf : ¬ (a : Int) = (b : Int) := fun hc => hne ⟨h, by omega⟩
        subst h
        clear hne
        go_wp2_with fail
        refine (CB.out _).mono ?_
        rintro e w6 ⟨rfl, hS6⟩
        clear a0 a1 b0 b1 d0 d1
        have hT := HT5.out.same hS6
        obtain ⟨⟨a0, a1⟩, ⟨b0, b1⟩, d0, d1⟩ := hT.cells
        clear hT
        go_wp2_with fail
        go_meet
        case rel => exact ⟨rfl, hS6⟩
      · clear hne
        go_wp2_with fail
        refine (CB.out _).mono ?_
        rintro e w6 ⟨rfl, hS6⟩
        clear a0 a1 b0 b1 d0 d1
        have hT := HT5.out.same hS6
        obtain ⟨⟨a0, a1⟩, ⟨b0, b1⟩, d0, d1⟩ := hT.cells
        clear hT
        go_wp2_with fail
        go_meet
        case rel => exact ⟨rfl, hS6⟩
    · by_cases hbl : sbc < 0
      · obtain rfl : sbc = -1 := by omega
        obtain rfl : sac = -1 := HTR.out rfl rfl
        by_cases h : an = bn
        · have hdf : ¬ (a : Int) = (b : Int) := fun hc => hne ⟨h, by omega⟩
          subst h
          clear hne
          go_wp2_with fail
          refine (CB.out _).mono ?_
          rintro e w6 ⟨rfl, hS6⟩
          clear a0 a1 b0 b1 d0 d1
          have hT := HT5.out.same hS6
          obtain ⟨⟨a0, a1⟩, ⟨b0, b1⟩, d0, d1⟩ := hT.cells
          clear hT
          go_wp2_with fail
          go_meet
          case rel => exact ⟨rfl, hS6⟩
        · clear hne
          go_wp2_with fail
          refine (CB.out _).mono ?_
          rintro e w6 ⟨rfl, hS6⟩
          clear a0 a1 b0 b1 d0 d1
          have hT := HT5.out.same hS6
          obtain ⟨⟨a0, a1⟩, ⟨b0, b1⟩, d0, d1⟩ := hT.cells
          clear hT
          go_wp2_with fail
          go_meet
          case rel => exact ⟨rfl, hS6⟩
      · have hbl2 : 0 ≤ sbc := by omega
        by_cases h : an = bn
        · have hdf : ¬ (a : Int) = (b : Int) := fun hc => hne ⟨h, by omega⟩
          subst h
          clear hne
          go_wp2_with fail
          refine (CB.out _).mono ?_
          rintro e w6 ⟨rfl, hS6⟩
          clear a0 a1 b0 b1 d0 d1
          have hT := HT5.out.same hS6
          obtain ⟨⟨a0, a1⟩, ⟨b0, b1⟩, d0, d1⟩ := hT.cells
          clear hT
          go_wp2_with fail
          go_meet
          case rel => exact ⟨rfl, hS6⟩
        · clear hne
          go_wp2_with fail
          refine (CB.out _).mono ?_
          rintro e w6 ⟨rfl, hS6⟩
          clear a0 a1 b0 b1 d0 d1
          have hT := HT5.out.same hS6
          obtain ⟨⟨a0, a1⟩, ⟨b0, b1⟩, d0, d1⟩ := hT.cells
          clear hT
          go_wp2_with fail
          go_meet
          case rel => exact ⟨rfl, hS6⟩
  case rest =>
  obtain ⟨rfl, hSx⟩ := hcut
  obtain ⟨W6, hw6⟩ : ∃ x, x = wc := ⟨_, rfl⟩
  subst hw6
  have HT6 := Lib.hid (HT5.out.same hSx)
  have HS6 := Lib.hid (HS5.out.then hSx)
  clear HT5 HS5 hSx CB HTR
  have pa : 0 < a := by have := h1.1; omega
  have pb : 0 < b := by have := h2.1; omega
  have pc : 0 < c := by have := h3.1; omega
  have hord := low_order an bn cn a b c pa pb pc
  rw [HAB.out] at hord
  obtain ⟨xn, xd, e1, hX⟩ := lowR_ex (an * c + cn * a) (a * c) (Nat.mul_pos pa pc)
  obtain ⟨yn, yd, e2, hY⟩ := lowR_ex (bn * c + cn * b) (b * c) (Nat.mul_pos pb pc)
  have hZ : LowR (cn * a + an * c) (c * a) xn xd e1 := by rw [Int.add_comm, Nat.mul_comm]; exact hX
  have cx := fun w0 => rsum_any an cn a c w0 ha hd hc hcd h1 h3 hX
  have cy := fun w0 => rsum_any bn cn b c w0 hb hbd hc hcd h2 h3 hY
  have cz := fun w0 => rsum_any cn an c a w0 hc hcd ha hd h3 h1 hZ
  have CX := Lib.hid cx; have CY := Lib.hid cy; have CZ := Lib.hid cz; have HX := Lib.hid hX; have HY := Lib.hid hY; have HORD := Lib.hid hord
  clear cx cy cz hX hY hZ hord
  obtain ⟨⟨a0, a1⟩, ⟨b0, b1⟩, d0, d1⟩ := HT6.out.cells
  go_wp2_with fail
  refine (CX.out _).mono ?_
  rintro e w7 ⟨rfl, hS7⟩
  clear a0 a1 b0 b1 d0 d1
  have hT := (HT6.out.same hS7).same ((Only.refl _ w7).alloc (.cells #[.int .i64 xn, .int .i64 xd] 83))
  have HT7 := Lib.hid hT
  have HS7 := Lib.hid ((HS6.out.then hS7).alloc (.cells #[.int .i64 xn, .int .i64 xd] 83))
  have HB7 := Lib.hid (blk_new w7 (.cells #[.int .i64 xn, .int .i64 xd] 83))
  obtain ⟨⟨a0, a1⟩, ⟨b0, b1⟩, d0, d1⟩ := hT.cells
  clear hT hS7
  go_wp2_with fail
  refine (CY.out _).mono ?_
  rintro e w8 ⟨rfl, hS8⟩
  clear a0 a1 b0 b1 d0 d1
  have hT := (HT7.out.same hS8).same ((Only.refl _ w8).alloc (.cells #[.int .i64 yn, .int .i64 yd] 83))
  have HT8 := Lib.hid hT
  have HS8 := Lib.hid ((HS7.out.then hS8).alloc (.cells #[.int .i64 yn, .int .i64 yd] 83))
  have HB8 := Lib.hid (blk_new w8 (.cells #[.int .i64 yn, .int .i64 yd] 83))
  have HB7' := Lib.hid (blk_old (.cells #[.int .i64 yn, .int .i64 yd] 83) (hS8.heap HB7.out (fun h => h)))
  obtain ⟨⟨a0, a1⟩, ⟨b0, b1⟩, d0, d1⟩ := hT.cells
  clear hT hS8 HB7
  go_wp2_with fail
  refine (CZ.out _).mono ?_
  rintro e w9 ⟨rfl, hS9⟩
  clear a0 a1 b0 b1 d0 d1
  have HS9 := Lib.hid ((HS8.out.then hS9).alloc (.cells #[.int .i64 xn, .int .i64 xd] 83))
  have hb7 := blk_old (.cells #[.int .i64 xn, .int .i64 xd] 83) (hS9.heap HB7'.out (fun h => h))
  have hb8 := blk_old (.cells #[.int .i64 xn, .int .i64 xd] 83) (hS9.heap HB8.out (fun h => h))
  have HB7 := Lib.hid hb7; have HB8' := Lib.hid hb8
  obtain ⟨x0, x1, _, _⟩ := pair_facts2 hb7
  obtain ⟨y0, y1, _, _⟩ := pair_facts2 hb8
  obtain ⟨z0, z1, _, _⟩ := pair_facts2 (blk_new w9 (.cells #[.int .i64 xn, .int .i64 xd] 83))
  clear hb7 hb8 hS9 HB7' HB8 HT6 HT7 HT8 HS6 HS7 HS8 CX CY CZ
  clear h1 h2 h3 ha hd hb hbd hc hcd hbc
  rcases HX.out with ⟨rfl, hxn, hxd, i1, i2, k1, _, _⟩ | ⟨rfl, rfl, rfl, _⟩
  · rcases HY.out with ⟨rfl, hyn, hyd, i3, i4, k2, _, _⟩ | ⟨rfl, rfl, rfl, _⟩
    · have ho := HORD.out
      rw [← hxn, ← hyn] at ho
      generalize lowD (an * c + cn * a) (a * c) = Xd at *
      generalize lowD (bn * c + cn * b) (b * c) = Yd at *
      subst hxd
      subst hyd
      have cw := fun w0 => compare_s xn yn Xd Yd w0 i1 i2 i3 i4 k1 k2
      rw [show cmpS xn Xd yn Yd = sab from ho] at cw
      have cr := fun w0 => right_any xn Xd w0 i1 i2
      rw [decide_eq_true k1] at cr
      have CW := Lib.hid cw; have CR := Lib.hid cr
      clear cw cr ho hxn hyn k1 k2
      go_wp2_with fail
      refine (CW.out _).mono ?_
      rintro e w10 ⟨rfl, hS10⟩
      have f0 := hS10.cell_eq x0 (fun h => h)
      have f1 := hS10.cell_eq x1 (fun h => h)
      go_wp2_with fail
      refine (CR.out _).mono ?_
      rintro e w11 ⟨rfl, hS11⟩
      go_wp2_with fail
      go_ret
      exact ⟨rfl, (HS9.out.then hS10).then hS11⟩
    · clear hxn hxd
      go_wp2_with fail
      go_ret
      exact ⟨rfl, HS9.out⟩
  · go_wp2_with fail
    go_ret
    exact ⟨rfl, HS9.out⟩
set_option maxRecDepth 100000 in
theorem order_bad (an bn cn : Int) (a b c : Int) (w : World) (ha : i64in an) (hd : i64in a) (hb : i64in bn) (hbd : i64in b) (hc : i64in cn) (hcd : i64in c) (h : ¬ (RatOk an a ∧ RatOk bn b ∧ RatOk cn c)) :
    Calls Try.prog 10 #[rat an a, rat bn b, rat cn c] w fun e w' => e = .returned (.bool true) ∧ Same w w' := by
  have r1 := fun w0 => right_any an a w0 ha hd
  have r2 := fun w0 => right_any bn b w0 hb hbd
  have r3 := fun w0 => right_any cn c w0 hc hcd
  have hT : (((w.alloc (.cells #[.int .i64 an, .int .i64 a] 83)).alloc (.cells #[.int .i64 bn, .int .i64 b] 83)).alloc (.cells #[.int .i64 cn, .int .i64 c] 83)).heap[w.heap.size]? = some (.cells #[.int .i64 an, .int .i64 a] 83 (0, 0)) ∧ _ ∧ _ := blk3 _ _ _ _
  have hS0 : Same w (((w.alloc (.cells #[.int .i64 an, .int .i64 a] 83)).alloc (.cells #[.int .i64 bn, .int .i64 b] 83)).alloc (.cells #[.int .i64 cn, .int .i64 c] 83)) := (((Only.refl _ w).alloc _).alloc _).alloc _
  by_cases h1 : RatOk an a
  · rw [decide_eq_true h1] at r1
    by_cases h2 : RatOk bn b
    · have h3 : ¬ RatOk cn c := fun h3 => h ⟨h1, h2, h3⟩
      rw [decide_eq_true h2] at r2
      rw [decide_eq_false h3] at r3
      have R1 := Lib.hid r1; have R2 := Lib.hid r2; have R3 := Lib.hid r3
      clear r1 r2 r3 h h1 h2 h3
      go_enter Try.func10, Try.ntmps10
      go_upto_region 1 with fail
      generalize ((w.alloc (.cells #[.int .i64 an, .int .i64 a] 83)).alloc (.cells #[.int .i64 bn, .int .i64 b] 83)).alloc (.cells #[.int .i64 cn, .int .i64 c] 83) = W0 at *
      have HS0 := Lib.hid hS0
      obtain ⟨t1, t2, t3⟩ := hT
      go_wp2_with fail
      refine (awake3_any _).mono ?_
      rintro e w1 ⟨rfl, hS1⟩
      have HT1 := Lib.hid (And.intro (hS1.heap t1 (fun h => h)) (And.intro (hS1.heap t2 (fun h => h)) (hS1.heap t3 (fun h => h))))
      clear t1 t2 t3 hS0
      obtain ⟨a0, a1, _, _⟩ := pair_facts2 HT1.out.1
      go_wp2_with fail
      refine (R1.out _).mono ?_
      rintro e w2 ⟨rfl, hS2⟩
      obtain ⟨b0, b1, _, _⟩ := pair_facts2 (hS2.heap HT1.out.2.1 (fun h => h))
      go_wp2_with fail
      refine (R2.out _).mono ?_
      rintro e w3 ⟨rfl, hS3⟩
      obtain ⟨c0, c1, _, _⟩ := pair_facts2 (hS3.heap (hS2.heap HT1.out.2.2 (fun h => h)) (fun h => h))
      go_wp2_with fail
      refine (R3.out _).mono ?_
      rintro e w4 ⟨rfl, hS4⟩
      go_wp2_with fail
      go_ret
      exact ⟨rfl, (((HS0.out.then hS1).then hS2).then hS3).then hS4⟩
    · rw [decide_eq_false h2] at r2
      have R1 := Lib.hid r1; have R2 := Lib.hid r2
      clear r1 r2 r3 h h1 h2
      go_enter Try.func10, Try.ntmps10
      go_upto_region 1 with fail
      generalize ((w.alloc (.cells #[.int .i64 an, .int .i64 a] 83)).alloc (.cells #[.int .i64 bn, .int .i64 b] 83)).alloc (.cells #[.int .i64 cn, .int .i64 c] 83) = W0 at *
      have HS0 := Lib.hid hS0
      obtain ⟨t1, t2, t3⟩ := hT
      go_wp2_with fail
      refine (awake3_any _).mono ?_
      rintro e w1 ⟨rfl, hS1⟩
      have HT1 := Lib.hid (And.intro (hS1.heap t1 (fun h => h)) (And.intro (hS1.heap t2 (fun h => h)) (hS1.heap t3 (fun h => h))))
      clear t1 t2 t3 hS0
      obtain ⟨a0, a1, _, _⟩ := pair_facts2 HT1.out.1
      go_wp2_with fail
      refine (R1.out _).mono ?_
      rintro e w2 ⟨rfl, hS2⟩
      obtain ⟨b0, b1, _, _⟩ := pair_facts2 (hS2.heap HT1.out.2.1 (fun h => h))
      go_wp2_with fail
      refine (R2.out _).mono ?_
      rintro e w3 ⟨rfl, hS3⟩
      go_wp2_with fail
      go_ret
      exact ⟨rfl, ((HS0.out.then hS1).then hS2).then hS3⟩
  · rw [decide_eq_false h1] at r1
    have R1 := Lib.hid r1
    clear r1 r2 r3 h h1
    go_enter Try.func10, Try.ntmps10
    go_upto_region 1 with fail
    generalize ((w.alloc (.cells #[.int .i64 an, .int .i64 a] 83)).alloc (.cells #[.int .i64 bn, .int .i64 b] 83)).alloc (.cells #[.int .i64 cn, .int .i64 c] 83) = W0 at *
    have HS0 := Lib.hid hS0
    obtain ⟨t1, t2, t3⟩ := hT
    go_wp2_with fail
    refine (awake3_any _).mono ?_
    rintro e w1 ⟨rfl, hS1⟩
    have HT1 := Lib.hid (hS1.heap t1 (fun h => h))
    clear t1 t2 t3 hS0
    obtain ⟨a0, a1, _, _⟩ := pair_facts2 HT1.out
    go_wp2_with fail
    refine (R1.out _).mono ?_
    rintro e w2 ⟨rfl, hS2⟩
    go_wp2_with fail
    go_ret
    exact ⟨rfl, (HS0.out.then hS1).then hS2⟩
theorem exactOrder_walk (an ad bn bd cn cd : Int) (w : World) (ha : i64in an) (hd : i64in ad) (hb : i64in bn) (hbd : i64in bd) (hc : i64in cn) (hcd : i64in cd) :
    Calls Try.prog 10 #[rat an ad, rat bn bd, rat cn cd] w fun e w' => e = .returned (.bool true) ∧ Same w w' := by
  by_cases h : RatOk an ad ∧ RatOk bn bd ∧ RatOk cn cd
  · obtain ⟨h1, h2, h3⟩ := h
    obtain ⟨a, rfl⟩ := Int.eq_ofNat_of_zero_le (show 0 ≤ ad by have := h1.1; omega)
    obtain ⟨b, rfl⟩ := Int.eq_ofNat_of_zero_le (show 0 ≤ bd by have := h2.1; omega)
    obtain ⟨c, rfl⟩ := Int.eq_ofNat_of_zero_le (show 0 ≤ cd by have := h3.1; omega)
    exact order_walk an bn cn a b c w ha hd hb hbd hc hcd h1 h2 h3
  · exact order_bad an bn cn ad bd cd w ha hd hb hbd hc hcd h
end Go.Proofs.Ytafhgpknffkjmaa
