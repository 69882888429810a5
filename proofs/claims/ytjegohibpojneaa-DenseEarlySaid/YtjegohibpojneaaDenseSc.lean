import Derived.Test.YtjegohibpojneaaDenseCnt
import Derived.Test.YtjegohibpojneaaDenseP
import Derived.Test.YtjegohibpojneaaTopFnsB
set_option linter.unusedVariables false
set_option linter.unusedSimpArgs false
namespace Go.Proofs.Ytjegohibpojneaa
open Go.RowKit
attribute [local go_sem ↓] Go.wp_at_zero Go.wp_at_succ

/-- What the closure answers. -/
def ScR (m : Int) (q v : List Int) (K : Nat) (hs : List (Int × Int)) (cb : Nat) (n : Int) (w : World) (e : Ending) (w' : World) : Prop :=
  ∃ (s : Int) (ok : Bool) (t : Nat), e = .returned (.tuple #[.int .i64 s, .bool ok]) ∧ Only (· = cb) w w' ∧ CntW w' cb (n + (t : Int)) ∧ 1 ≤ t ∧ t ≤ 8 ∧ (ok = true → s = scS m q v 8) ∧ (ok = false → (worstP K hs).2 = true ∧ scS m q v 8 ≤ (worstP K hs).1.2)
set_option maxRecDepth 100000 in
set_option maxHeartbeats 8000000 in
/-- The closure that scores a document, or gives up early. -/
theorem score1_any (m : Int) (q v : List Int) (vq vv : Value) (tb qb xb mb lb cb tp K fb : Nat) (hs : List (Int × Int)) (n : Int) (w : World)
    (hE : ∀ (args : Array Value) (w : World), (callFunc fb args).run Try.prog w = .ok (.enter fb args) w)
    (hB : ∀ (x y : Int) (w0 : World), (-127 ≤ x ∧ x ≤ 127) → (-127 ≤ y ∧ y ≤ 127) → Calls Try.prog fb #[.int .i64 x, .int .i64 y] w0 fun e w' => e = .returned (.int .i64 (brP m x y)) ∧ w' = w0)
    (c1 : w.cell? ⟨tb, 0, none⟩ = some (.pointer (some ⟨tp, 0, none⟩))) (hT : TopAt w tp K hs) (hK : K ≤ 1000000)
    (c2 : w.cell? ⟨qb, 0, none⟩ = some vq) (hq : ∀ w1, Only (· = cb) w w1 → Sl w1 (.int .i64) vq q)
    (c3 : w.cell? ⟨xb, 0, none⟩ = some (.pointer (some ⟨cb, 0, none⟩))) (hc : CntW w cb n)
    (c4 : w.cell? ⟨mb, 0, none⟩ = some (.func (.func fb) #[] #[]))
    (c5 : ∀ j, j ≤ 8 → w.cell? ⟨lb, j, none⟩ = some (.int .i64 (leftS m q (8 - j))))
    (hv : ∀ w1, Only (· = cb) w w1 → Sl w1 (.int .i64) vv v)
    (ne : tb ≠ cb ∧ qb ≠ cb ∧ xb ≠ cb ∧ mb ≠ cb ∧ lb ≠ cb)
    (hlq : q.length = 8) (hrq : ∀ x ∈ q, -127 ≤ x ∧ x ≤ 127) (hlv : v.length = 8) (hrv : ∀ x ∈ v, -127 ≤ x ∧ x ≤ 127) (hn : 0 ≤ n ∧ n ≤ 1000000000) :
    Calls Try.prog 130 #[vv, .pointer (some ⟨tb, 0, none⟩), .pointer (some ⟨qb, 0, none⟩), .pointer (some ⟨xb, 0, none⟩), .pointer (some ⟨mb, 0, none⟩), .pointer (some ⟨lb, 0, none⟩)] w (ScR m q v K hs cb n w) := by
  have HT := Lib.hid hT; have HB := Lib.hid hB; have HQ := Lib.hid hq; have HV := Lib.hid hv; have HC := Lib.hid hc; have NE := Lib.hid ne; have HN := Lib.hid hn
  have C5 := Lib.hid c5; have HLQ := Lib.hid hlq; have HLV := Lib.hid hlv; have HRQ := Lib.hid hrq; have HRV := Lib.hid hrv
  have HR := Lib.hid (sc_range m q v hrq hrv); have HL := Lib.hid (left_range m q hrq); have HSL := Lib.hid (sc_left m q v hrq hrv)
  have C2 := Lib.hid c2; have C3 := Lib.hid c3; have C4 := Lib.hid c4
  have hcbw := heap_lt hc
  obtain ⟨aq, cq, hvq, _⟩ := (hq w (Only.refl _ _))
  rw [hlq] at hvq
  subst hvq
  obtain ⟨av, cv, hvv, _⟩ := (hv w (Only.refl _ _))
  rw [hlv] at hvv
  subst hvv
  clear hT hB hq hv hc ne hn c5 hlq hlv hrq hrv c2 c3 c4
  obtain ⟨ws, full, hW⟩ : ∃ p f, worstP K hs = (p, f) := ⟨_, _, rfl⟩
  obtain ⟨wd, wsc⟩ := ws
  go_enter Try.func130, Try.ntmps130
  go_wp2_with fail
  refine (tworst_any tp K hs w HT.out (by omega)).mono ?_
  rintro e w1 ⟨rfl, hS1⟩
  rw [hW]
  unfold pairV
  have hA := blk_new w1 (.cells #[.int .i64 wd, .int .i64 wsc] 89)
  have hS0 : Same w1 (w1.alloc (.cells #[.int .i64 wd, .int .i64 wsc] 89)) := (Only.refl _ w1).alloc _
  have HSW := Lib.hid (hS1.then hS0)
  have hneb : w1.heap.size ≠ cb := by have := hS1.size; omega
  have HNEB := Lib.hid hneb
  go_upto_region 3 with fail
  generalize w1.alloc (.cells #[.int .i64 wd, .int .i64 wsc] 89) = W at *
  obtain ⟨p0, p1, _, _⟩ := two_facts hA
  have P1 := Lib.hid p1
  have c2 := HSW.out.cell_eq C2.out (fun h => h)
  have HCW := Lib.hid (HC.out.only HSW.out (fun h => h))
  have HIM : Hid (worstP K hs = ((wd, wsc), full)) := Lib.hid hW
  clear hA hS0 hS1 p0 p1 hneb hW hcbw
  go_wp2_with fail
  clear c2
  go_loopw [9, 20] (fun nn kk wr => ∃ k : Nat, k ≤ 8 ∧ kk = .int .i64 k ∧ nn = .int .i64 (scS m q v k) ∧ Only (· = cb) W wr ∧ CntW wr cb (n + k)) (fun _ kk _ => 8 - (intOf kk).toNat)
  case atStart => exact ⟨0, by omega, rfl, rfl, Only.refl _ _, by simpa using HCW.out⟩
  case round =>
    obtain ⟨k, hk, rfl, rfl, hO, hcn⟩ := hrel
    obtain ⟨w3, hw3⟩ : ∃ x, x = wr := ⟨_, rfl⟩
    subst hw3
    have HO := Lib.hid hO; have HCN := Lib.hid hcn
    clear hO hcn
    by_cases hlt : k < 8
    · have hd8 : decide ((k : Int) < 8) = true := decide_eq_true (by omega)
      have hd9 : decide (k < 8) = true := decide_eq_true hlt
      have x3 := HO.out.cell_eq (HSW.out.cell_eq C3.out (fun h => h)) NE.out.2.2.1
      have cad := cadd_any cb (n + k) w3 HCN.out (by have := HN.out; omega)
      have CAD := Lib.hid cad
      clear cad
      go_wp2_with fail
      refine CAD.out.mono ?_
      rintro e w4 ⟨rfl, hw4⟩
      have hO4 : Only (· = cb) W w4 := by rw [hw4]; exact HO.out.setCell (fun _ => rfl) _
      have hcn4 : CntW w4 cb (n + k + 1) := by rw [hw4]; exact HCN.out.set
      clear hw4 x3 CAD HO HCN
      have HOw := Lib.hid (show Only (· = cb) w w4 from (HSW.out.mono (fun _ _ h => h.elim)).trans hO4 (fun _ _ h => h))
      obtain ⟨b1, o1, rfl, hca⟩ := (HQ.out w4 HOw.out).spot (by have := HLQ.out; omega)
      obtain ⟨b2, o2, rfl, hcb⟩ := (HV.out w4 HOw.out).spot (by have := HLV.out; omega)
      have hka : k < q.length := by have := HLQ.out; omega
      have hkb : k < v.length := by have := HLV.out; omega
      have k1 := hca k hka
      have k2 := hcb k hkb
      have k3 := hO4.cell_eq (HSW.out.cell_eq C4.out (fun h => h)) NE.out.2.2.2.1
      have k4 := hO4.cell_eq (HSW.out.cell_eq C2.out (fun h => h)) NE.out.2.1
      have k5 := hO4.cell_eq (HSW.out.cell_eq (C5.out (k + 1) (by omega)) (fun h => h)) NE.out.2.2.2.2
      have k6 := hO4.cell_eq P1.out HNEB.out
      have hse := scS_eq m q v k hka hkb
      have hx := HRQ.out q[k] (List.getElem_mem hka)
      have hy := HRV.out v[k] (List.getElem_mem hkb)
      have hrg := HR.out k
      have hle := HL.out (8 - (k + 1))
      have hsl := HSL.out (8 - (k + 1)) (by omega)
      rw [show 8 - (8 - (k + 1)) = k + 1 by omega] at hsl
      generalize q[k] = x at *
      generalize v[k] = y at *
      generalize leftS m q (8 - (k + 1)) = lf at *
      have hbr := br_range m x y hx hy
      have cbr := fun w0 => HB.out x y w0 hx hy
      have CBR := Lib.hid cbr
      generalize scS m q v k = s at *
      generalize brP m x y = d at *
      rw [hse] at hsl
      have HSE := Lib.hid hse; have HSLK := Lib.hid hsl; have HO4 := Lib.hid hO4; have HCN4 := Lib.hid hcn4
      have q0 : Same w4 w4 := Only.refl _ _
      have hkI : (k : Int) < 8 := by omega
      have hkI9 : (k : Int) + 1 < 9 := by omega
      have hw5 : IntKind.i64.wrap (s + d) = s + d := wrapS (by omega)
      have hw6 : IntKind.i64.wrap ((k : Int) + 1) = (k : Int) + 1 := wrapS (by omega)
      have hw7 : IntKind.i64.wrap (s + d + lf) = s + d + lf := wrapS (by omega)
      have hKK : ∀ w', Same w4 w' → (w'.cell? ⟨mb, 0, none⟩ = some (.func (.func fb) #[] #[]) ∧ w'.cell? ⟨qb, 0, none⟩ = some (.slice (some ⟨b1, o1, none⟩) 8 cq) ∧ w'.cell? ⟨b1, o1 + k, none⟩ = some (.int .i64 x) ∧ w'.cell? ⟨b2, o2 + k, none⟩ = some (.int .i64 y)) :=
        fun w' h => ⟨h.cell_eq k3 (fun h => h), h.cell_eq k4 (fun h => h), h.cell_eq k1 (fun h => h), h.cell_eq k2 (fun h => h)⟩
      have HK := Lib.hid hKK
      have K5 := Lib.hid k5; have K6 := Lib.hid k6
      clear hca hcb hse hsl hKK hka hkb hO4 hcn4 cbr k5 k6
      go_upto_region 7 with fail
      go_region_held3 (fun w' => w'.cell? ⟨mb, 0, none⟩ = some (.func (.func fb) #[] #[]) ∧ w'.cell? ⟨qb, 0, none⟩ = some (.slice (some ⟨b1, o1, none⟩) 8 cq) ∧ w'.cell? ⟨b1, o1 + k, none⟩ = some (.int .i64 x) ∧ w'.cell? ⟨b2, o2 + k, none⟩ = some (.int .i64 y))
        (first | exact HK.out _ q0 | exact HK.out _ q0.drew)
        (first
          | ((go_at_fn fb; refine (CBR.out _).mono ?_; rintro e w9 ⟨rfl, rfl⟩)))
      all_goals
        have q5 : Same w4 w4.drew := q0.drew
        have HQ5 := Lib.hid q5
        have k5 := q5.cell_eq K5.out (fun h => h)
        have k6 := q5.cell_eq K6.out (fun h => h)
        clear q5 q0 HK CBR K5 K6
        generalize w4.drew = w5 at *
        cases full with
        | false =>
          clear k5 k6
          go_wp2_with fail
          go_quiet (fail)
          rename_i nq
          go_wp2_with fail
          go_roundw
          case rel => exact ⟨k + 1, by omega, by go_num, by rw [HSE.out], (HO4.out.then HQ5.out).drewN nq, by have := (HCN4.out.only HQ5.out (fun h => h)); rw [Int.add_assoc] at this; exact this⟩
          case measure => simp [intOf]; omega
        | true =>
          by_cases hge : s + d + lf ≤ wsc
          · have hd7 : decide (s + d + lf ≤ wsc) = true := decide_eq_true hge
            have HGE := Lib.hid hge
            clear hge
            go_wp2_with fail
            go_quiet (fail)
            rename_i nq
            go_wp2_with fail
            go_ret2
            refine ⟨_, false, k + 1, rfl, ((HSW.out.mono (fun _ _ h => h.elim)).trans (HO4.out.then HQ5.out) (fun _ _ h => h)).drewN nq, ?_, by omega, by omega, fun h => (by cases h), fun _ => ⟨by rw [HIM.out], ?_⟩⟩
            · have := (HCN4.out.only HQ5.out (fun h => h)); rw [Int.add_assoc] at this; exact this
            · have := HSLK.out; have h2 := HGE.out; rw [HIM.out]; show scS m q v 8 ≤ wsc; omega
          · have hd7 : decide (s + d + lf ≤ wsc) = false := decide_eq_false hge
            clear hge
            go_wp2_with fail
            go_quiet (fail)
            rename_i nq
            go_wp2_with fail
            go_roundw
            case rel => exact ⟨k + 1, by omega, by go_num, by rw [HSE.out], (HO4.out.then HQ5.out).drewN nq, by have := (HCN4.out.only HQ5.out (fun h => h)); rw [Int.add_assoc] at this; exact this⟩
            case measure => simp [intOf]; omega
    · obtain rfl : k = 8 := by omega
      have hd8 : decide (((8 : Nat) : Int) < 8) = false := by decide
      go_wp2_with fail
      go_ret2
      exact ⟨_, true, 8, rfl, (HSW.out.mono (fun _ _ h => h.elim)).trans HO.out (fun _ _ h => h), HCN.out, by omega, by omega, fun _ => rfl, fun h => by cases h⟩
end Go.Proofs.Ytjegohibpojneaa
