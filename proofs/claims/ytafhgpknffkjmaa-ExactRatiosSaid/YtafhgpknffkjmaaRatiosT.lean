import Derived.Test.YtafhgpknffkjmaaRatios
set_option linter.unusedVariables false
set_option linter.unusedSimpArgs false
namespace Go.Proofs.Ytafhgpknffkjmaa
open Go.RowKit

set_option maxRecDepth 100000 in
set_option maxHeartbeats 2000000 in
theorem rtimes_go (an n : Int) (a : Nat) (w : World) (ha : i64in an) (hd : i64in a) (hn : i64in n) (h1 : RatOk an a) {xn xd e : Int} (h : LowR (an * n) a xn xd e) :
    Calls Try.prog 58 #[rat an a, .int .i64 n] w fun f w' => f = .returned (.tuple #[rat xn xd, .int .i64 e]) ∧ Same w w' := by
  have r1 := fun w0 => rright_any an a w0 ha hd
  rw [decide_eq_true h1] at r1
  have l1 := abs_len3 an ha
  have l2 := abs_len3 n hn
  have l3 := abs_len3 a hd
  have l5 := mul_len3 an n l1 l2
  rw [Int.natAbs_natCast] at l3
  have ha0 : 0 < a := by have := h1.1; omega
  have R1 := Lib.hid r1; have HR := Lib.hid h
  have L1 := Lib.hid l1; have L2 := Lib.hid l2; have L3 := Lib.hid l3; have L5 := Lib.hid l5
  clear r1 h l1 l2 l3 l5 h1
  have hb3 := blk2' w (.cells #[.int .i64 an, .int .i64 a] 83) (.cells #[.int .i64 0, .int .i64 0] 83)
  have hS0 : Same w ((w.alloc (.cells #[.int .i64 an, .int .i64 a] 83)).alloc (.cells #[.int .i64 0, .int .i64 0] 83)) := ((Only.refl _ w).alloc _).alloc _
  have hfd := big_field
  go_enter Try.func58, Try.ntmps58
  go_upto_region 1 with fail
  generalize (w.alloc (.cells #[.int .i64 an, .int .i64 a] 83)).alloc (.cells #[.int .i64 0, .int .i64 0] 83) = W0 at *
  obtain ⟨k0, k1, k2, k3⟩ := pair_facts2 hb3.1
  have HB3 := Lib.hid hb3; have HS0 := Lib.hid hS0
  clear hb3 hS0
  go_wp2_with fail
  refine (R1.out _).mono ?_
  rintro f w2 ⟨rfl, hS2⟩
  have HB := Lib.hid (And.intro (hS2.heap HB3.out.1 (fun h => h)) (hS2.heap HB3.out.2 (fun h => h)))
  have HS2 := Lib.hid (HS0.out.then hS2)
  clear k0 k1 k2 k3 hS2 HB3 HS0
  go_wp2_with fail
  have CN := Lib.hid (fun w0 => of_any an w0 ha); have CM := Lib.hid (fun w0 => of_any n w0 hn); have CA := Lib.hid (fun w0 => of_any a w0 hd)
  have M1 := Lib.hid (fun (w0 : World) r1 r2 (h1 : Bg w0 r1 an) (h2 : Bg w0 r2 n) => bmul_any r1 r2 an n w0 h1 h2 (by have := L1.out; omega) (by have := L2.out; omega))
  have M5 := Lib.hid (fun (w0 : World) r1 r2 (h1 : Bg w0 r1 (an * n)) (h2 : Sl w0 .bool r2 (nb a)) => lowest_any r1 r2 (an * n) a w0 h1 h2 (by have := L5.out; omega) (by have := L3.out; omega) ha0 HR.out)
  have q0 : Only (· = w.heap.size + 1) w2 w2 := Only.refl _ _
  have p0 : Same w2 w2 := Only.refl _ _
  have hK : ∀ w', Only (· = w.heap.size + 1) w2 w' → (Only (· = w.heap.size + 1) w2 w' ∧ w'.cell? ⟨w.heap.size, 0, none⟩ = some (.int .i64 an) ∧ w'.cell? ⟨w.heap.size, 1, none⟩ = some (.int .i64 a)) := fun w' h => by
    obtain ⟨k0, k1, _, _⟩ := pair_facts2 (h.heap HB.out.1 (by omega))
    exact ⟨h, k0, k1⟩
  have HK := Lib.hid hK
  clear hK
  go_region_held3 (fun w' => Only (· = w.heap.size + 1) w2 w' ∧ w'.cell? ⟨w.heap.size, 0, none⟩ = some (.int .i64 an) ∧ w'.cell? ⟨w.heap.size, 1, none⟩ = some (.int .i64 a))
    (first | exact HK.out _ q0 | exact HK.out _ q0.drew | exact HK.out _ (q0.setCell (fun _ => rfl) _) | exact HK.out _ (q0.drew.setCell (fun _ => rfl) _) | exact HK.out _ (q0.put2 (fun _ => rfl) _ _) | exact HK.out _ (q0.drew.put2 (fun _ => rfl) _ _))
    (first
      | (go_at_call 49; (with_reducible refine (CN.out _).mono ?_); rintro f wn ⟨rn, rfl, hSn, hBn⟩; obtain ⟨sn, rfl, hsn⟩ := hBn; obtain ⟨ad, cn, rfl, _, _⟩ := hsn.lit; have x1 : Bg wn _ an := ⟨_, rfl, hsn⟩; have q0 := Only.then (by first | exact q0 | exact q0.drew) hSn; have p0 := Only.then (by first | exact p0 | exact p0.drew) hSn; have x1S := Lib.hid hsn; have x1W := hSn; clear hsn hSn)
      | (go_at_call 49; (with_reducible refine (CM.out _).mono ?_); rintro f wn ⟨rn, rfl, hSn, hBn⟩; obtain ⟨sn, rfl, hsn⟩ := hBn; obtain ⟨ad, cn, rfl, _, _⟩ := hsn.lit; have x2 : Bg wn _ n := ⟨_, rfl, hsn⟩; have q0 := Only.then (by first | exact q0 | exact q0.drew) hSn; have p0 := Only.then (by first | exact p0 | exact p0.drew) hSn; have x2S := Lib.hid hsn; have x2W := hSn; clear hsn hSn)
      | (go_at_call 49; (with_reducible refine (CA.out _).mono ?_); rintro f wn ⟨rn, rfl, hSn, hBn⟩; obtain ⟨sn, rfl, hsn⟩ := hBn; rw [Int.natAbs_natCast] at hsn; obtain ⟨ad, cn, rfl, _, _⟩ := hsn.lit; have y2 : Bg wn _ (a : Int) := ⟨_, rfl, (by rw [Int.natAbs_natCast]; exact hsn)⟩; have q0 := Only.then (by first | exact q0 | exact q0.drew) hSn; have p0 := Only.then (by first | exact p0 | exact p0.drew) hSn; have y2S := Lib.hid hsn; have y2W := hSn; clear hsn hSn)
      | (go_at_call 51; (with_reducible refine (M1.out _ _ _ (x1.same x2W) x2).mono ?_); rintro f wn ⟨zr, rfl, hSn, z⟩; have q0 := Only.then (by first | exact q0 | exact q0.drew) hSn; have p0 := Only.then (by first | exact p0 | exact p0.drew) hSn; have zW := hSn; clear hSn x1 x2)
      | (go_at_call 86; (with_reducible refine (M5.out _ _ _ (z.same y2W) y2S.out).mono ?_); rintro f wn ⟨rfl, hSn⟩; have q0 := Only.then (by first | exact q0 | exact q0.drew) hSn; have p0 := Only.then (by first | exact p0 | exact p0.drew) hSn; obtain ⟨r0, r1, r2, r3⟩ := pair_facts2 (p0.heap HB.out.2 (fun h => h)); clear hSn))
  clear HK CN CM CA M1 M5 hfd HR L1 L2 L3 L5 R1
  go_wp2_with fail
  refine bodyPost_ret (results_ct2 rfl _ _ _ _ _ _ _ rfl (pair_set2 (p0.heap HB.out.2 (fun h => h)) _ _) Try.underlying83 rfl (by kernel_rfl)) rfl ?_
  exact ⟨rfl, (HS2.out.then p0).put2 (fun h => by omega) _ _⟩
end Go.Proofs.Ytafhgpknffkjmaa
