import Derived.Test.YtpgbnjneoejebaaFuSpec
set_option linter.unusedVariables false
set_option linter.unusedSimpArgs false
namespace Go.Proofs.Ytpgbnjneoejebaa
open Go.RowKit
attribute [local go_sem ↓] Go.wp_at_zero Go.wp_at_succ

set_option maxRecDepth 100000 in
set_option maxHeartbeats 16000000 in
/-- The inner function of 'fused': what one list brings is added. -/
theorem faddR_any (li : Int) (v : Value) (l : List (Int × Int)) (F0 : EnI QV) (B : Nat → Int → QV) (bv bb m bc : Nat) (w : World) (hv : SlP w v l) (hn : (docsF l).Nodup) (hlen : l.length ≤ 1000) (hi : I64L l)
    (hbv : w.cell? ⟨bv, 0, none⟩ = some (.map (some m))) (hbb : w.cell? ⟨bb, 0, none⟩ = some (.func (.func 33) #[] #[.pointer (some ⟨bc, 0, none⟩)])) (hM : MpJ ratV Try.prog 3 w m F0) (hFl : F0.length ≤ 1000) (hmb : bv ≠ m ∧ bb ≠ m)
    (hsl : ∀ b off n c, 0 < l.length → v = .slice (some ⟨b, off, none⟩) n c → b ≠ m)
    (hB : ∀ w0, Only (· = m) w w0 → ∀ i (h : i < l.length), Calls Try.prog 33 #[.int .i64 li, .int .i64 ((i : Int) + 1), .int .i64 l[i].2, .pointer (some ⟨bc, 0, none⟩)] w0 fun e w' => e = .returned (ratV (B (i + 1) l[i].2)) ∧ Same w0 w')
    (hq : ∀ i (h : i < l.length), QIn (((getI F0 l[i].1).getD qz).1 + (B (i + 1) l[i].2).1)) :
    Calls Try.prog 63 #[.int .i64 li, v, .pointer (some ⟨bv, 0, none⟩), .pointer (some ⟨bb, 0, none⟩)] w fun e w' => e = .returned (.tuple #[]) ∧ Only (· = m) w w' ∧ ∃ F, MpJ ratV Try.prog 3 w' m F ∧ AddI F0 l B F l.length ∧ F.length ≤ F0.length + l.length := by
  have HV := Lib.hid hv; have HI := Lib.hid hi; have HN := Lib.hid hn; have HB := Lib.hid hB; have HQ := Lib.hid hq; have HM := Lib.hid hM; have HFL := Lib.hid hFl; have HBV := Lib.hid hbv; have HBB := Lib.hid hbb; have HMB := Lib.hid hmb; have HSL := Lib.hid hsl
  have hml := hM.lt
  have HML := Lib.hid hml
  obtain ⟨a, c, rfl, hc1, hc2⟩ := hv.lit
  unfold maxLen at hc2
  clear hv hi hn hB hq hM hFl hbv hbb hmb hml hsl
  go_enter Try.func63, Try.ntmps63
  go_wp2_with fail
  go_loopw [12] (fun i wr => ∃ (r : Nat) (F : EnI QV), r ≤ l.length ∧ i = .int .i64 r ∧ Only (· = m) w wr ∧ MpJ ratV Try.prog 3 wr m F ∧ AddI F0 l B F r ∧ F.length ≤ F0.length + r) (fun i _ => l.length - (intOf i).toNat)
  case atStart => exact ⟨0, F0, by omega, rfl, Only.refl _ _, HM.out, addI_start _ _ _, by omega⟩
  case round =>
    obtain ⟨r, F, hr, rfl, hO, hmp, hA, hfl⟩ := hrel
    obtain ⟨w3, hw3⟩ : ∃ x, x = wr := ⟨_, rfl⟩
    subst hw3
    have HO3 := Lib.hid hO; have HM3 := Lib.hid hmp; have HA3 := Lib.hid hA; have HF3 := Lib.hid hfl
    clear hO hmp hA hfl
    by_cases hlt : r < l.length
    · obtain ⟨b1, o1, rfl, hcell⟩ := HV.out.spot (by omega)
      have hb1 : ¬ b1 = m := HSL.out b1 o1 _ _ (by omega) rfl
      obtain ⟨k0, k1⟩ := hcell r hlt
      have k0 := HO3.out.cell_eq k0 hb1
      have k1 := HO3.out.cell_eq k1 hb1
      have kv := HO3.out.cell_eq HBV.out HMB.out.1
      have kb := HO3.out.cell_eq HBB.out HMB.out.2
      have hi := HI.out _ (List.getElem_mem hlt)
      obtain ⟨st1, st2⟩ := addI_step (HM3.out.sort Try.underlying3) HN.out hlt HA3.out
      have hqq := HQ.out r hlt
      have hd8 : decide ((r : Int) < (l.length : Int)) = true := decide_eq_true (by omega)
      have hd9 : decide (r < l.length) = true := decide_eq_true hlt
      have hw6 : IntKind.i64.wrap ((r : Int) + 1) = (r : Int) + 1 := by rw [IntKind.wrap_i64]; omega
      have cb := fun w0 (h : Only (· = m) w w0) => HB.out w0 h r hlt
      rw [← st1] at st2 hqq
      generalize l[r] = x at *
      obtain ⟨d, s⟩ := x
      simp only at k0 k1 hi st2 hqq cb
      have hx := wf_i64 hi
      have HX := Lib.hid hx
      have hzv : ∀ w', (zeroValue 33).run Try.prog w' = .ok (.agg #[.int .i64 0, .int .i64 0]) w' := fun w' => by kernel_rfl
      have hS4 : Same w3 (w3.alloc (.cells #[.int .i64 d, .int .i64 s] 37)) := (Only.refl _ w3).alloc _
      have hA4 := blk_new w3 (.cells #[.int .i64 d, .int .i64 s] 37)
      have hz4 : (w3.alloc (.cells #[.int .i64 d, .int .i64 s] 37)).heap.size = w3.heap.size + 1 := by simp
      obtain ⟨p0, p1, _, _⟩ := two_facts hA4
      have kv4 := hS4.cell_eq kv (fun h => h)
      have kb4 := hS4.cell_eq kb (fun h => h)
      have hl := (HM3.out.same hS4).run_look_ok (t := 120) (e := 33) Try.underlying3 Try.underlying120 (hzv _) d hx
      have HM4 := Lib.hid (HM3.out.same hS4); have HO4 := Lib.hid (HO3.out.then hS4); have HA4 := Lib.hid hA4; have HZ4 := Lib.hid hz4
      have CB := Lib.hid cb
      have hms : m < w3.heap.size := HM3.out.lt
      have HMS := Lib.hid hms
      clear hcell hi hb1 st1 cb hx hzv kv kb hA4 hms hz4
      cases hg : getI F d with
      | none =>
        rw [hg] at hl hqq st2
        simp only [Option.map_none, Option.getD_none, Option.isSome_none] at hl hqq st2
        go_upto_region 3 with fail
        clear k0 k1
        generalize w3.alloc (.cells #[.int .i64 d, .int .i64 s] 37) = w4 at *
        have hS46 : Same w4 (w4.alloc (.cells #[.int .i64 0, .int .i64 1] 33)) := (Only.refl (fun _ => False) w4).alloc _
        have hV6 : (w4.alloc (.cells #[.int .i64 0, .int .i64 1] 33)).heap[w4.heap.size]? = some (.cells #[.int .i64 qz.1.num, .int .i64 qz.1.den] 33 (0, 0)) := blk_new w4 _
        go_upto_region 6 with fail
        generalize w4.alloc (.cells #[.int .i64 0, .int .i64 1] 33) = w6 at *
        clear hl
        generalize qz = q at hV6 hqq st2
        have HST := Lib.hid st2; have HQQ := Lib.hid hqq
        have kv6 := hS46.cell_eq kv4 (fun h => h)
        have kb6 := hS46.cell_eq kb4 (fun h => h)
        have p0 := hS46.cell_eq p0 (fun h => h)
        have p1 := hS46.cell_eq p1 (fun h => h)
        obtain ⟨v0, v1, _, _⟩ := two_facts hV6
        have HO6 := Lib.hid (HO4.out.then hS46); have HM6 := Lib.hid (HM4.out.same hS46)
        have hms4 : ¬ w4.heap.size = m ∧ ¬ w3.heap.size = m := by have := HMS.out; have := HZ4.out; omega
        have hK : ∀ w', Only (· = m) w6 w' → (w'.cell? ⟨bv, 0, none⟩ = some (.map (some m)) ∧ w'.cell? ⟨bb, 0, none⟩ = some (.func (.func 33) #[] #[.pointer (some ⟨bc, 0, none⟩)]) ∧ w'.cell? ⟨w3.heap.size, 0, none⟩ = some (.int .i64 d) ∧ w'.cell? ⟨w3.heap.size, 1, none⟩ = some (.int .i64 s) ∧ w'.cell? ⟨w4.heap.size, 0, none⟩ = some (.int .i64 q.1.num) ∧ w'.cell? ⟨w4.heap.size, 1, none⟩ = some (.int .i64 q.1.den)) :=
          fun w' h => ⟨h.cell_eq kv6 HMB.out.1, h.cell_eq kb6 HMB.out.2, h.cell_eq p0 hms4.2, h.cell_eq p1 hms4.2, h.cell_eq v0 hms4.1, h.cell_eq v1 hms4.1⟩
        have HK := Lib.hid hK
        have HKS : Hid (∀ w', Same w6 w' → (w'.cell? ⟨bv, 0, none⟩ = some (.map (some m)) ∧ w'.cell? ⟨bb, 0, none⟩ = some (.func (.func 33) #[] #[.pointer (some ⟨bc, 0, none⟩)]) ∧ w'.cell? ⟨w3.heap.size, 0, none⟩ = some (.int .i64 d) ∧ w'.cell? ⟨w3.heap.size, 1, none⟩ = some (.int .i64 s) ∧ w'.cell? ⟨w4.heap.size, 0, none⟩ = some (.int .i64 q.1.num) ∧ w'.cell? ⟨w4.heap.size, 1, none⟩ = some (.int .i64 q.1.den))) := Lib.hid (fun w' h => hK w' (h.mono (fun _ _ h => h.elim)))
        have cs := fun w0 => sumQ_any q.1 (B (r + 1) s).1 w0 q.2 (B (r + 1) s).2 HQQ.out
        have he : ratQ (q.1 + (B (r + 1) s).1) = ratV (qadd q (B (r + 1) s)) := by unfold ratV; rw [qadd_val HQQ.out]; rfl
        rw [he] at cs
        have CS : Hid (∀ w0, Calls Try.prog 64 #[.agg #[.int .i64 q.1.num, .int .i64 q.1.den], ratV (B (r + 1) s)] w0 fun f w' => f = .returned (.tuple #[ratV (qadd q (B (r + 1) s)), .int .i64 0]) ∧ Same w0 w') := Lib.hid cs
        have hmn : F.length < maxLen := by have := HF3.out; have := HFL.out; unfold maxLen; omega
        have HMN := Lib.hid hmn
        have q0 : Same w6 w6 := Only.refl _ _
        clear hK cs he hms4 hmn hS46 hV6 kv4 kb4 st2 hqq
        go_region_held3 (fun w' => w'.cell? ⟨bv, 0, none⟩ = some (.map (some m)) ∧ w'.cell? ⟨bb, 0, none⟩ = some (.func (.func 33) #[] #[.pointer (some ⟨bc, 0, none⟩)]) ∧ w'.cell? ⟨w3.heap.size, 0, none⟩ = some (.int .i64 d) ∧ w'.cell? ⟨w3.heap.size, 1, none⟩ = some (.int .i64 s) ∧ w'.cell? ⟨w4.heap.size, 0, none⟩ = some (.int .i64 q.1.num) ∧ w'.cell? ⟨w4.heap.size, 1, none⟩ = some (.int .i64 q.1.den))
          (first | exact HKS.out _ q0 | exact HKS.out _ q0.drew | exact HK.out _ q1 | exact HK.out _ q1.drew)
          (first
            | ((go_at_call 33; (first | refine (CB.out _ (HO6.out.then q0)).mono ?_ | refine (CB.out _ (HO6.out.then q0.drew)).mono ?_); rintro e w7 ⟨rfl, hS7⟩; have q0 := Only.then (by first | exact q0 | exact q0.drew) hS7; clear hS7))
            | ((go_at_call 64; refine (CS.out _).mono ?_; rintro e w8 ⟨rfl, hS8⟩; have q0 : Same w6 w8 := Only.then (by first | exact q0 | exact q0.drew) hS8; clear hS8; obtain ⟨w9, hrun9, hm9, hO9⟩ := (HM6.out.same q0).run_put (t := 120) (e := 33) Try.underlying3 Try.underlying120 HMN.out d HX.out (qadd q (B (r + 1) s)); have q1 : Only (· = m) w6 w9 := (q0.mono (fun _ _ h => h.elim)).same hO9)))
        all_goals
          have HM9 := Lib.hid hm9
          have HO9 := Lib.hid (HO6.out.same q1)
          have hl9 : (putI F d (qadd q (B (r + 1) s))).length ≤ F0.length + (r + 1) := by have := len_putI d (qadd q (B (r + 1) s)) F; have := HF3.out; omega
          have HL9 := Lib.hid hl9
          clear hm9 hrun9 hO9 q0 q1 hl9
          go_wp2_with fail
          go_roundw
          case rel => exact ⟨r + 1, putI F d (qadd q (B (r + 1) s)), by omega, by go_num, HO9.out, HM9.out, HST.out, HL9.out⟩
          case measure => simp [intOf]; omega
      | some q =>
        rw [hg] at hl hqq st2
        simp only [Option.map_some, Option.getD_some, Option.isSome_some] at hl hqq st2
        go_upto_region 3 with fail
        clear k0 k1
        generalize w3.alloc (.cells #[.int .i64 d, .int .i64 s] 37) = w4 at *
        have hS46 : Same w4 (w4.alloc (.cells #[.int .i64 q.1.num, .int .i64 q.1.den] 33)) := (Only.refl (fun _ => False) w4).alloc _
        have hV6 := blk_new w4 (.cells #[.int .i64 q.1.num, .int .i64 q.1.den] 33)
        unfold ratV at hl
        go_upto_region 6 with fail
        generalize w4.alloc (.cells #[.int .i64 q.1.num, .int .i64 q.1.den] 33) = w6 at *
        clear hl
        have HST := Lib.hid st2; have HQQ := Lib.hid hqq
        have kv6 := hS46.cell_eq kv4 (fun h => h)
        have kb6 := hS46.cell_eq kb4 (fun h => h)
        have p0 := hS46.cell_eq p0 (fun h => h)
        have p1 := hS46.cell_eq p1 (fun h => h)
        obtain ⟨v0, v1, _, _⟩ := two_facts hV6
        have HO6 := Lib.hid (HO4.out.then hS46); have HM6 := Lib.hid (HM4.out.same hS46)
        have hms4 : ¬ w4.heap.size = m ∧ ¬ w3.heap.size = m := by have := HMS.out; have := HZ4.out; omega
        have hK : ∀ w', Only (· = m) w6 w' → (w'.cell? ⟨bv, 0, none⟩ = some (.map (some m)) ∧ w'.cell? ⟨bb, 0, none⟩ = some (.func (.func 33) #[] #[.pointer (some ⟨bc, 0, none⟩)]) ∧ w'.cell? ⟨w3.heap.size, 0, none⟩ = some (.int .i64 d) ∧ w'.cell? ⟨w3.heap.size, 1, none⟩ = some (.int .i64 s) ∧ w'.cell? ⟨w4.heap.size, 0, none⟩ = some (.int .i64 q.1.num) ∧ w'.cell? ⟨w4.heap.size, 1, none⟩ = some (.int .i64 q.1.den)) :=
          fun w' h => ⟨h.cell_eq kv6 HMB.out.1, h.cell_eq kb6 HMB.out.2, h.cell_eq p0 hms4.2, h.cell_eq p1 hms4.2, h.cell_eq v0 hms4.1, h.cell_eq v1 hms4.1⟩
        have HK := Lib.hid hK
        have HKS : Hid (∀ w', Same w6 w' → (w'.cell? ⟨bv, 0, none⟩ = some (.map (some m)) ∧ w'.cell? ⟨bb, 0, none⟩ = some (.func (.func 33) #[] #[.pointer (some ⟨bc, 0, none⟩)]) ∧ w'.cell? ⟨w3.heap.size, 0, none⟩ = some (.int .i64 d) ∧ w'.cell? ⟨w3.heap.size, 1, none⟩ = some (.int .i64 s) ∧ w'.cell? ⟨w4.heap.size, 0, none⟩ = some (.int .i64 q.1.num) ∧ w'.cell? ⟨w4.heap.size, 1, none⟩ = some (.int .i64 q.1.den))) := Lib.hid (fun w' h => hK w' (h.mono (fun _ _ h => h.elim)))
        have cs := fun w0 => sumQ_any q.1 (B (r + 1) s).1 w0 q.2 (B (r + 1) s).2 HQQ.out
        have he : ratQ (q.1 + (B (r + 1) s).1) = ratV (qadd q (B (r + 1) s)) := by unfold ratV; rw [qadd_val HQQ.out]; rfl
        rw [he] at cs
        have CS : Hid (∀ w0, Calls Try.prog 64 #[.agg #[.int .i64 q.1.num, .int .i64 q.1.den], ratV (B (r + 1) s)] w0 fun f w' => f = .returned (.tuple #[ratV (qadd q (B (r + 1) s)), .int .i64 0]) ∧ Same w0 w') := Lib.hid cs
        have hmn : F.length < maxLen := by have := HF3.out; have := HFL.out; unfold maxLen; omega
        have HMN := Lib.hid hmn
        have q0 : Same w6 w6 := Only.refl _ _
        clear hK cs he hms4 hmn hS46 hV6 kv4 kb4 st2 hqq
        go_region_held3 (fun w' => w'.cell? ⟨bv, 0, none⟩ = some (.map (some m)) ∧ w'.cell? ⟨bb, 0, none⟩ = some (.func (.func 33) #[] #[.pointer (some ⟨bc, 0, none⟩)]) ∧ w'.cell? ⟨w3.heap.size, 0, none⟩ = some (.int .i64 d) ∧ w'.cell? ⟨w3.heap.size, 1, none⟩ = some (.int .i64 s) ∧ w'.cell? ⟨w4.heap.size, 0, none⟩ = some (.int .i64 q.1.num) ∧ w'.cell? ⟨w4.heap.size, 1, none⟩ = some (.int .i64 q.1.den))
          (first | exact HKS.out _ q0 | exact HKS.out _ q0.drew | exact HK.out _ q1 | exact HK.out _ q1.drew)
          (first
            | ((go_at_call 33; (first | refine (CB.out _ (HO6.out.then q0)).mono ?_ | refine (CB.out _ (HO6.out.then q0.drew)).mono ?_); rintro e w7 ⟨rfl, hS7⟩; have q0 := Only.then (by first | exact q0 | exact q0.drew) hS7; clear hS7))
            | ((go_at_call 64; refine (CS.out _).mono ?_; rintro e w8 ⟨rfl, hS8⟩; have q0 : Same w6 w8 := Only.then (by first | exact q0 | exact q0.drew) hS8; clear hS8; obtain ⟨w9, hrun9, hm9, hO9⟩ := (HM6.out.same q0).run_put (t := 120) (e := 33) Try.underlying3 Try.underlying120 HMN.out d HX.out (qadd q (B (r + 1) s)); have q1 : Only (· = m) w6 w9 := (q0.mono (fun _ _ h => h.elim)).same hO9)))
        all_goals
          have HM9 := Lib.hid hm9
          have HO9 := Lib.hid (HO6.out.same q1)
          have hl9 : (putI F d (qadd q (B (r + 1) s))).length ≤ F0.length + (r + 1) := by have := len_putI d (qadd q (B (r + 1) s)) F; have := HF3.out; omega
          have HL9 := Lib.hid hl9
          clear hm9 hrun9 hO9 q0 q1 hl9
          go_wp2_with fail
          go_roundw
          case rel => exact ⟨r + 1, putI F d (qadd q (B (r + 1) s)), by omega, by go_num, HO9.out, HM9.out, HST.out, HL9.out⟩
          case measure => simp [intOf]; omega
    · obtain rfl : r = l.length := by omega
      have hd8 : decide ((l.length : Int) < (l.length : Int)) = false := by simp
      go_wp2_with fail
      go_end0
      exact ⟨rfl, HO3.out, F, HM3.out, HA3.out, HF3.out⟩
end Go.Proofs.Ytpgbnjneoejebaa
