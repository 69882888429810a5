import Derived.Test.YtjegohibpojneaaVdLastP
set_option linter.unusedVariables false
set_option linter.unusedSimpArgs false
namespace Go.Proofs.Ytjegohibpojneaa
open Go.RowKit Go.Sort
attribute [local go_sem ↓] Go.wp_at_zero Go.wp_at_succ

/-- 'm[k] = v' at a step of a drawn region. -/
theorem step_mput {α : Type} (enc : α → Value) {P : Program} (w : World) {ops : Array Oper} {o : Oper} {a : Act} {K : Act → World → Prop} {Q : Exit → Act → World → Prop} {E : Prop}
    (hg : o.guard = none) (mo xo vo : Operand) (t : TypeId) (hop : o.op = Op.mapUpdate t mo xo vo) (k e : TypeId) (hk : P.underlying k = some .string) (ht : P.underlying t = some (.map k e)) (b : Nat) (F : EnS α)
    (hm : a.eval mo = .map (some b)) (h : MpS enc P k w b F) (hn : F.length < maxLen) (s : ByteArray) (x : α) (hx : a.eval xo = .string s) (hv : a.eval vo = enc x) (hs : s.size ≤ maxLen)
    (hK : ∀ w', MpS enc P k w' b (putS F s.data.toList x) → Only (· = b) w w' → K (a.put o.dst undef) w') :
    if Region.wanted o (yielded ops a.tmps) = true then Oper.wp P o a w K Q else E := by
  have hw : Region.wanted o (yielded ops a.tmps) = true := by simp [Region.wanted, hg]
  rw [if_pos hw]
  obtain ⟨w', hrun, r1, r2⟩ := h.run_put hk ht hn s hs x
  unfold Oper.wp
  simp [execOp, hop, hm, hx, hv, hrun, Result.andThen]
  exact hK w' r1 r2
abbrev ksS {α : Type} (F : EnS α) : List (List UInt8) := F.map fun p => p.1
theorem names_at {α : Type} (F : EnS α) (i : Nat) (h : i < (namesB F).length) (h2 : i < (ksS F).length) : (namesB F)[i] = ⟨((ksS F)[i]).toArray⟩ := by
  have h' : i < (F.map fun p => (⟨p.1.toArray⟩ : ByteArray)).length := h
  show (F.map fun p => (⟨p.1.toArray⟩ : ByteArray))[i]'h' = _
  rw [List.getElem_map, List.getElem_map]
theorem readD_ok {d : Dk} {k : List UInt8} {x : FileP} (h : d.down = false) (hg : getS d.F k = some x) : readD d k = (x.1, 0) := by
  unfold readD thereD thereO; rw [h, hg]; rfl
theorem get_used {F : EnS FileP} {k : List UInt8} {x : FileP} (h : getS F k = some x) : x.1.size ≤ usedP F := by
  unfold getS at h
  rw [Option.map_eq_some_iff] at h
  obtain ⟨p, hp, rfl⟩ := h
  have hm := List.mem_of_find?_eq_some hp
  clear hp
  unfold usedP
  induction F with
  | nil => cases hm
  | cons q F ih =>
    simp only [List.map_cons, List.sum_cons]
    rcases List.mem_cons.1 hm with rfl | h
    · omega
    · have := ih h; omega
theorem key_le {α : Type} {enc : α → Value} {w : World} {b : Nat} {F : EnS α} (h : MpS enc Try.prog 9 w b F) {k : List UInt8} (hk : k ∈ F.map (·.1)) : (⟨k.toArray⟩ : ByteArray).size ≤ maxLen := by
  have hks : strKeys (DataW.map (F.map (encE enc))) = F.map (·.1) := by
    show (F.map (encE enc)).map (fun p => strOf p.1) = _
    rw [List.map_map]
    rfl
  have := strKeys_le h Try.underlying9 k (by rw [hks]; exact hk)
  simpa [ByteArray.size] using this
theorem row_at {w : World} {base n : Nat} {al : Option Addr} {cl : Nat} {xs : List ByteArray} (h : w.ownsRow base 9 1 (.slice al n cl) xs.length (xs.map .string)) (h0 : 0 < xs.length) :
    ∃ g, al = some ⟨g, 0, none⟩ ∧ base ≤ g ∧ ∀ i (hi : i < xs.length), w.cell? ⟨g, i, none⟩ = some (.string xs[i]) := by
  rcases h.2 with ⟨_, h1⟩ | ⟨g, cap, cur, hv, hb, _⟩
  · omega
  · simp only [Value.slice.injEq] at hv
    obtain ⟨rfl, rfl, rfl⟩ := hv
    refine ⟨g, rfl, hb, ?_⟩
    obtain ⟨ad, c, e0, _, _, _, h4⟩ := own_sl h
    obtain ⟨b2, o2, e, hc⟩ := h4 h0
    simp only [Value.slice.injEq] at e0
    rw [← e0.1] at e
    simp only [Option.some.injEq, Addr.mk.injEq, and_true] at e
    obtain ⟨rfl, rfl⟩ := e
    intro i hi
    have := hc i hi
    rwa [Nat.zero_add] at this
set_option maxRecDepth 100000 in
set_option maxHeartbeats 16000000 in
theorem vdiskLasts_walk (va : Value) (la : List ActP) (vb : Value) (lb : List ActP) (keep : Int) (w : World)
    (ha : SlA w va la) (za : ∀ x ∈ la, x.2.1.size ≤ reachBytes ∧ x.2.2.size ≤ reachBytes) (hb : SlA w vb lb) (zb : ∀ x ∈ lb, x.2.1.size ≤ reachBytes ∧ x.2.2.size ≤ reachBytes) (hkp : (Lit.int .i64 keep).wf = true) :
    Calls Try.prog 10 #[va, vb, .int .i64 keep] w fun e w' => e = .returned (.bool true) ∧ Same w w' := by
  have HA := Lib.hid ha; have HBB := Lib.hid hb; have ZA := Lib.hid za; have ZB := Lib.hid zb; have HKP := Lib.hid (bounds_i64 hkp)
  have CFA := Lib.hid (fun w0 (h : Same w w0) => vfew_any va la w0 (ha.same h) za)
  have CFB := Lib.hid (fun w0 (h : Same w w0) => vfew_any vb lb w0 (hb.same h) zb)
  obtain ⟨aa, ca, rfl, _, _, _⟩ := ha
  obtain ⟨ab, cb, rfl, _, _, _⟩ := hb
  clear za zb hkp
  go_enter Try.func10, Try.ntmps10
  go_wp2_with fail
  refine (vd_awake w).mono ?_
  rintro e w1 ⟨rfl, hS1⟩
  go_wp2_with fail
  refine (CFA.out _ hS1).mono ?_
  rintro e w2 ⟨r1, rfl, hS2, hr1⟩
  have hS2 := hS1.then hS2
  cases r1 with
  | false =>
    go_wp2_with fail
    go_ret
    exact ⟨rfl, hS2⟩
  | true =>
  go_wp2_with fail
  refine (CFB.out _ hS2).mono ?_
  rintro e w3 ⟨r2, rfl, hS3, hr2⟩
  have hS3 := hS2.then hS3
  cases r2 with
  | false =>
    go_wp2_with fail
    go_ret
    exact ⟨rfl, hS3⟩
  | true =>
  have hla : la.length ≤ 150 := by simpa using hr1
  have hlb : lb.length ≤ 150 := by simpa using hr2
  clear hr1 hr2 hS1 hS2 CFA CFB
  go_wp2_with fail
  refine (vnew_any 1048576 w3 (by omega)).mono ?_
  rintro e w4 ⟨rfl, hS4, hd4⟩
  obtain ⟨b, hb⟩ : ∃ b, b = w3.heap.size + 1 := ⟨_, rfl⟩
  obtain ⟨mb, hmb⟩ : ∃ b, b = w3.heap.size := ⟨_, rfl⟩
  rw [← hb, ← hmb] at hd4
  rw [← hb]
  have HB : Hid (w.heap.size ≤ mb ∧ mb < b) := Lib.hid (by have := hS3.size; omega)
  have HS4 := Lib.hid (hS3.then hS4); have H4 := Lib.hid hd4
  have HSM : Hid (∀ a c, Same w a → Only (fun i => i = b ∨ i = mb) a c → Same w c) := Lib.hid (fun a c h1 h2 => h1.trans h2 (fun i hi h => by have := HB.out; omega))
  clear hb hmb hS3 hS4 hd4
  go_wp2_with fail
  go_loopw [9] (fun i wr => ∃ (k : Nat) (d : Dk), k ≤ la.length ∧ i = .int .i64 k ∧ VInv (fun _ => 0) d k ∧ DkW wr b mb d ∧ Same w wr) (fun i _ => la.length - (intOf i).toNat)
  case atStart => exact ⟨0, _, by omega, rfl, vinv_new, H4.out, HS4.out⟩
  case round =>
    obtain ⟨k, d, hk, rfl, hvi, hdk, hS⟩ := hrel
    obtain ⟨w5, hw5⟩ : ∃ x, x = wr := ⟨_, rfl⟩
    subst hw5
    have HVI := Lib.hid hvi; have HDK := Lib.hid hdk; have HS := Lib.hid hS
    clear hvi hdk hS
    by_cases hlt : k < la.length
    · obtain ⟨b1, o1, rfl, hcell⟩ := HA.out.spot (by omega)
      obtain ⟨c0, c1, c2⟩ := hcell k hlt
      have k0 := HS.out.cell_eq c0 (fun h => h)
      have hz := ZA.out la[k] (List.getElem_mem hlt)
      have hK1 : ∀ w', Same w w' → (w'.cell? ⟨b1, o1 + k * 6 + 1, none⟩ = some (.string la[k].2.1) ∧ w'.cell? ⟨b1, o1 + k * 6 + 2, none⟩ = some (.string la[k].2.2)) := fun w' h => ⟨h.cell_eq c1 (fun h => h), h.cell_eq c2 (fun h => h)⟩
      generalize la[k] = x at *
      obtain ⟨xk, xn, xs⟩ := x
      simp only at k0 hz hK1
      have HK := Lib.hid hK1
      have hrb : reachBytes = 140737488351232 := rfl
      have hd8 : decide ((k : Int) < (la.length : Int)) = true := decide_eq_true (by omega)
      have hd9 : decide (k < la.length) = true := decide_eq_true hlt
      have hw6 : IntKind.i64.wrap ((k : Int) + 1) = (k : Int) + 1 := wrapS (by omega)
      by_cases hx0 : xk = 0
      · have hbk : (xk == 0) = true := by simpa using hx0
        have cap := fun w0 (h : Same w5 w0) => vappend_any b mb d xn xs w0 (HDK.out.same h) (by unfold maxLen; omega) (by omega) (HVI.out.dok (by omega)) (by rw [HVI.out.1]; omega) (by have := HVI.out.2.2.2.2.2.2.1; omega)
        have CAP := Lib.hid cap
        obtain ⟨k1, k2⟩ := hK1 w5 HS.out
        have q0 : Same w w5 := HS.out
        clear hcell c0 c1 c2 hz hK1 hrb cap hx0
        go_upto_region 12 with fail
        go_region_held3 (fun w' => w'.cell? ⟨b1, o1 + k * 6 + 1, none⟩ = some (.string xn) ∧ w'.cell? ⟨b1, o1 + k * 6 + 2, none⟩ = some (.string xs))
          (first | exact HK.out _ q0 | exact HK.out _ q0.drew)
          (first
            | ((go_at_call 63; (first | refine (CAP.out _ (Only.refl _ _)).mono ?_ | refine (CAP.out _ ((Only.refl _ _).drew)).mono ?_); rintro e w6 ⟨rfl, hd6, hO6⟩; have q0 := HSM.out _ _ (by first | exact q0 | exact q0.drew) hO6)))
        all_goals
          have HD6 := Lib.hid hd6
          clear hd6 hO6
          go_wp2_with fail
          go_roundw
          case rel => exact ⟨k + 1, (appendD d xn xs).1, by omega, by go_num, vinv_append HVI.out xn xs (by omega), HD6.out, q0⟩
          case measure => simp [intOf]; omega
      · have hbk : (xk == 0) = false := by simpa using hx0
        clear hcell c0 c1 c2 hz hK1 hrb hx0
        go_wp2_with fail
        go_roundw
        case rel => exact ⟨k + 1, d, by omega, by go_num, HVI.out.mono (by omega), HDK.out, HS.out⟩
        case measure => simp [intOf]; omega
    · obtain rfl : k = la.length := by omega
      obtain ⟨d1, hd1⟩ : ∃ d1, d1 = d := ⟨_, rfl⟩
      subst hd1
      obtain ⟨wm, hwm⟩ : ∃ x, x = w5.heap.size := ⟨_, rfl⟩
      have hmm := @run_makeMap Try.prog
      have hmp := MpS.made Value.string Try.prog 9 w5
      have hSm : Same w5 (w5.alloc (.map #[] 0)) := (Only.refl _ w5).alloc _
      have hzm : (w5.alloc (.map #[] 0)).heap.size = w5.heap.size + 1 := by simp
      have HWM : Hid (b < wm) := Lib.hid (by have := heap_lt HDK.out.1; omega)
      go_upto_region 14 with fail
      rw [← hwm] at hmp hzm ⊢
      generalize w5.alloc (.map #[] 0) = w6 at *
      have HM6 := Lib.hid hmp; have HS6 := Lib.hid (HS.out.then hSm); have H6 := Lib.hid (HDK.out.same hSm); have HZ6 := Lib.hid hzm
      clear hmp hSm hzm hmm hwm HS HDK
      go_wp2_with fail
      refine (vlist_any b mb d1 w6 H6.out (by have := HVI.out.2.2.2.2.2.2.1; omega)).mono ?_
      rintro e w7 ⟨vl, rfl, hS7, hrow⟩
      obtain ⟨al, cl, hvl, hcl1, hcl2, _⟩ := own_sl hrow
      subst hvl
      have hnl : (namesB d1.F).length = d1.F.length := by unfold namesB; rw [List.length_map]
      have HROW : Hid (w7.ownsRow (wm + 1) 9 1 (.slice al (namesB d1.F).length cl) (namesB d1.F).length ((namesB d1.F).map .string)) := Lib.hid (by rw [← HZ6.out]; exact hrow)
      have HM7 := Lib.hid (HM6.out.same hS7); have H7 := Lib.hid (H6.out.same hS7); have HS7 := Lib.hid (HS6.out.then hS7)
      have HNL := Lib.hid hnl
      unfold maxLen at hcl2
      clear hrow hS7 hnl HM6 HS6 H6 HZ6
      go_wp2_with fail
      go_loopw [12] (fun i wr => ∃ (r : Nat) (d : Dk) (M : EnS ByteArray), r ≤ (namesB d1.F).length ∧ i = .int .i64 r ∧ SyI d1 ((ksS d1.F).take r) d (la.length + r) ∧ DkW wr b mb d ∧ Same w wr ∧ MpS .string Try.prog 9 wr wm M ∧ M.length ≤ r ∧
        (∀ k, getS M k = if k ∈ (ksS d1.F).take r then (getS d1.F k).map (·.1) else none) ∧ wr.ownsRow (wm + 1) 9 1 (.slice al (namesB d1.F).length cl) (namesB d1.F).length ((namesB d1.F).map .string)) (fun i _ => (namesB d1.F).length - (intOf i).toNat)
      case atStart => exact ⟨0, d1, [], by omega, rfl, syi_start HVI.out, H7.out, HS7.out, HM7.out, by simp, fun k => by simp [getS], HROW.out⟩
      case round =>
        obtain ⟨r, d, M, hr, rfl, hsy, hdk, hS, hmp, hml, hgm, hrow⟩ := hrel
        obtain ⟨w8, hw8⟩ : ∃ x, x = wr := ⟨_, rfl⟩
        subst hw8
        have HSY := Lib.hid hsy; have HDK := Lib.hid hdk; have HS := Lib.hid hS; have HMP := Lib.hid hmp; have HML := Lib.hid hml; have HGM := Lib.hid hgm; have HRW := Lib.hid hrow
        clear hsy hdk hS hmp hml hgm hrow
        by_cases hlr : r < (namesB d1.F).length
        · have hl2 : r < (ksS d1.F).length := by rw [List.length_map]; have := HNL.out; omega
          obtain ⟨g, rfl, hgb, hcell⟩ := row_at HRW.out (by omega)
          have k0 := hcell r hlr
          rw [names_at d1.F r hlr hl2] at k0
          have hin : (ksS d1.F)[r] ∈ ksS d1.F := List.getElem_mem hl2
          have hst : (ksS d1.F).take (r + 1) = (ksS d1.F).take r ++ [(ksS d1.F)[r]] := (List.take_append_getElem hl2).symm
          obtain ⟨st1, st2, st3⟩ := syi_step HSY.out hin (by have := HVI.out.2.2.2.2.2.2.1; have := HNL.out; omega)
          rw [← hst] at st2
          have hkl : (⟨((ksS d1.F)[r]).toArray⟩ : ByteArray).size ≤ maxLen := key_le H7.out.2 hin
          have hxs : (getS d1.F (ksS d1.F)[r]).isSome = true := keys_get.1 hin
          generalize (ksS d1.F)[r] = k at *
          obtain ⟨c, hc⟩ : ∃ c, (getS d1.F k).map (·.1) = some c := by
            cases hg : getS d1.F k with
            | none => rw [hg] at hxs; cases hxs
            | some x => exact ⟨x.1, rfl⟩
          rw [hc] at st3
          simp only [Option.getD_some] at st3
          have cs := vsync_any b mb d ⟨k.toArray⟩ w8 HDK.out hkl (HSY.out.dok (by have := HVI.out.2.2.2.2.2.2.1; have := HNL.out; omega) HVI.out.2.2.2.2.2.1 HVI.out.2.2.2.2.2.2.1)
          simp only [toList_mk, st1] at cs
          have CS := Lib.hid cs; have ST2 := Lib.hid st2; have ST3 := Lib.hid st3; have HKL := Lib.hid hkl; have HC := Lib.hid hc; have HST := Lib.hid hst; have HGB := Lib.hid hgb
          have hd8 : decide ((r : Int) < ((namesB d1.F).length : Int)) = true := decide_eq_true (by omega)
          have hd9 : decide (r < (namesB d1.F).length) = true := decide_eq_true hlr
          have hw6 : IntKind.i64.wrap ((r : Int) + 1) = (r : Int) + 1 := wrapS (by omega)
          have hwb : wm ≠ b ∧ wm ≠ mb := by have := HWM.out; have := HB.out; omega
          have HWB := Lib.hid hwb
          clear hcell hin hst st1 st2 st3 hkl hxs hc cs hgb hwb
          go_upto_region 20 with (go_at_call 65; refine CS.out.mono ?_; rintro e w9 ⟨rfl, hd9', hO9⟩)
          have HD9 := Lib.hid hd9'
          have HS9 := Lib.hid (HSM.out _ _ HS.out hO9)
          have HM9 := Lib.hid (HMP.out.only hO9 (fun h => by have := HWB.out; omega))
          have HR9 := Lib.hid (own_keep HRW.out hO9 (fun i hi h => by have h1 := (HRW.out.lt i hi).1; have := HWM.out; have := HB.out; omega))
          have k0 := hO9.cell_eq k0 (fun h => by have := HGB.out; have := HWM.out; have := HB.out; omega)
          have cr := fun w0 (h : Same w9 w0) => vread_any b mb (syncD d k).1 ⟨k.toArray⟩ w0 (HD9.out.same h) HKL.out
          simp only [toList_mk, ST3.out] at cr
          have CR := Lib.hid cr
          have HK : Hid (∀ w', Only (fun i => i = wm) w9 w' → w'.cell? ⟨g, r, none⟩ = some (.string ⟨k.toArray⟩)) := Lib.hid (fun w' h => h.cell_eq k0 (fun h => by have h2 : g = wm := h; have := HGB.out; omega))
          have q0 : Only (fun i => i = wm) w9 w9 := Only.refl _ _
          have hmn : M.length < maxLen := by have := HML.out; have := HNL.out; have := HVI.out.2.2.2.2.2.2.1; unfold maxLen; omega
          have HMN := Lib.hid hmn
          clear hd9' hO9 cr CS HDK HS HMP HRW hmn
          go_region_held3 (fun w' => w'.cell? ⟨g, r, none⟩ = some (.string ⟨k.toArray⟩))
            (first | exact HK.out _ q0 | exact HK.out _ q0.drew | exact HK.out _ q1 | exact HK.out _ q1.drew)
            (first
              | ((go_at_call 66; (first | refine (CR.out _ (Only.refl _ _)).mono ?_ | refine (CR.out _ ((Only.refl _ _).drew)).mono ?_); rintro e w10 ⟨rfl, hS10⟩; have HS10 := Lib.hid (show Same w9 w10 from by first | exact hS10 | exact ((Only.refl _ w9).drew).then hS10); have q0 := Only.then (by first | exact q0 | exact q0.drew) hS10; clear hS10; obtain ⟨w11, hrun11, hm11, hO11⟩ := (HM9.out.same HS10.out).run_put (t := 109) (e := 9) Try.underlying9 Try.underlying109 HMN.out ⟨k.toArray⟩ HKL.out c; have q1 := Only.same (by first | exact q0 | exact q0.drew) hO11)))
          all_goals
            have HDF := Lib.hid (HD9.out.only q1 (fun h => by have h2 : b = wm := h; have := HWB.out; omega) (fun h => by have h2 : mb = wm := h; have := HWB.out; omega))
            have HRF := Lib.hid (own_keep HR9.out q1 (fun i hi h => by have h1 := (HR9.out.lt i hi).1; have h2 : i = wm := h; omega))
            have HSF := Lib.hid (HS9.out.trans (S := fun _ => False) q1 (fun i hi h => by have h2 : i = wm := h; have := HWM.out; have := HB.out; omega))
            have HMF := Lib.hid hm11
            have hgm : ∀ k', getS (putS M k c) k' = if k' ∈ (ksS d1.F).take (r + 1) then (getS d1.F k').map (·.1) else none := by
              intro k'
              rw [getS_put (HM9.out.sort Try.underlying9), HST.out, HGM.out k']
              by_cases e : k' = k
              · subst e
                rw [if_pos rfl, if_pos (by simp), HC.out]
              · rw [if_neg e]
                by_cases e2 : k' ∈ (ksS d1.F).take r
                · rw [if_pos e2, if_pos (List.mem_append_left _ e2)]
                · rw [if_neg e2, if_neg (fun h => by rcases List.mem_append.1 h with h | h; exact e2 h; exact e (List.mem_singleton.1 h))]
            have hmlen : (putS M k c).length ≤ r + 1 := by
              have h1 := (sum_putS (fun _ : ByteArray => 0) k c (HM9.out.sort Try.underlying9)).2
              have h2 := HML.out
              split at h1 <;> omega
            have HGF := Lib.hid hgm; have HLF := Lib.hid hmlen
            clear hgm hmlen hm11 hrun11 hO11 q1 q0
            go_wp2_with fail
            go_roundw
            case rel => exact ⟨r + 1, (syncD d k).1, putS M k c, by omega, by go_num, ST2.out, HDF.out, HSF.out, HMF.out, HLF.out, HGF.out, HRF.out⟩
            case measure => simp [intOf]; omega
        · obtain rfl : r = (namesB d1.F).length := by omega
          have htk : (ksS d1.F).take (namesB d1.F).length = ksS d1.F := by rw [List.take_of_length_le]; rw [List.length_map, HNL.out]; exact Nat.le_refl _
          have hsy := HSY.out
          rw [htk] at hsy
          have hgm := HGM.out
          simp only [htk] at hgm
          have hvi := syi_end hsy HVI.out.2.2.2.2.2.1 HVI.out.2.2.2.2.2.2.1 hgm
          obtain ⟨N0, hN0⟩ : ∃ N0, N0 = la.length + (namesB d1.F).length := ⟨_, rfl⟩
          have hn214 : N0 ≤ 214 := by have := HVI.out.2.2.2.2.2.2.1; have := HNL.out; omega
          rw [← hN0] at hvi
          have HVN := Lib.hid hvi; have HN0 := Lib.hid hn214
          have hd9 : decide (((namesB d1.F).length : Int) < ((namesB d1.F).length : Int)) = false := by simp
          clear hN0 hn214 htk hsy hgm hvi HSY HGM HRW HROW HML
          go_wp2_with fail
          go_loopw [13] (fun i wr => ∃ (k : Nat) (d : Dk), k ≤ lb.length ∧ i = .int .i64 k ∧ VInv (fun k => ((getS M k).map ByteArray.size).getD 0) d (N0 + k) ∧ DkW wr b mb d ∧ Same w wr ∧ MpS .string Try.prog 9 wr wm M) (fun i _ => lb.length - (intOf i).toNat)
          case atStart => exact ⟨0, d, by omega, rfl, HVN.out, HDK.out, HS.out, HMP.out⟩
          case round =>
            obtain ⟨k, d3, hk, rfl, hvi, hdk, hS, hmp⟩ := hrel
            obtain ⟨w9, hw9⟩ : ∃ x, x = wr := ⟨_, rfl⟩
            subst hw9
            have HVI3 := Lib.hid hvi; have HDK3 := Lib.hid hdk; have HS3 := Lib.hid hS; have HMP3 := Lib.hid hmp
            clear hvi hdk hS hmp
            by_cases hlt : k < lb.length
            · obtain ⟨b1, o1, rfl, hcell⟩ := HBB.out.spot (by omega)
              obtain ⟨c0, c1, c2⟩ := hcell k hlt
              have k0 := HS3.out.cell_eq c0 (fun h => h)
              have hz := ZB.out lb[k] (List.getElem_mem hlt)
              have hK1 : ∀ w', Same w w' → (w'.cell? ⟨b1, o1 + k * 6 + 1, none⟩ = some (.string lb[k].2.1) ∧ w'.cell? ⟨b1, o1 + k * 6 + 2, none⟩ = some (.string lb[k].2.2)) := fun w' h => ⟨h.cell_eq c1 (fun h => h), h.cell_eq c2 (fun h => h)⟩
              generalize lb[k] = x at *
              obtain ⟨xk, xn, xs⟩ := x
              simp only at k0 hz hK1
              have HK := Lib.hid hK1
              have hrb : reachBytes = 140737488351232 := rfl
              have hd8 : decide ((k : Int) < (lb.length : Int)) = true := decide_eq_true (by omega)
              have hd10 : decide (k < lb.length) = true := decide_eq_true hlt
              have hw6 : IntKind.i64.wrap ((k : Int) + 1) = (k : Int) + 1 := wrapS (by omega)
              by_cases hx0 : xk = 0
              · have hbk : (xk == 0) = true := by simpa using hx0
                have cap := fun w0 (h : Same w9 w0) => vappend_any b mb d3 xn xs w0 (HDK3.out.same h) (by unfold maxLen; omega) (by omega) (HVI3.out.dok (by have := HN0.out; omega)) (by rw [HVI3.out.1]; omega) (by have := HVI3.out.2.2.2.2.2.2.1; omega)
                have CAP := Lib.hid cap
                obtain ⟨k1, k2⟩ := hK1 w9 HS3.out
                have q0 : Same w w9 := HS3.out
                clear hcell c0 c1 c2 hz hK1 hrb cap hx0
                go_upto_region 25 with fail
                go_region_held3 (fun w' => w'.cell? ⟨b1, o1 + k * 6 + 1, none⟩ = some (.string xn) ∧ w'.cell? ⟨b1, o1 + k * 6 + 2, none⟩ = some (.string xs))
                  (first | exact HK.out _ q0 | exact HK.out _ q0.drew)
                  (first
                    | ((go_at_call 63; (first | refine (CAP.out _ (Only.refl _ _)).mono ?_ | refine (CAP.out _ ((Only.refl _ _).drew)).mono ?_); rintro e w10 ⟨rfl, hd6, hO6⟩; have q0 := HSM.out _ _ (by first | exact q0 | exact q0.drew) hO6; have q9 : Only (fun i => i = b ∨ i = mb) w9 w10 := (by first | exact hO6 | exact (((Only.refl (fun i => i = b ∨ i = mb) w9).drew).same hO6)))))
                all_goals
                  have HD6 := Lib.hid hd6
                  have HM6 := Lib.hid (HMP3.out.only q9 (fun h => by have := HWM.out; have := HB.out; omega))
                  clear hd6 hO6 q9
                  go_wp2_with fail
                  go_roundw
                  case rel => exact ⟨k + 1, (appendD d3 xn xs).1, by omega, by go_num, vinv_append HVI3.out xn xs (by have := HN0.out; omega), HD6.out, q0, HM6.out⟩
                  case measure => simp [intOf]; omega
              · have hbk : (xk == 0) = false := by simpa using hx0
                clear hcell c0 c1 c2 hz hK1 hrb hx0
                go_wp2_with fail
                go_roundw
                case rel => exact ⟨k + 1, d3, by omega, by go_num, HVI3.out.mono (by omega), HDK3.out, HS3.out, HMP3.out⟩
                case measure => simp [intOf]; omega
            · obtain rfl : k = lb.length := by omega
              obtain ⟨wf, hwf⟩ : ∃ x, x = w9.heap.size := ⟨_, rfl⟩
              have hmm := @run_makeMap Try.prog
              have hmp := MpS.made Value.string Try.prog 9 w9
              have hSm : Same w9 (w9.alloc (.map #[] 0)) := (Only.refl _ w9).alloc _
              have hzm : (w9.alloc (.map #[] 0)).heap.size = w9.heap.size + 1 := by simp
              have HWF : Hid (b < wf ∧ wm < wf) := Lib.hid ⟨by have := heap_lt HDK3.out.1; omega, by have := HMP3.out.lt; omega⟩
              have hd10 : decide ((lb.length : Int) < (lb.length : Int)) = false := by simp
              go_upto_region 27 with fail
              rw [← hwf] at hmp hzm ⊢
              generalize w9.alloc (.map #[] 0) = w10 at *
              have HF10 := Lib.hid hmp; have HS10 := Lib.hid (HS3.out.then hSm); have H10 := Lib.hid (HDK3.out.same hSm); have HZ10 := Lib.hid hzm; have HM10 := Lib.hid (HMP3.out.same hSm)
              clear hmp hSm hzm hmm hwf HS3 HDK3 HMP3
              go_wp2_with fail
              refine (vlist_any b mb d3 w10 H10.out (by have := HVI3.out.2.2.2.2.2.2.1; omega)).mono ?_
              rintro e w11 ⟨v3, rfl, hS11, hrow⟩
              obtain ⟨am, cm, hv3, hcm1, hcm2, _⟩ := own_sl hrow
              subst hv3
              have hnl : (namesB d3.F).length = d3.F.length := by unfold namesB; rw [List.length_map]
              have HROW : Hid (w11.ownsRow (wf + 1) 9 1 (.slice am (namesB d3.F).length cm) (namesB d3.F).length ((namesB d3.F).map .string)) := Lib.hid (by rw [← HZ10.out]; exact hrow)
              have HF11 := Lib.hid (HF10.out.same hS11); have H11 := Lib.hid (H10.out.same hS11); have HS11 := Lib.hid (HS10.out.then hS11); have HM11 := Lib.hid (HM10.out.same hS11)
              have HNL3 := Lib.hid hnl
              unfold maxLen at hcm2
              clear hrow hS11 hnl HF10 HS10 H10 HZ10 HM10
              go_wp2_with fail
              go_loopw [16] (fun i wr => ∃ (r : Nat) (M2 : EnS ByteArray), r ≤ (namesB d3.F).length ∧ i = .int .i64 r ∧ DkW wr b mb d3 ∧ Same w wr ∧ MpS .string Try.prog 9 wr wm M ∧ MpS .string Try.prog 9 wr wf M2 ∧ M2.length ≤ r ∧
                (∀ k, getS M2 k = if k ∈ (ksS d3.F).take r then (getS d3.F k).map (·.1) else none) ∧ wr.ownsRow (wf + 1) 9 1 (.slice am (namesB d3.F).length cm) (namesB d3.F).length ((namesB d3.F).map .string)) (fun i _ => (namesB d3.F).length - (intOf i).toNat)
              case atStart => exact ⟨0, [], by omega, rfl, H11.out, HS11.out, HM11.out, HF11.out, by simp, fun k => by simp [getS], HROW.out⟩
              case round =>
                obtain ⟨r, M2, hr, rfl, hdk, hS, hmp, hmf, hml, hgm, hrow⟩ := hrel
                obtain ⟨w12, hw12⟩ : ∃ x, x = wr := ⟨_, rfl⟩
                subst hw12
                have HDK := Lib.hid hdk; have HS := Lib.hid hS; have HMP := Lib.hid hmp; have HMF := Lib.hid hmf; have HML := Lib.hid hml; have HGM := Lib.hid hgm; have HRW := Lib.hid hrow
                clear hdk hS hmp hmf hml hgm hrow
                by_cases hlr : r < (namesB d3.F).length
                · have hl2 : r < (ksS d3.F).length := by rw [List.length_map]; have := HNL3.out; omega
                  obtain ⟨g, rfl, hgb, hcell⟩ := row_at HRW.out (by omega)
                  have k0 := hcell r hlr
                  rw [names_at d3.F r hlr hl2] at k0
                  have hin : (ksS d3.F)[r] ∈ ksS d3.F := List.getElem_mem hl2
                  have hst : (ksS d3.F).take (r + 1) = (ksS d3.F).take r ++ [(ksS d3.F)[r]] := (List.take_append_getElem hl2).symm
                  have hkl : (⟨((ksS d3.F)[r]).toArray⟩ : ByteArray).size ≤ maxLen := key_le H11.out.2 hin
                  have hxs : (getS d3.F (ksS d3.F)[r]).isSome = true := keys_get.1 hin
                  generalize (ksS d3.F)[r] = k at *
                  obtain ⟨x, hx⟩ : ∃ x, getS d3.F k = some x := by
                    cases hg : getS d3.F k with
                    | none => rw [hg] at hxs; cases hxs
                    | some x => exact ⟨x, rfl⟩
                  obtain ⟨c, xn⟩ := x
                  have hrd := readD_ok HVI3.out.2.2.1 hx
                  have cr := fun w0 (h : Same w12 w0) => vread_any b mb d3 ⟨k.toArray⟩ w0 (HDK.out.same h) hkl
                  simp only [toList_mk, hrd] at cr
                  have CR := Lib.hid cr; have HKL := Lib.hid hkl; have HC := Lib.hid hx; have HST := Lib.hid hst; have HGB := Lib.hid hgb
                  have hd8 : decide ((r : Int) < ((namesB d3.F).length : Int)) = true := decide_eq_true (by omega)
                  have hd11 : decide (r < (namesB d3.F).length) = true := decide_eq_true hlr
                  have hw6 : IntKind.i64.wrap ((r : Int) + 1) = (r : Int) + 1 := wrapS (by omega)
                  have HK : Hid (∀ w', Only (fun i => i = wf) w12 w' → w'.cell? ⟨g, r, none⟩ = some (.string ⟨k.toArray⟩)) := Lib.hid (fun w' h => h.cell_eq k0 (fun h => by have h2 : g = wf := h; have := HGB.out; omega))
                  have q0 : Only (fun i => i = wf) w12 w12 := Only.refl _ _
                  have hmn : M2.length < maxLen := by have := HML.out; have := HNL3.out; have := HVI3.out.2.2.2.2.2.2.1; unfold maxLen; omega
                  have HMN := Lib.hid hmn
                  clear hcell hin hst hkl hxs hx hrd cr hgb hmn
                  go_upto_region 31 with fail
                  go_region_held3 (fun w' => w'.cell? ⟨g, r, none⟩ = some (.string ⟨k.toArray⟩))
                    (first | exact HK.out _ q0 | exact HK.out _ q0.drew | exact HK.out _ q1 | exact HK.out _ q1.drew)
                    (first
                      | ((go_at_call 66; (first | refine (CR.out _ (Only.refl _ _)).mono ?_ | refine (CR.out _ ((Only.refl _ _).drew)).mono ?_); rintro e w13 ⟨rfl, hS13⟩; have HS13 := Lib.hid (show Same w12 w13 from by first | exact hS13 | exact ((Only.refl _ w12).drew).then hS13); have q0 := Only.then (by first | exact q0 | exact q0.drew) hS13; clear hS13; obtain ⟨w14, hrun14, hm14, hO14⟩ := (HMF.out.same HS13.out).run_put (t := 109) (e := 9) Try.underlying9 Try.underlying109 HMN.out ⟨k.toArray⟩ HKL.out c; have q1 := Only.same (by first | exact q0 | exact q0.drew) hO14)))
                  all_goals
                    have hwb : wf ≠ b ∧ wf ≠ mb ∧ wf ≠ wm := by have := HWF.out; have := HB.out; omega
                    have HDF := Lib.hid (HDK.out.only q1 (fun h => by have h2 : b = wf := h; omega) (fun h => by have h2 : mb = wf := h; omega))
                    have HPF := Lib.hid (HMP.out.only q1 (fun h => by have h2 : wm = wf := h; omega))
                    have HRF := Lib.hid (own_keep HRW.out q1 (fun i hi h => by have h1 := (HRW.out.lt i hi).1; have h2 : i = wf := h; omega))
                    have HSF := Lib.hid (HS.out.trans (S := fun _ => False) q1 (fun i hi h => by have h2 : i = wf := h; have := HWF.out; have := HB.out; omega))
                    have HMG := Lib.hid hm14
                    have hgm : ∀ k', getS (putS M2 k c) k' = if k' ∈ (ksS d3.F).take (r + 1) then (getS d3.F k').map (·.1) else none := by
                      intro k'
                      rw [getS_put (HMF.out.sort Try.underlying9), HST.out, HGM.out k']
                      by_cases e : k' = k
                      · subst e
                        rw [if_pos rfl, if_pos (by simp), HC.out]; rfl
                      · rw [if_neg e]
                        by_cases e2 : k' ∈ (ksS d3.F).take r
                        · rw [if_pos e2, if_pos (List.mem_append_left _ e2)]
                        · rw [if_neg e2, if_neg (fun h => by rcases List.mem_append.1 h with h | h; exact e2 h; exact e (List.mem_singleton.1 h))]
                    have hmlen : (putS M2 k c).length ≤ r + 1 := by
                      have h1 := (sum_putS (fun _ : ByteArray => 0) k c (HMF.out.sort Try.underlying9)).2
                      have h2 := HML.out
                      split at h1 <;> omega
                    have HGF := Lib.hid hgm; have HLF := Lib.hid hmlen
                    clear hgm hmlen hm14 hrun14 hO14 q1 q0 hwb
                    go_wp2_with fail
                    go_roundw
                    case rel => exact ⟨r + 1, putS M2 k c, by omega, by go_num, HDF.out, HSF.out, HPF.out, HMG.out, HLF.out, HGF.out, HRF.out⟩
                    case measure => simp [intOf]; omega
                · obtain rfl : r = (namesB d3.F).length := by omega
                  have htk : (ksS d3.F).take (namesB d3.F).length = ksS d3.F := by rw [List.take_of_length_le]; rw [List.length_map, HNL3.out]; exact Nat.le_refl _
                  have hgm : ∀ k, getS M2 k = (getS d3.F k).map (·.1) := by
                    intro k
                    rw [HGM.out k, htk]
                    split
                    · rfl
                    · rename_i h
                      cases hg : getS d3.F k with
                      | none => rfl
                      | some x => exact absurd (keys_get.2 (by rw [hg]; rfl)) h
                  have HG := Lib.hid hgm
                  have hd11 : decide (((namesB d3.F).length : Int) < ((namesB d3.F).length : Int)) = false := by simp
                  have hok3 : DOK d3 := HVI3.out.dok (by have := HN0.out; omega)
                  have ce := crash_any b mb d3 keep w12 HDK.out (by have := HVI3.out.2.2.2.2.2.1; omega) (by have := HVI3.out.2.2.2.2.2.2.1; omega) hok3.2.2.1
                  have CE := Lib.hid ce
                  clear htk hgm hok3 ce HGM HRW HML
                  go_wp2_with fail
                  refine CE.out.mono ?_
                  rintro e w13 ⟨rfl, hd13, hO13⟩
                  have H13 := Lib.hid hd13
                  have HS13 := Lib.hid (HSM.out _ _ HS.out hO13)
                  have HP13 := Lib.hid (HMP.out.only hO13 (fun h => by have := HWM.out; have := HB.out; omega))
                  have HF13 := Lib.hid (HMF.out.only hO13 (fun h => by have := HWF.out; have := HB.out; omega))
                  clear hd13 hO13 HS HMP HMF HDK CE
                  go_wp2_with fail
                  refine (vstart_any b mb _ w13 H13.out).mono ?_
                  rintro e w14 ⟨rfl, hd14, hO14⟩
                  have hF5 : (crashD d3 keep).F = d3.F.map fun p => (p.1, cutF (max keep 0) p.2) := by unfold crashD; rw [HVI3.out.2.2.1]; rfl
                  obtain ⟨d5, hd5⟩ : ∃ d5, d5 = { (crashD d3 keep) with down := false } := ⟨_, rfl⟩
                  have hF : d5.F = d3.F.map fun p => (p.1, cutF (max keep 0) p.2) := by rw [hd5]; exact hF5
                  have hdn : d5.down = false := by rw [hd5]
                  rw [← hd5] at hd14
                  have hn5 : namesB d5.F = namesB d3.F := by rw [hF]; unfold namesB; rw [List.map_map]; rfl
                  have hl5 : d5.F.length = d3.F.length := by rw [hF, List.length_map]
                  have hk5 : ksS d5.F = ksS d3.F := by rw [hF]; unfold ksS; rw [List.map_map]; rfl
                  have H14 := Lib.hid hd14
                  have HS14 := Lib.hid (HSM.out _ _ HS13.out (hO14.mono (fun i _ h => Or.inl h)))
                  have HP14 := Lib.hid (HP13.out.only hO14 (fun h => by have h2 : wm = b := h; have := HWM.out; have := HB.out; omega))
                  have HF14 := Lib.hid (HF13.out.only hO14 (fun h => by have h2 : wf = b := h; have := HWF.out; have := HB.out; omega))
                  have HFF := Lib.hid hF; have HDN := Lib.hid hdn; have HN5 := Lib.hid hn5; have HL5 := Lib.hid hl5; have HK5 := Lib.hid hk5
                  clear hd14 hO14 hF5 hd5 hF hdn hn5 hl5 hk5 H13 HS13 HP13 HF13
                  obtain ⟨n0, hn0⟩ : ∃ x, x = w14.heap.size := ⟨_, rfl⟩
                  go_wp2_with fail
                  refine (vlist_any b mb d5 w14 H14.out (by have := HVI3.out.2.2.2.2.2.2.1; have := HL5.out; omega)).mono ?_
                  rintro e w15 ⟨v5, rfl, hS15, hrow⟩
                  rw [HN5.out, ← hn0] at hrow
                  obtain ⟨an, cn, hv5, hcn1, hcn2, _⟩ := own_sl hrow
                  subst hv5
                  have HROW := Lib.hid hrow
                  have HF15 := Lib.hid (HF14.out.same hS15); have H15 := Lib.hid (H14.out.same hS15); have HS15 := Lib.hid (HS14.out.then hS15); have HP15 := Lib.hid (HP14.out.same hS15)
                  unfold maxLen at hcn2
                  have hne : ((((namesB d3.F).length : Int) == ((namesB d3.F).length : Int)) : Bool) = true := by simp
                  clear hrow hS15 HF14 H14 HS14 HP14 hn0
                  go_wp2_with fail
                  go_loopw [18] (fun i wr => ∃ (r : Nat), r ≤ (namesB d3.F).length ∧ i = .int .i64 r ∧ DkW wr b mb d5 ∧ Same w wr ∧ MpS .string Try.prog 9 wr wm M ∧ MpS .string Try.prog 9 wr wf M2 ∧ wr.ownsRow n0 9 1 (.slice an (namesB d3.F).length cn) (namesB d3.F).length ((namesB d3.F).map .string)) (fun i _ => (namesB d3.F).length - (intOf i).toNat)
                  case atStart => exact ⟨0, by omega, rfl, H15.out, HS15.out, HP15.out, HF15.out, HROW.out⟩
                  case round =>
                    obtain ⟨r, hr, rfl, hdk, hS, hmp, hmf, hrow⟩ := hrel
                    obtain ⟨w16, hw16⟩ : ∃ x, x = wr := ⟨_, rfl⟩
                    subst hw16
                    have HDK := Lib.hid hdk; have HS := Lib.hid hS; have HMP := Lib.hid hmp; have HMF := Lib.hid hmf; have HRW := Lib.hid hrow
                    clear hdk hS hmp hmf hrow
                    by_cases hlr : r < (namesB d3.F).length
                    · have hl2 : r < (ksS d3.F).length := by rw [List.length_map]; have := HNL3.out; omega
                      obtain ⟨g, rfl, hgb, hcell⟩ := row_at HRW.out (by omega)
                      have k0 := hcell r hlr
                      rw [names_at d3.F r hlr hl2] at k0
                      have hin : (ksS d3.F)[r] ∈ ksS d3.F := List.getElem_mem hl2
                      have hkl : (⟨((ksS d3.F)[r]).toArray⟩ : ByteArray).size ≤ maxLen := key_le HDK.out.2 (by have := HK5.out; unfold ksS at this hin; rw [this]; exact hin)
                      have hxs : (getS d3.F (ksS d3.F)[r]).isSome = true := keys_get.1 hin
                      generalize (ksS d3.F)[r] = k at *
                      obtain ⟨x, hx⟩ : ∃ x, getS d3.F k = some x := by
                        cases hg : getS d3.F k with
                        | none => rw [hg] at hxs; cases hxs
                        | some x => exact ⟨x, rfl⟩
                      have hv := HVI3.out.2.2.2.2.2.2.2.2.1 k x hx
                      have hcl := cut_law keep _ x hv.1 hv.2
                      have hrd := readD_ok (d := d5) (k := k) (x := cutF (max keep 0) x) HDN.out (by rw [HFF.out, getS_crash, hx]; rfl)
                      have hg2 := HG.out k
                      rw [hx] at hg2
                      have hul : x.1.size ≤ 1048576 := Nat.le_trans (get_used hx) HVI3.out.2.2.2.2.2.1
                      generalize (cutF (max keep 0) x).1 = s at *
                      obtain ⟨c, xn⟩ := x
                      simp only at hcl hrd hg2 hul
                      have cr := fun w0 (h : Same w16 w0) => vread_any b mb d5 ⟨k.toArray⟩ w0 (HDK.out.same h) hkl
                      simp only [toList_mk, hrd] at cr
                      have CR := Lib.hid cr; have HKL := Lib.hid hkl; have HGB := Lib.hid hgb; have HCL := Lib.hid hcl; have HUL := Lib.hid hul; have HG2 := Lib.hid hg2
                      have hd8 : decide ((r : Int) < ((namesB d3.F).length : Int)) = true := decide_eq_true (by omega)
                      have hd12 : decide (r < (namesB d3.F).length) = true := decide_eq_true hlr
                      have hw6 : IntKind.i64.wrap ((r : Int) + 1) = (r : Int) + 1 := wrapS (by omega)
                      clear hcell hin hkl hxs hx hrd cr hgb hv hcl hg2 hul
                      go_upto_region 41 with (go_at_call 66; refine (CR.out _ (Only.refl _ _)).mono ?_; rintro e w17 ⟨rfl, hS17⟩)
                      have k1 := hS17.cell_eq k0 (fun h => h)
                      have HQ := Lib.hid hS17
                      have hzv : ∀ w', (zeroValue 9).run Try.prog w' = .ok (.string ⟨#[]⟩) w' := fun w' => rfl
                      have hl1 := (HMP.out.same hS17).run_look (t := 109) (e := 9) Try.underlying9 Try.underlying109 (hzv _) ⟨k.toArray⟩ HKL.out
                      have hl2 := (HMP.out.same hS17.drew).run_look (t := 109) (e := 9) Try.underlying9 Try.underlying109 (hzv _) ⟨k.toArray⟩ HKL.out
                      have hl3 := (HMF.out.same hS17).run_look (t := 109) (e := 9) Try.underlying9 Try.underlying109 (hzv _) ⟨k.toArray⟩ HKL.out
                      have hl4 := (HMF.out.same hS17.drew).run_look (t := 109) (e := 9) Try.underlying9 Try.underlying109 (hzv _) ⟨k.toArray⟩ HKL.out
                      rw [toList_mk] at hl1 hl2 hl3 hl4
                      have hG2 := HG2.out
                      rw [hG2] at hl3 hl4
                      obtain ⟨a, ha1, ha2⟩ : ∃ a : ByteArray, (Option.map Value.string (getS M k)).getD (Value.string ⟨#[]⟩) = .string a ∧ ((getS M k).map ByteArray.size).getD 0 = a.size := by
                        cases getS M k with
                        | none => exact ⟨⟨#[]⟩, rfl, rfl⟩
                        | some a => exact ⟨a, rfl, rfl⟩
                      rw [ha1] at hl1 hl2
                      simp only [Option.map_some, Option.getD_some] at hl3 hl4
                      have hcl := HCL.out
                      rw [ha2] at hcl
                      have HCL2 := Lib.hid hcl
                      clear ha1 ha2 hG2 hzv hcl HCL HG2
                      go_region_held3 (fun w' => w'.cell? ⟨g, r, none⟩ = some (.string ⟨k.toArray⟩) ∧ (Instr.lookup 109 (.map (some wm)) (.string ⟨k.toArray⟩) false).run Try.prog w' = .ok (.string a) w' ∧ (Instr.lookup 109 (.map (some wf)) (.string ⟨k.toArray⟩) false).run Try.prog w' = .ok (.string c) w')
                        (first | exact ⟨k1, hl1, hl3⟩ | exact ⟨hS17.drew.cell_eq k0 (fun h => h), hl2, hl4⟩)
                        (fail)
                      all_goals
                        have HQ2 := Lib.hid (HS.out.then hS17.drew)
                        have HD2 := Lib.hid (HDK.out.same hS17.drew)
                        have HP2 := Lib.hid (HMP.out.same hS17.drew)
                        have HF2 := Lib.hid (HMF.out.same hS17.drew)
                        have HR2 := Lib.hid (own_keep HRW.out hS17.drew (fun i hi h => h))
                        generalize w17.drew = w18 at *
                        obtain ⟨l1, l2, l3, l4⟩ := HCL2.out
                        have hcz := HUL.out
                        have hkb := HKP.out
                        have d1' : decide ((s.size : Int) < (a.size : Int)) = false := decide_eq_false (by omega)
                        have d2' : decide ((c.size : Int) < (s.size : Int)) = false := decide_eq_false (by omega)
                        have d3' : IntKind.i64.wrap ((a.size : Int) + max 0 (min keep (c.size : Int))) = (a.size : Int) + max 0 (min keep (c.size : Int)) := wrapS (by omega)
                        have l3' := l3.symm
                        have l4' := l4.symm
                        clear l3 l4 k0 k1 hl1 hl2 hl3 hl4 hS17 HQ HCL2 HUL HKL HGB CR hkb
                        go_wp2_with fail
                        first
                          | (refine ⟨⟨r + 1, by omega, by go_num, HD2.out, HQ2.out, HP2.out, HF2.out, HR2.out⟩, ?_⟩; simp [intOf]; omega)
                          | (exfalso; omega)
                    · obtain rfl : r = (namesB d3.F).length := by omega
                      go_wp2_with fail
                      go_ret
                      exact ⟨rfl, HS.out⟩
end Go.Proofs.Ytjegohibpojneaa
