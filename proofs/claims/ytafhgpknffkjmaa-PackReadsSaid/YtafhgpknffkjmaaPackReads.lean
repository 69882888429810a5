import Derived.Test.YtafhgpknffkjmaaPackRefX
import Derived.Test.YtafhgpknffkjmaaPackRis
import Derived.Test.YtafhgpknffkjmaaPackRefT
import Derived.Test.YtafhgpknffkjmaaPackSame
import Derived.Test.YtafhgpknffkjmaaPackAwake
import Derived.Test.YtafhgpknffkjmaaAsks
import Derived.Deep.CutBlock
import Derived.Deep.RegionHeld3
set_option linter.unusedVariables false
set_option linter.unusedSimpArgs false
namespace Go.Proofs.Ytafhgpknffkjmaa
open Go.RowKit

theorem Only.fresh2 {a b c : World} {g : Nat} (h : Same a b) (h' : Only (· = g) b c) (hg : a.heap.size ≤ g) : Same a c := h.trans h' (fun k hk e => by omega)
/-- The document's reader, kept in a variable. -/
def Md (w : World) (b : Nat) (st : RS) : Prop := w.heap[b]? = some (.cells #[.string (str (st.getD [])), .bool st.isNone] 55 (0, 0))
theorem reads_step {w W1 w1 w2 : World} {bR bM : Nat} {st st' : RS} (hS : Same w W1) (hO : Only (· = bR) W1 w1) (hR : Rd w1 bR st') (hM : Md W1 bM st) (hS2 : Same w1 w2) (hbR : w.heap.size ≤ bR) (hbM : w.heap.size ≤ bM) (hne : bM ≠ bR) :
    Same w ((w2.setCell ⟨bM, 0, none⟩ (.string (str (st'.getD [])))).setCell ⟨bM, 1, none⟩ (.bool st'.isNone)) ∧ Rd ((w2.setCell ⟨bM, 0, none⟩ (.string (str (st'.getD [])))).setCell ⟨bM, 1, none⟩ (.bool st'.isNone)) bR st' ∧
      Md ((w2.setCell ⟨bM, 0, none⟩ (.string (str (st'.getD [])))).setCell ⟨bM, 1, none⟩ (.bool st'.isNone)) bM st' := by
  have hM2 : Md w2 bM st := hS2.heap (hO.heap hM hne) (fun h => h)
  exact ⟨((hS.fresh2 hO hbR).then hS2).put2 (fun h => by omega) _ _, (hR.same hS2).only ((Only.refl (· = bM) w2).put2 (fun _ => rfl) _ _) (fun h => hne h.symm), pair_set hM2 _ _⟩
theorem Sl.md {w w' : World} {bM : Nat} {st : RS} {v : Value} {l : List Int} (h : Sl w num v l) (hO : Only (· = bM) w w') (hM : Md w bM st) : Sl w' num v l := by
  obtain ⟨ad, c, rfl, h1, h2, h3, h4⟩ := h
  refine ⟨ad, c, rfl, h1, h2, h3, fun h0 => ?_⟩
  obtain ⟨b, off, rfl, hc⟩ := h4 h0
  refine ⟨b, off, rfl, fun i hi => ?_⟩
  by_cases hb : b = bM
  · subst hb
    have h5 := hc i hi
    rw [blk_cells hM] at h5
    match off + i, h5 with
    | 0, h5 => simp at h5
    | 1, h5 => simp at h5
    | n + 2, h5 => simp at h5
  · exact hO.cell_eq (hc i hi) hb
theorem zigS_less (st : RS) : ((zigS st).2.getD []).length ≤ (st.getD []).length := wordS_less st
theorem bytesS_less (st : RS) (n : Int) : ((bytesS st n).2.getD []).length ≤ (st.getD []).length := by
  unfold bytesS
  cases st with
  | none => simp
  | some l => simp only; split <;> simp
theorem rowS_rs {σ : Type} {rs : σ → RS} {step : σ → Int × σ} (hs : ∀ s, ((rs (step s).2).getD []).length ≤ ((rs s).getD []).length) : ∀ (n : Nat) (s : σ), ((rs (rowL rs step n s).2).getD []).length ≤ ((rs s).getD []).length := by
  intro n
  induction n with
  | zero => intro s; exact Nat.le_refl _
  | succ n ih =>
    intro s
    unfold rowL
    cases h : rs s with
    | none => simp only; rw [h]; exact Nat.le_refl _
    | some l => simp only; rw [← h]; exact Nat.le_trans (ih _) (hs s)
theorem risR_less (st : RS) (most : Int) : ((risR st most).2.getD []).length ≤ (st.getD []).length := by
  unfold risR
  simp only
  have hs : ∀ s : RS × Int, (((risStep s).2.1).getD []).length ≤ ((s.1).getD []).length := by
    intro s
    unfold risStep
    split
    · simp
    · exact varS_less s.1
  have h1 := rowS_rs (rs := Prod.fst) (step := risStep) hs (varS st).1 (if most < (varS st).1 then none else (varS st).2, -1)
  have h2 : (((if most < (varS st).1 then none else (varS st).2 : RS)).getD []).length ≤ (st.getD []).length := by
    split
    · simp
    · exact varS_less st
  unfold rowS
  split <;> exact Nat.le_trans h1 h2
theorem fixR_less (st : RS) (w n : Int) : ((fixR st w n).2.getD []).length ≤ (st.getD []).length := by
  unfold fixR
  split
  · simp
  · have := bytesS_less st ((w * n + 7) / 8)
    split
    · simp
    · rename_i r hr
      rw [hr] at this
      split
      · simp
      · exact this

set_option maxHeartbeats 4000000 in
set_option maxRecDepth 100000 in
theorem packReads_walk (s : ByteArray) (x : Value) (l : List (Int × Int × Int)) (w : World) (hs : s.size ≤ 140737488351232) (hx : Tri w x l)
    (hl : ∀ y ∈ l, (-9223372036854775808 ≤ y.1 ∧ y.1 ≤ 9223372036854775807) ∧ (-9223372036854775808 ≤ y.2.1 ∧ y.2.1 ≤ 9223372036854775807) ∧ (-9223372036854775808 ≤ y.2.2 ∧ y.2.2 ≤ 9223372036854775807)) :
    Calls Try.prog 6 #[.string s, x] w fun e w' => e = .returned (.bool true) ∧ Same w w' := by
  obtain ⟨sl, rfl⟩ : ∃ sl, s = str sl := ⟨s.data.toList, (str_of s).symm⟩
  have hst := str_size sl
  have HL := Lib.hid hl
  obtain ⟨ad, cp, rfl, hcp, hmx, hcell⟩ := hx
  have HC := Lib.hid hcell
  clear hcell hl
  by_cases h2000 : 2000 < sl.length
  · go_enter Try.func6, Try.ntmps6
    go_wp2_with (go_at_call 22; refine (awake2_any _).mono ?_; rintro e w1 ⟨rfl, hS1⟩)
    go_ret
    exact ⟨rfl, hS1⟩
  by_cases h40 : 40 < l.length
  · go_enter Try.func6, Try.ntmps6
    go_wp2_with (go_at_call 22; refine (awake2_any _).mono ?_; rintro e w1 ⟨rfl, hS1⟩)
    go_ret
    exact ⟨rfl, hS1⟩
  have hl40 : l.length ≤ 40 := by omega
  go_enter Try.func6, Try.ntmps6
  go_upto_region 7 with (first
    | (go_at_call 22; refine (awake2_any _).mono ?_; rintro e w1 ⟨rfl, hS1⟩)
    | (go_at_call 31; refine (rnew_any sl _).mono ?_; rintro e w2 ⟨rfl, hS2, hR2⟩; have HR2 := Lib.hid hR2; clear hR2))
  have hszA := hS1.size
  have hszB : w1.heap.size < w2.heap.size := HR2.out.lt
  obtain ⟨W0, hW0⟩ : ∃ W0, W0 = w2.alloc (.cells #[.string (str sl), .bool false] 55) := ⟨_, rfl⟩
  have hSW : Same w W0 := by rw [hW0]; exact (hS1.then hS2).alloc _
  have hRW : Rd W0 w1.heap.size (some sl) := by rw [hW0]; exact HR2.out.same ((Only.refl _ _).alloc _)
  have hMW : Md W0 w2.heap.size (some sl) := by rw [hW0]; exact blk_new _ _
  have HSW := Lib.hid hSW; have HRW := Lib.hid hRW; have HMW := Lib.hid hMW
  rw [← hW0]
  have hbR : w.heap.size ≤ w1.heap.size := hszA
  have hbM : w.heap.size ≤ w2.heap.size := by omega
  have hne : w2.heap.size ≠ w1.heap.size := by omega
  generalize w1.heap.size = bR at *
  generalize w2.heap.size = bM at *
  clear hszA hszB hSW hRW hMW hW0 hS1 hS2 HR2
  go_cut [7] from 15 (fun s7 wx => s7 = .int .i64 0 ∧ Same w wx ∧ Rd wx bR (some sl) ∧ Md wx bM (some sl))
  case first =>
    go_wp2
    go_meet
    case rel => exact ⟨rfl, HSW.out, HRW.out, HMW.out⟩
  case rest =>
  clear HSW HRW HMW
  obtain ⟨rfl, hSW, hRW, hMW⟩ := hcut
  have HSW := Lib.hid hSW; have HRW := Lib.hid hRW; have HMW := Lib.hid hMW
  clear hSW hRW hMW
  go_wp2_with fail
  go_loopg [7] l.length (fun g i wr => ∃ (k : Nat) (st : RS), k ≤ l.length ∧ g = l.length - k ∧ i = .int .i64 k ∧ Same w wr ∧ Rd wr bR st ∧ Md wr bM st ∧ (st.getD []).length ≤ 2000)
  case atStart => exact ⟨0, some sl, by omega, by omega, rfl, HSW.out, HRW.out, HMW.out, by simp; omega⟩
  case round =>
    obtain ⟨k, st, hk, rfl, rfl, hS, hR, hM, hlen2⟩ := hrel
    have hlen : (st.getD []).length ≤ 1000000000000 := by omega
    have HS := Lib.hid hS; have HR := Lib.hid hR; have HM := Lib.hid hM
    clear hS hR hM HSW HRW HMW
    by_cases hlt : k < l.length
    · obtain ⟨b, off, rfl, hc⟩ := HC.out (by omega)
      obtain ⟨c0, c1, c2⟩ := hc k hlt
      replace c0 := HS.out.cell_eq c0 (fun h => h)
      replace c1 := HS.out.cell_eq c1 (fun h => h)
      replace c2 := HS.out.cell_eq c2 (fun h => h)
      obtain ⟨hA, hB, hD⟩ := HL.out l[k] (List.getElem_mem hlt)
      generalize l[k].1 = K at *
      generalize l[k].2.1 = N at *
      generalize l[k].2.2 = Wd at *
      clear hc
      go_upto_block 2 with fail
      have hltR := HR.out.lt
      obtain ⟨W1, hW1⟩ : ∃ W1, W1 = wr.alloc (.cells #[.int .i64 K, .int .i64 N, .int .i64 Wd] 57) := ⟨_, rfl⟩
      rw [← hW1]
      have hSW1 : Same w W1 := by rw [hW1]; exact HS.out.alloc _
      have hR1 : Rd W1 bR st := by rw [hW1]; exact HR.out.same ((Only.refl _ _).alloc _)
      have hM1 : Md W1 bM st := by rw [hW1]; exact ((Only.refl (fun _ => False) wr).alloc _).heap HM.out (fun h => h)
      have hA1 : W1.heap[wr.heap.size]? = some (.cells #[.int .i64 K, .int .i64 N, .int .i64 Wd] 57 (0, 0)) := by rw [hW1]; exact blk_new _ _
      have k0 : W1.cell? ⟨wr.heap.size, 0, none⟩ = some (.int .i64 K) := blk_cells hA1 0
      have k1 : W1.cell? ⟨wr.heap.size, 1, none⟩ = some (.int .i64 N) := blk_cells hA1 1
      have k2 : W1.cell? ⟨wr.heap.size, 2, none⟩ = some (.int .i64 Wd) := blk_cells hA1 2
      have hxR : ¬ wr.heap.size = bR := by omega
      have HSW1 := Lib.hid hSW1; have HR1 := Lib.hid hR1; have HM1 := Lib.hid hM1
      generalize wr.heap.size = bA at *
      clear hSW1 hR1 hM1 hA1 hW1 hltR c0 c1 c2 HR HM HL
      go_cut [9, 10, 11, 12, 13, 14] from 29 to 141 (fun s9 s10 s11 s12 s13 s14 wx => ∃ (st' : RS) (r : List Int) (tt : List UInt8) (m : Int), Sl wx num s9 r ∧ Sl wx num s10 r ∧ s11 = .string (str tt) ∧ s12 = .string (str tt) ∧ s13 = .int .i64 m ∧ s14 = .int .i64 m ∧ Same w wx ∧ Rd wx bR st' ∧ Md wx bM st' ∧ (st'.getD []).length ≤ 2000)
      case first =>
        by_cases h0 : K = 0
        · subst h0
          go_wp2_with (first
          | (go_at_call 32; refine (rvarint_any bR st _ HR1.out hlen).mono ?_; rintro e w3 ⟨rfl, hO3, hR3⟩; have HR3 := Lib.hid hR3; have HO3 := Lib.hid hO3; clear hR3 hO3; obtain ⟨p0, p1, p2, p3⟩ := pair_facts (HO3.out.heap HM1.out hne); have p4 := HO3.out.cell_eq k0 hxR; have p5 := HO3.out.cell_eq k1 hxR; have p6 := HO3.out.cell_eq k2 hxR)
          | (go_at_call 33; refine (rtv2_any st _ hlen).mono ?_; rintro e w4 ⟨rfl, hS4⟩; have HS4 := Lib.hid hS4; clear hS4; obtain ⟨q0, q1, q2, q3⟩ := pair_facts (HS4.out.heap (HO3.out.heap HM1.out hne) (fun h => h))))
          go_meet
          case rel =>
            obtain ⟨z1, z2, z3⟩ := reads_step (st' := (varS st).2) HSW1.out HO3.out HR3.out HM1.out HS4.out hbR hbM hne
            exact ⟨(varS st).2, [], [], (varS st).1, sl_nil _ _, sl_nil _ _, rfl, rfl, rfl, rfl, z1, z2, z3, Nat.le_trans (varS_less st) hlen2⟩

        by_cases h1 : K = 1
        · subst h1
          go_wp2_with (first
          | (go_at_call 34; refine (rzig_any bR st _ HR1.out hlen).mono ?_; rintro e w3 ⟨rfl, hO3, hR3⟩; have HR3 := Lib.hid hR3; have HO3 := Lib.hid hO3; clear hR3 hO3; obtain ⟨p0, p1, p2, p3⟩ := pair_facts (HO3.out.heap HM1.out hne); have p4 := HO3.out.cell_eq k0 hxR; have p5 := HO3.out.cell_eq k1 hxR; have p6 := HO3.out.cell_eq k2 hxR)
          | (go_at_call 35; refine (rtz2_any st _ hlen).mono ?_; rintro e w4 ⟨rfl, hS4⟩; have HS4 := Lib.hid hS4; clear hS4; obtain ⟨q0, q1, q2, q3⟩ := pair_facts (HS4.out.heap (HO3.out.heap HM1.out hne) (fun h => h))))
          go_meet
          case rel =>
            obtain ⟨z1, z2, z3⟩ := reads_step (st' := (zigS st).2) HSW1.out HO3.out HR3.out HM1.out HS4.out hbR hbM hne
            exact ⟨(zigS st).2, [], [], (zigS st).1, sl_nil _ _, sl_nil _ _, rfl, rfl, rfl, rfl, z1, z2, z3, Nat.le_trans (zigS_less st) hlen2⟩

        by_cases h2 : K = 2
        · subst h2
          by_cases hN : 3000 < N
          · go_wp2_with fail
            go_ret
            exact ⟨rfl, HSW1.out⟩
          · go_wp2_with (first
          | (go_at_call 36; refine (rrising_any bR st N _ HR1.out hlen).mono ?_; rintro e w3 ⟨v3, rfl, hO3, hR3, hV3⟩; have HV3 := Lib.hid hV3; clear hV3; have HR3 := Lib.hid hR3; have HO3 := Lib.hid hO3; clear hR3 hO3; obtain ⟨p0, p1, p2, p3⟩ := pair_facts (HO3.out.heap HM1.out hne); have p4 := HO3.out.cell_eq k0 hxR; have p5 := HO3.out.cell_eq k1 hxR; have p6 := HO3.out.cell_eq k2 hxR)
          | (go_at_call 37; refine (rtr2_any st N _ hlen).mono ?_; rintro e w4 ⟨v4, rfl, hS4, hV4⟩; have HV4 := Lib.hid hV4; clear hV4; have HS4 := Lib.hid hS4; clear hS4; obtain ⟨q0, q1, q2, q3⟩ := pair_facts (HS4.out.heap (HO3.out.heap HM1.out hne) (fun h => h))))
            go_meet
            case rel =>
              obtain ⟨z1, z2, z3⟩ := reads_step (st' := (risR st N).2) HSW1.out HO3.out HR3.out HM1.out HS4.out hbR hbM hne
              exact ⟨(risR st N).2, (risR st N).1, [], 0, ((HV3.out.same HS4.out).md ((Only.refl (· = bM) w4).put2 (fun _ => rfl) _ _) (HS4.out.heap (HO3.out.heap HM1.out hne) (fun h => h))), (HV4.out.md ((Only.refl (· = bM) w4).put2 (fun _ => rfl) _ _) (HS4.out.heap (HO3.out.heap HM1.out hne) (fun h => h))), rfl, rfl, rfl, rfl, z1, z2, z3, Nat.le_trans (risR_less st N) hlen2⟩

        by_cases h3 : K = 3
        · subst h3
          by_cases hN : 3000 < N ∧ N ≤ 65536
          · obtain ⟨hN1, hN2⟩ := hN
            go_wp2_with fail
            go_ret
            exact ⟨rfl, HSW1.out⟩
          · have hN' : N ≤ 3000 ∨ (3000 < N ∧ 65536 < N) := by omega
            clear hN
            rcases hN' with hN | ⟨hN, hN2⟩
            all_goals
              go_wp2_with (first
              | (go_at_call 38; refine (rfixed_any bR st Wd N _ HR1.out hlen).mono ?_; rintro e w3 ⟨v3, rfl, hO3, hR3, hV3⟩; have HV3 := Lib.hid hV3; clear hV3; have HR3 := Lib.hid hR3; have HO3 := Lib.hid hO3; clear hR3 hO3; obtain ⟨p0, p1, p2, p3⟩ := pair_facts (HO3.out.heap HM1.out hne); have p4 := HO3.out.cell_eq k0 hxR; have p5 := HO3.out.cell_eq k1 hxR; have p6 := HO3.out.cell_eq k2 hxR)
              | (go_at_call 39; refine (rtf2_any st Wd N _ hlen).mono ?_; rintro e w4 ⟨v4, rfl, hS4, hV4⟩; have HV4 := Lib.hid hV4; clear hV4; have HS4 := Lib.hid hS4; clear hS4; obtain ⟨q0, q1, q2, q3⟩ := pair_facts (HS4.out.heap (HO3.out.heap HM1.out hne) (fun h => h))))
              go_meet
              case rel =>
                obtain ⟨z1, z2, z3⟩ := reads_step (st' := (fixR st Wd N).2) HSW1.out HO3.out HR3.out HM1.out HS4.out hbR hbM hne
                exact ⟨(fixR st Wd N).2, (fixR st Wd N).1, [], 0, ((HV3.out.same HS4.out).md ((Only.refl (· = bM) w4).put2 (fun _ => rfl) _ _) (HS4.out.heap (HO3.out.heap HM1.out hne) (fun h => h))), (HV4.out.md ((Only.refl (· = bM) w4).put2 (fun _ => rfl) _ _) (HS4.out.heap (HO3.out.heap HM1.out hne) (fun h => h))), rfl, rfl, rfl, rfl, z1, z2, z3, Nat.le_trans (fixR_less st Wd N) hlen2⟩

        by_cases h4 : K = 4
        · subst h4
          go_wp2_with (first
          | (go_at_call 40; refine (rbytes_any bR st N _ HR1.out hlen).mono ?_; rintro e w3 ⟨rfl, hO3, hR3⟩; have HR3 := Lib.hid hR3; have HO3 := Lib.hid hO3; clear hR3 hO3; obtain ⟨p0, p1, p2, p3⟩ := pair_facts (HO3.out.heap HM1.out hne); have p4 := HO3.out.cell_eq k0 hxR; have p5 := HO3.out.cell_eq k1 hxR; have p6 := HO3.out.cell_eq k2 hxR)
          | (go_at_call 41; refine (rbytes2_any st N _ hlen).mono ?_; rintro e w4 ⟨rfl, hS4⟩; have HS4 := Lib.hid hS4; clear hS4; obtain ⟨q0, q1, q2, q3⟩ := pair_facts (HS4.out.heap (HO3.out.heap HM1.out hne) (fun h => h))))
          go_meet
          case rel =>
            obtain ⟨z1, z2, z3⟩ := reads_step (st' := (bytesS st N).2) HSW1.out HO3.out HR3.out HM1.out HS4.out hbR hbM hne
            exact ⟨(bytesS st N).2, [], (bytesS st N).1, 0, sl_nil _ _, sl_nil _ _, rfl, rfl, rfl, rfl, z1, z2, z3, Nat.le_trans (bytesS_less st N) hlen2⟩

        go_wp2_with fail
        go_meet
        case rel => exact ⟨st, [], [], 0, sl_nil _ _, sl_nil _ _, rfl, rfl, rfl, rfl, HSW1.out, HR1.out, HM1.out, hlen2⟩
      case rest =>
      obtain ⟨st', r, tt, m, hx1, hx2, rfl, rfl, rfl, rfl, hS5, hR5, hM5, hl5⟩ := hcut
      have HX1 := Lib.hid hx1; have HX2 := Lib.hid hx2; have HR5 := Lib.hid hR5; have HM5 := Lib.hid hM5; have HS5 := Lib.hid hS5
      obtain ⟨m0, m1, m2, m3⟩ := pair_facts hM5
      have hst' := str_size (st'.getD [])
      clear hx1 hx2 hR5 hM5 hS5 m2 m3 k0 k1 k2 HR1 HM1 HSW1 hlen2 hlen
      have q1 : Same wc wc := Only.refl _ _
      go_wp2_with fail
      go_region_held3 (fun w' => Same wc w' ∧ w'.cell? ⟨bM, 0, none⟩ = some (.string (str (st'.getD []))) ∧ w'.cell? ⟨bM, 1, none⟩ = some (.bool st'.isNone)) (exact ⟨by first | assumption | exact Only.drew (by assumption), by first | assumption, by first | assumption⟩)
        (first
          | (go_at_call 42; refine (same02_any _ _ r r _ (HX1.out.same (by first | assumption | exact Only.drew (by assumption))) (HX2.out.same (by first | assumption | exact Only.drew (by assumption)))).mono ?_; rw [decide_eq_true rfl]; rintro e w6 ⟨rfl, hS6⟩; have q1 : Same wc w6 := Only.then (by first | assumption | exact Only.drew (by assumption)) hS6; have q2 := q1.cell_eq m0 (fun h => h); have q3 := q1.cell_eq m1 (fun h => h))
          | (go_at_call 43; refine (rleft_any bR st' _ (HR5.out.same (by first | assumption | exact Only.drew (by assumption)))).mono ?_; rintro e w7 ⟨rfl, hS7⟩; have q1 : Same wc w7 := Only.then (by first | assumption | exact Only.drew (by assumption)) hS7; have q2 := q1.cell_eq m0 (fun h => h); have q3 := q1.cell_eq m1 (fun h => h))
          | (go_at_call 44; refine (rbad_any bR st' _ (HR5.out.same (by first | assumption | exact Only.drew (by assumption)))).mono ?_; rintro e w8 ⟨rfl, hS8⟩; have q1 : Same wc w8 := Only.then (by first | assumption | exact Only.drew (by assumption)) hS8; have q2 := q1.cell_eq m0 (fun h => h); have q3 := q1.cell_eq m1 (fun h => h)))
      go_wp2_with fail
      go_roundg (l.length - (k + 1))
      case measure => omega
      case rel => exact ⟨k + 1, st', by omega, rfl, by go_num, HS5.out.then q1, HR5.out.same q1, q1.heap HM5.out (fun h => h), hl5⟩
    · go_wp2_with fail
      go_ret
      exact ⟨rfl, HS.out⟩
end Go.Proofs.Ytafhgpknffkjmaa
