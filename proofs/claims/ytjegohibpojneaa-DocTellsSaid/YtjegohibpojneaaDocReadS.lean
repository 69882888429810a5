import Derived.Test.YtjegohibpojneaaDocReadR
set_option linter.unusedVariables false
set_option linter.unusedSimpArgs false
namespace Go.Proofs.Ytjegohibpojneaa
open Go.RowKit
attribute [local go_sem ↓] Go.wp_at_zero Go.wp_at_succ

theorem risR_none (most : Int) : risR none most = ([], none) := by
  unfold risR
  have h : rowL Prod.fst risStep (varS none).1 ((if most < (varS none).1 then none else (varS none).2 : RS), (-1 : Int)) = ([], (none, -1)) := by
    have e : (if most < (varS none).1 then none else (varS none).2 : RS) = none := by split <;> rfl
    rw [e]
    exact rowL_stop _ rfl
  simp only
  rw [rowS_none h rfl]
set_option maxRecDepth 100000 in
set_option maxHeartbeats 8000000 in
theorem rread_live (l : List UInt8) (w : World) (hlen : l.length ≤ 1000000) (hg : (varS (varS (some l)).2).1 = 0) :
    Calls Try.prog 23 #[.string (str l)] w fun e w' => ∃ v, e = .returned v ∧ Same w w' ∧ Read10V w' w.heap.size v (readD (some l)) := by
  have hl1 := varS_less (some l)
  have hl2 := varS_less (varS (some l)).2
  have hm := varS_le (some l)
  have hc1 : Same w (w.alloc (.cells zCells 36)) := (Only.refl _ w).alloc _
  have hA0 := blk_new w (.cells zCells 36)
  obtain ⟨rr, hrr⟩ : ∃ r, r = readD (some l) := ⟨_, rfl⟩
  rw [← hrr]
  have cv1 := fun w0 => rtv2_any (some l) w0 (by simp only [Option.getD_some]; omega)
  have cv2 := fun w0 => rtv2_any (varS (some l)).2 w0 (by simp only [Option.getD_some] at hl1; omega)
  unfold readD at hrr
  rw [if_pos hg] at hrr
  rw [hg] at cv2
  simp only [Option.getD_some] at hl1
  generalize (varS (varS (some l)).2).2 = s2 at *
  generalize (varS (some l)).1 = d at *
  generalize (varS (some l)).2 = s1 at *
  have ha1 := risR_less s2 64
  have ha2 := risR_len s2 64
  have ha3 := risR_rng s2 64
  have cr := fun w0 => rtr2_fr s2 64 w0 (by omega)
  have hrn : s2 = none → rr = (none, none) := by
    intro e
    rw [hrr, e, risR_none]
    simp only [fixR_none]
    rfl
  generalize hra : risR s2 64 = ra at *
  obtain ⟨ts, s3⟩ := ra
  simp only at hrr ha1 ha2 ha3 cr
  have hb1 := fixR_less s3 16 ts.length
  have hbs := fun t => @fixR_some s3 16 ts.length t
  have cf := fun w0 => rtf2_fr s3 16 ts.length w0 (by omega)
  generalize hrb : fixR s3 16 ts.length = rb at *
  obtain ⟨ws, s4⟩ := rb
  simp only at hrr hb1 hbs cf
  have hrs := fun t => @fixR_some s4 8 9 t
  have cg := fun w0 => rtf2_fr s4 8 9 w0 (by omega)
  generalize hrc : fixR s4 8 9 = rc at *
  obtain ⟨rest, s5⟩ := rc
  simp only at hrr hrs cg
  have hrd : rr = if s5.isNone = true then (none, s5) else (okC (readA d ts ws rest), s5) := hrr
  have HRN := Lib.hid hrn
  have HRR := Lib.hid hrd; have CV1 := Lib.hid cv1; have CV2 := Lib.hid cv2; have CR := Lib.hid cr; have CF := Lib.hid cf; have CG := Lib.hid cg
  have HA3 := Lib.hid ha3; have HBS := Lib.hid hbs; have HRS := Lib.hid hrs
  clear hrr hrd cv1 cv2 cr cf cg hbs hrs hg hra hrb hrc ha3 hrn
  go_enter Try.func23, Try.ntmps23
  go_upto_region 1 with fail
  generalize hW0 : w.alloc (.cells zCells 36) = W0 at *
  have HC1 := Lib.hid hc1; have HA0 := Lib.hid hA0
  clear hc1 hA0 hW0
  go_upto_region 2 with (go_at_call 92; refine (CV1.out _).mono ?_; rintro e w1 ⟨rfl, hO1⟩)
  have hlt0 : w.heap.size < W0.heap.size := heap_lt HA0.out
  have HS1 := Lib.hid (HC1.out.then hO1)
  have HA1 := Lib.hid (hO1.heap HA0.out (fun h => h))
  have hz1 := hO1.size
  have hB1 := blk_new w1 (.cells #[.string (str (s1.getD [])), .bool s1.isNone] 156)
  have hSb : Same w1 (w1.alloc (.cells #[.string (str (s1.getD [])), .bool s1.isNone] 156)) := (Only.refl _ w1).alloc _
  clear HC1 HA0 hO1
  generalize w1.alloc (.cells #[.string (str (s1.getD [])), .bool s1.isNone] 156) = W1 at *
  have HS2 := Lib.hid (HS1.out.then hSb)
  have HA2 := Lib.hid (hSb.heap HA1.out (fun h => h))
  have HB2 := Lib.hid hB1
  have hz2 := hSb.size
  obtain ⟨p0, p1, p2, p3⟩ := pair_facts HB2.out
  clear HS1 HA1 hB1 hSb
  go_upto_region 3 with (go_at_call 92; refine (CV2.out _).mono ?_; rintro e w2 ⟨rfl, hO2⟩; have hb2 := hO2.heap HB2.out (fun h => h); obtain ⟨m0, m1, m2, m3⟩ := pair_facts hb2)
  have hb3 := pair_set hb2 (.string (str (s2.getD []))) (.bool s2.isNone)
  have hd3 : Only (· = w1.heap.size) w2 ((w2.setCell ⟨w1.heap.size, 0, none⟩ (.string (str (s2.getD [])))).setCell ⟨w1.heap.size, 1, none⟩ (.bool s2.isNone)) := ((Only.refl (· = w1.heap.size) w2).setCell (fun _ => rfl) _).setCell (fun _ => rfl) _
  have hs3 : Same w ((w2.setCell ⟨w1.heap.size, 0, none⟩ (.string (str (s2.getD [])))).setCell ⟨w1.heap.size, 1, none⟩ (.bool s2.isNone)) := (HS2.out.then hO2).trans hd3 (fun g h1 h2 => by omega)
  have hA3 := hd3.heap (hO2.heap HA2.out (fun h => h)) (by omega)
  have hz3 := hd3.size
  have hz4 := hO2.size
  generalize (w2.setCell ⟨w1.heap.size, 0, none⟩ (.string (str (s2.getD [])))).setCell ⟨w1.heap.size, 1, none⟩ (.bool s2.isNone) = W3 at *
  have HB3 := Lib.hid hb3; have HS3 := Lib.hid hs3; have HA3' := Lib.hid hA3
  have hrW3 := heap_lt hb3
  clear hb3 hd3 hs3 hA3 HS2 HA2 HB2 hO2 hb2 p0 p1 p2 p3 m0 m1 m2 m3 CV1 CV2
  have hC4 := blk_new W3 (.cells #[.int .i64 d, .slice none 0 0, .slice none 0 0, .int .i64 0, .bool false] 36)
  have hSc : Same W3 (W3.alloc (.cells #[.int .i64 d, .slice none 0 0, .slice none 0 0, .int .i64 0, .bool false] 36)) := (Only.refl _ W3).alloc _
  go_upto_region 4 with fail
  generalize W3.alloc (.cells #[.int .i64 d, .slice none 0 0, .slice none 0 0, .int .i64 0, .bool false] 36) = W4 at *
  have hltC := heap_lt hC4
  have hz34 := hSc.size
  have HC4 := Lib.hid hC4; have HS4 := Lib.hid (HS3.out.then hSc); have HA4 := Lib.hid (hSc.heap HA3'.out (fun h => h)); have HB4 := Lib.hid (hSc.heap HB3.out (fun h => h))
  clear hC4 hSc HS3 HA3' HB3
  cases s2 with
  | none =>
    have HRZ : Hid (rr = (none, none)) := Lib.hid (HRN.out rfl)
    have hb : W4.heap[w1.heap.size]? = some (.cells #[.string (str []), .bool true] 156 (0, 0)) := HB4.out
    obtain ⟨p0, p1, p2, p3⟩ := pair_facts hb
    obtain ⟨⟨l0, l1, l2, l3, l4⟩, e0, e1, e2, e3, e4⟩ := five_facts HA4.out
    clear hb
    go_wp2_with fail
    refine bodyPost_ret (results_ct3 rfl _ _ _ _ _ _ _ rfl (five_set HA4.out _ _ _ _ _) Try.underlying36 rfl (by kernel_rfl)) rfl ?_
    rw [HRZ.out]
    exact ⟨_, rfl, HS4.out.put5 (fun h => by omega) _ _ _ _ _, _, rfl, chg_zero _ _⟩
  | some t2 =>
    have hb : W4.heap[w1.heap.size]? = some (.cells #[.string (str t2), .bool false] 156 (0, 0)) := HB4.out
    obtain ⟨p0, p1, p2, p3⟩ := pair_facts hb
    simp only [Option.getD_some, Option.isNone_some] at *
    clear HRN
    go_upto_region 7 with fail
    go_upto_region 8 with (go_at_call 93; refine (CR.out _).mono ?_; rintro e w5 ⟨vt, rfl, hO5, hsl5, hft⟩; have HSL5 := Lib.hid hsl5; obtain ⟨at_, ct, rfl, hct, hmt, _, _⟩ := hsl5)
    have hz5 := hO5.size
    have hP5 := blk_new w5 (.cells #[.string (str (s3.getD [])), .bool s3.isNone] 156)
    have hSa : Same w5 (w5.alloc (.cells #[.string (str (s3.getD [])), .bool s3.isNone] 156)) := (Only.refl _ w5).alloc _
    generalize w5.alloc (.cells #[.string (str (s3.getD [])), .bool s3.isNone] 156) = W5 at *
    have HT5 := Lib.hid (HSL5.out.same hSa); have HFT := Lib.hid hft
    have HS5 := Lib.hid (hO5.then hSa)
    have hz5b := hSa.size
    obtain ⟨p0, p1, p2, p3⟩ := pair_facts hP5
    clear hP5 hSa hO5 hft HSL5
    go_upto_region 9 with (go_at_call 94; refine (CF.out _).mono ?_; rintro e w6 ⟨vw, rfl, hO6, hsl6, hfw⟩; have HSL6 := Lib.hid hsl6; obtain ⟨aw, cw, rfl, hcw, hmw, _, _⟩ := hsl6)
    have hz6 := hO6.size
    have hP6 := blk_new w6 (.cells #[.string (str (s4.getD [])), .bool s4.isNone] 156)
    have hSa : Same w6 (w6.alloc (.cells #[.string (str (s4.getD [])), .bool s4.isNone] 156)) := (Only.refl _ w6).alloc _
    generalize w6.alloc (.cells #[.string (str (s4.getD [])), .bool s4.isNone] 156) = W6 at *
    have HW6 := Lib.hid (HSL6.out.same hSa); have HFW := Lib.hid hfw
    have HS6 := Lib.hid ((HS5.out.then hO6).then hSa)
    have HT6 := Lib.hid ((HT5.out.same hO6).same hSa)
    have hz6b := hSa.size
    clear p0 p1 p2 p3
    obtain ⟨p0, p1, p2, p3⟩ := pair_facts hP6
    clear hP6 hSa hO6 hfw HSL6 HS5 HT5
    go_upto_region 10 with (go_at_call 94; refine (CG.out _).mono ?_; rintro e w7 ⟨vr, rfl, hO7, hsl7, hfx⟩; have HSL7 := Lib.hid hsl7; obtain ⟨ar, cr', rfl, hcr, hmr, _, _⟩ := hsl7)
    have hz7 := hO7.size
    have hP7 := blk_new w7 (.cells #[.string (str (s5.getD [])), .bool s5.isNone] 156)
    have hSa : Same w7 (w7.alloc (.cells #[.string (str (s5.getD [])), .bool s5.isNone] 156)) := (Only.refl _ w7).alloc _
    generalize w7.alloc (.cells #[.string (str (s5.getD [])), .bool s5.isNone] 156) = W7 at *
    have HX7 := Lib.hid (HSL7.out.same hSa); have HFX := Lib.hid hfx
    have HS7 := Lib.hid ((HS6.out.then hO7).then hSa)
    have HT7 := Lib.hid ((HT6.out.same hO7).same hSa); have HW7 := Lib.hid ((HW6.out.same hO7).same hSa)
    have hz7b := hSa.size
    clear p0 p1 p2 p3
    obtain ⟨p0, p1, p2, p3⟩ := pair_facts hP7
    have hR7 := HS7.out.heap hb (fun h => h)
    obtain ⟨r0, r1, r2, r3⟩ := pair_facts hR7
    have hd8 : Only (· = w1.heap.size) W7 ((W7.setCell ⟨w1.heap.size, 0, none⟩ (.string (str (s5.getD [])))).setCell ⟨w1.heap.size, 1, none⟩ (.bool s5.isNone)) := ((Only.refl (· = w1.heap.size) W7).setCell (fun _ => rfl) _).setCell (fun _ => rfl) _
    have hR8 := pair_set hR7 (.string (str (s5.getD []))) (.bool s5.isNone)
    have hA8 := hd8.heap (HS7.out.heap HA4.out (fun h => h)) (by omega)
    have hC8 := hd8.heap (HS7.out.heap HC4.out (fun h => h)) (by omega)
    have hS8 : Same w ((W7.setCell ⟨w1.heap.size, 0, none⟩ (.string (str (s5.getD [])))).setCell ⟨w1.heap.size, 1, none⟩ (.bool s5.isNone)) := (HS4.out.then HS7.out).trans hd8 (fun g h1 h2 => by omega)
    have hT8 := HT7.out.keep hd8 (fun b' off sp n c e h => by have := HFT.out b' off sp n c e; omega)
    have hW8 := HW7.out.keep hd8 (fun b' off sp n c e h => by have := HFW.out b' off sp n c e; omega)
    have hX8 := HX7.out.keep hd8 (fun b' off sp n c e h => by have := HFX.out b' off sp n c e; omega)
    have hz8 := hd8.size
    go_upto_region 11 with fail
    generalize (W7.setCell ⟨w1.heap.size, 0, none⟩ (.string (str (s5.getD [])))).setCell ⟨w1.heap.size, 1, none⟩ (.bool s5.isNone) = W8 at *
    have HR8 := Lib.hid hR8
    have HC8 : Hid (W8.heap[W3.heap.size]? = some (.cells #[.int .i64 d, .slice none 0 0, .slice none 0 0, .int .i64 0, .bool false] 36 (0, 0))) := Lib.hid hC8
    have HA8 : Hid (W8.heap[w.heap.size]? = some (.cells zCells 36 (0, 0))) := Lib.hid hA8
    have HS8 := Lib.hid hS8; have HT8 := Lib.hid hT8; have HW8 := Lib.hid hW8; have HX8 := Lib.hid hX8
    clear hR7 hR8 hC8 hA8 hd8 hS8 hT8 hW8 hX8 hP7 hSa hO7 hfx HSL7 HS6 HT6 HW6 HS7 HT7 HW7 HX7 HS4 HA4 HB4 HC4 hb p0 p1 p2 p3 r0 r1 r2 r3 CR CF CG
    cases s5 with
    | none =>
      have HRZ : Hid (rr = (none, none)) := Lib.hid HRR.out
      have hb : W8.heap[w1.heap.size]? = some (.cells #[.string (str []), .bool true] 156 (0, 0)) := HR8.out
      obtain ⟨p0, p1, p2, p3⟩ := pair_facts hb
      obtain ⟨⟨l0, l1, l2, l3, l4⟩, e0, e1, e2, e3, e4⟩ := five_facts HA8.out
      clear hb
      go_wp2_with fail
      refine bodyPost_ret (results_ct3 rfl _ _ _ _ _ _ _ rfl (five_set HA8.out _ _ _ _ _) Try.underlying36 rfl (by kernel_rfl)) rfl ?_
      rw [HRZ.out]
      exact ⟨_, rfl, HS8.out.put5 (fun h => by omega) _ _ _ _ _, _, rfl, chg_zero _ _⟩
    | some tl =>
      obtain ⟨s4', hs4, hrl, hrr⟩ := HRS.out tl rfl
      obtain ⟨s3', hs3, hwl, hwr⟩ := HBS.out s4' hs4
      have HRZ : Hid (rr = (okC (readA d ts ws rest), some tl)) := Lib.hid HRR.out
      have HRR2 := Lib.hid hrr; have HWR := Lib.hid hwr
      have hwl2 : ws.length = ts.length := by omega
      have hrl2 : rest.length = 9 := by omega
      have HWL := Lib.hid hwl2; have HRL := Lib.hid hrl2
      clear hs4 hrl hrr hs3 hwl hwr hwl2 hrl2 HRS HBS HRR
      have hb : W8.heap[w1.heap.size]? = some (.cells #[.string (str tl), .bool false] 156 (0, 0)) := HR8.out
      have HB8 := Lib.hid hb
      obtain ⟨p0, p1, p2, p3⟩ := pair_facts hb
      clear hb HR8
      unfold maxLen at hmt hmw hmr
      have HINF : Hid ((Try.prog.info? 142).map (fun i => (i.zero, i.size, i.bytes)) = some (some (.agg #[.int .i64 0, .int .i64 0]), 2, 16)) := Lib.hid (by kernel_rfl)
      have HINI : Hid ((Try.prog.info? 3).map (fun i => (i.zero, i.size, i.bytes)) = some (some (.int .i64 0), 1, 8)) := Lib.hid (by kernel_rfl)
      go_wp2_with fail
      clear p0 p1 p2 p3
      go_loopw [15] (fun i wr => ∃ (k : Nat) (vv : Value), k ≤ ts.length ∧ i = .int .i64 k ∧ Only (· = W3.heap.size) W8 wr ∧ wr.heap[W3.heap.size]? = some (.cells #[.int .i64 d, vv, .slice none 0 0, .int .i64 0, .bool false] 36 (0, 0)) ∧ wr.ownsRow W8.heap.size 142 2 vv k (cells2 ((ts.zip ws).take k))) (fun i _ => ts.length - (intOf i).toNat)
      case atStart => exact ⟨0, _, by omega, rfl, Only.refl _ _, HC8.out, World.ownsRow_nil _ _ _ _⟩
      case round =>
        obtain ⟨k, vv, hk, rfl, hO, hC, hV⟩ := hrel
        obtain ⟨wr0, hwr⟩ : ∃ x, x = wr := ⟨_, rfl⟩
        subst hwr
        by_cases hlt : k < ts.length
        · obtain ⟨bt, ot, rfl, hct2⟩ := HT8.out.spot (by omega)
          have hwk : k < ws.length := by have := HWL.out; omega
          obtain ⟨bw, ow, rfl, hcw2⟩ := HW8.out.spot (by omega)
          have hbt1 : bt ≠ W3.heap.size := by have := HFT.out bt ot none _ _ rfl; omega
          have hbw1 : bw ≠ W3.heap.size := by have := HFW.out bw ow none _ _ rfl; omega
          have hct3 := hO.cell_eq (hct2 k hlt) hbt1
          have hcw3 := hO.cell_eq (hcw2 k hwk) hbw1
          have hst := zip_take ts ws k hlt hwk
          have hxr := HA3.out ts[k] (List.getElem_mem hlt)
          have hyr := HWR.out ws[k] (List.getElem_mem hwk)
          generalize ts[k] = x at *
          generalize ws[k] = y at *
          have HST := Lib.hid hst; have HV := Lib.hid hV; have HC := Lib.hid hC
          obtain ⟨⟨k0, k1, k2, k3, k4⟩, f0, f1, f2, f3, f4⟩ := five_facts hC
          have hk63 : k + 1 ≤ maxLen := by unfold maxLen; omega
          have hk16 : (k + 1) * 16 ≤ 140737488355328 := by omega
          have hb8 : W8.heap.size ≤ wr0.heap.size := hO.size
          have hbw : bw < W8.heap.size := by have := World.block_lt_of_cell? W8 _ (hcw2 k hwk); simpa using this
          have hbt : bt < W8.heap.size := by have := World.block_lt_of_cell? W8 _ (hct2 k hlt); simpa using this
          clear hst hct2 hcw2 hV hC k0 k2 k3 k4 f0 f2 f3 f4
          go_upto_region 16 with fail
          have hCw : W3.heap.size < wr0.heap.size := by omega
          have hbw2 : bw < wr0.heap.size := by omega
          have hbt2 : bt < wr0.heap.size := by omega
          have q0 : Only (fun k => W8.heap.size ≤ k) wr0 wr0 := Only.refl _ _
          have l1 := ((Only.refl (fun _ => False) wr0).alloc (.cells #[.int .i64 x, .int .i64 y] 142)).cell_eq k1 (fun h => h)
          go_region_law ((refine step_one _ (by rfl) (.tmp 69) (.tmp 79) 22 (by rfl) W8.heap.size 142 (.agg #[.int .i64 0, .int .i64 0]) 2 16 Try.underlying22 HINF.out rfl (by omega) vv k _ (by rfl) (by first | exact HV.out | exact HV.out.alloc _) _ [.int .i64 x, .int .i64 y] (by rfl) (by first | exact blk_new _ _ | exact blk_new1 _ _ _) rfl (by intro u hu; simp at hu; rcases hu with rfl | rfl <;> rfl) hk63 hk16 (by first | exact base_le hb8 q0 | exact base_le hb8 q0.drew | exact base_le hb8 (q0.alloc _) | exact base_le hb8 (q0.drew.alloc _)) ?_); intro gn capn wn hN hq; have q0 := Only.same (by first | exact q0 | exact q0.drew | exact q0.alloc _ | exact q0.drew.alloc _) hq; clear hq; have hbn := q0.heap HC.out (by omega); obtain ⟨⟨_, m1, _, _, _⟩, _, n1, _, _, _⟩ := five_facts hbn)
          all_goals
            go_wp2_with fail
            refine ⟨?_, by simp [intOf]; omega⟩
            (repeat apply Exists.intro)
            refine ⟨?_, rfl⟩
            refine ⟨k + 1, _, by omega, by go_num, (hO.trans q0 (S := (· = W3.heap.size)) (fun g h1 h2 => by omega)).setCell (fun _ => rfl) _, blk_set hbn, ?_⟩
            rw [HST.out, cells2_append]
            exact own_keep hN ((Only.refl (· = W3.heap.size) wn).setCell (fun _ => rfl) _) (fun g hg e => by have := (hN.lt g hg).1; omega)
        · obtain rfl : k = ts.length := by omega
          rw [List.take_of_length_le (by simp; omega)] at hV
          have HVT := Lib.hid (own_slp hV); have HVF := Lib.hid (own_fr hV); have HC := Lib.hid hC; have HO := Lib.hid hO
          have HX := Lib.hid (HX8.out.keep hO (fun b' off sp n c e h => by have := HFX.out b' off sp n c e; omega))
          have hz9 := hO.size
          clear hV hC hO HT8 HW8 HC8
          have hrl9 : rest.length ≤ 9 ∧ 9 ≤ rest.length := by have := HRL.out; omega
          obtain ⟨hrl9a, hrl9b⟩ := hrl9
          have h8c : (8 : Int) ≤ (cr' : Int) := by omega
          obtain ⟨bx, ox, rfl, hx⟩ := HX.out.spot (by omega)
          have hbx : bx ≠ W3.heap.size := by have := HFX.out bx ox none _ _ rfl; omega
          have HXX := Lib.hid hx
          have hCl := heap_lt HC.out
          clear hx
          go_wp2_with fail
          go_loopw [16] (fun i wr => ∃ (k : Nat) (v2 : Value), k ≤ 8 ∧ i = .int .i64 k ∧ Only (· = W3.heap.size) wr0 wr ∧ wr.heap[W3.heap.size]? = some (.cells #[.int .i64 d, vv, v2, .int .i64 0, .bool false] 36 (0, 0)) ∧ wr.ownsRow wr0.heap.size 3 1 v2 k ((((rest.take 8).map (· - 128)).take k).map num)) (fun i _ => 8 - (intOf i).toNat)
          case atStart => exact ⟨0, _, by omega, rfl, Only.refl _ _, HC.out, World.ownsRow_nil _ _ _ _⟩
          case round =>
            obtain ⟨k, v2, hk2, rfl, hO2, hC2, hV2⟩ := hrel
            obtain ⟨wr1, hwr1⟩ : ∃ x, x = wr := ⟨_, rfl⟩
            subst hwr1
            by_cases hlt2 : k < 8
            · have hkr : k < rest.length := by omega
              have hxk := hO2.cell_eq (HXX.out k hkr) hbx
              have hst := take_snocI ((rest.take 8).map (· - 128)) k (by simp; omega)
              rw [List.getElem_map, List.getElem_take] at hst
              have hxr := HRR2.out rest[k] (List.getElem_mem hkr)
              generalize rest[k] = x at *
              have HST := Lib.hid hst; have HV2 := Lib.hid hV2; have HC2 := Lib.hid hC2
              have hx2 : 0 ≤ x ∧ x < 256 := by simpa using hxr
              obtain ⟨hxa, hxb⟩ := hx2
              have hb8 := hO2.size
              have hCw := heap_lt hC2
              have hbx2 : bx < wr1.heap.size := by have := World.block_lt_of_cell? wr1 _ hxk; simpa using this
              obtain ⟨⟨_, _, k2, _, _⟩, _, _, f2, _, _⟩ := five_facts hC2
              have hk63 : k + 1 ≤ maxLen := by unfold maxLen; omega
              have hk8 : (k + 1) * 8 ≤ 140737488355328 := by omega
              have hwrp : IntKind.i64.wrap (x - 128) = x - 128 := by rw [IntKind.wrap_i64]; omega
              clear hst hV2 hC2 hxr
              go_upto_region 20 with fail
              have q0 : Only (fun k => wr0.heap.size ≤ k) wr1 wr1 := Only.refl _ _
              have l1 := ((Only.refl (fun _ => False) wr1).alloc (.cells #[.int .i64 (x - 128)] 3)).cell_eq k2 (fun h => h)
              go_region_law ((refine step_one _ (by rfl) (.tmp 87) (.tmp 93) 23 (by rfl) wr0.heap.size 3 (.int .i64 0) 1 8 Try.underlying23 HINI.out rfl (by omega) v2 k _ (by rfl) (by first | exact HV2.out | exact HV2.out.alloc _) _ [.int .i64 (x - 128)] (by rfl) (by first | exact blk_new _ _ | exact blk_new1 _ _ _) rfl (by intro u hu; simp at hu; subst hu; rfl) hk63 hk8 (by first | exact base_le hb8 q0 | exact base_le hb8 q0.drew | exact base_le hb8 (q0.alloc _) | exact base_le hb8 (q0.drew.alloc _)) ?_); intro gn capn wn hN hq; have q0 := Only.same (by first | exact q0 | exact q0.drew | exact q0.alloc _ | exact q0.drew.alloc _) hq; clear hq; have hbn := q0.heap HC2.out (by omega); obtain ⟨⟨_, _, m2, _, _⟩, _, _, n2, _, _⟩ := five_facts hbn)
              all_goals
                go_wp2_with fail
                refine ⟨?_, by simp [intOf]; omega⟩
                (repeat apply Exists.intro)
                refine ⟨?_, rfl⟩
                refine ⟨k + 1, _, by omega, by go_num, (hO2.trans q0 (S := (· = W3.heap.size)) (fun g h1 h2 => by omega)).setCell (fun _ => rfl) _, blk_set hbn, ?_⟩
                rw [HST.out, List.map_append]
                exact own_keep hN ((Only.refl (· = W3.heap.size) wn).setCell (fun _ => rfl) _) (fun g hg e => by have := (hN.lt g hg).1; omega)
            · obtain rfl : k = 8 := by omega
              rw [List.take_of_length_le (by simp; omega)] at hV2
              have hy := hO2.cell_eq (HXX.out 8 (by omega)) hbx
              have hyr := HRR2.out rest[8] (List.getElem_mem (by omega))
              have hyg : rest.getD 8 0 = rest[8] := by rw [List.getD_eq_getElem?_getD, List.getElem?_eq_getElem (by omega)]; rfl
              generalize rest[8] = y at *
              have hy2 : 0 ≤ y ∧ y < 256 := by simpa using hyr
              have HYG := Lib.hid hyg
              have hsl2 : Sl wr1 (.int .i64) v2 ((rest.take 8).map (· - 128)) := own_sl hV2
              have hfr2 := own_fr hV2
              have hslp : SlP wr1 vv (ts.zip ws) := HVT.out.keep hO2 (fun b' off sp n c h0 e h => by have := HVF.out b' off sp n c e; omega)
              have hR9 := hO2.heap (HO.out.heap HB8.out (by omega)) (by omega)
              have hA9 := hO2.heap (HO.out.heap HA8.out (by omega)) (by omega)
              have hS9 : Same w wr1 := (HS8.out.trans HO.out (S := fun _ => False) (fun g h1 h2 => by omega)).trans hO2 (fun g h1 h2 => by omega)
              have hsz2 := hO2.size
              obtain ⟨⟨k0, k1, k2, k3, k4⟩, f0, f1, f2, f3, f4⟩ := five_facts hC2
              have HC2 := Lib.hid hC2
              clear hV2 hyr hyg hC2
              go_upto_region 22 with fail
              obtain ⟨av, nv, cv, rfl⟩ := hslp.form
              obtain ⟨av2, nv2, cv2, rfl⟩ := hsl2.form
              have hd9 : Only (· = W3.heap.size) wr1 (wr1.setCell ⟨W3.heap.size, 3, none⟩ (.int .i64 y)) := (Only.refl (· = W3.heap.size) wr1).setCell (fun _ => rfl) _
              have hC9 := blk_set (j := 3) (v := .int .i64 y) HC2.out
              have hR10 := hd9.heap hR9 (by omega)
              have hA10 := hd9.heap hA9 (by omega)
              have hS10 : Same w (wr1.setCell ⟨W3.heap.size, 3, none⟩ (.int .i64 y)) := hS9.trans hd9 (fun g h1 h2 => by omega)
              have hslp9 := hslp.keep hd9 (fun b' off sp n c h0 e h => by have := HVF.out b' off sp n c e; omega)
              have hsl9 := hsl2.keep hd9 (fun b' off sp n c e h => by have := hfr2 b' off sp n c e; omega)
              generalize wr1.setCell ⟨W3.heap.size, 3, none⟩ (.int .i64 y) = w9 at *
              have HC9 : Hid (w9.heap[W3.heap.size]? = some (.cells #[.int .i64 d, .slice av nv cv, .slice av2 nv2 cv2, .int .i64 y, .bool false] 36 (0, 0))) := Lib.hid hC9
              have HR9 := Lib.hid hR10; have HA9 := Lib.hid hA10; have HS9 := Lib.hid hS10; have HP9 := Lib.hid hslp9; have HQ9 := Lib.hid hsl9
              have hci : ChgI (readA d ts ws rest) := by
                refine ⟨?_, ?_, ?_, ?_, ?_, ?_⟩
                · unfold i64b readA; simp only; omega
                · unfold i64b readA; simp only; rw [HYG.out]; omega
                · intro t ht
                  have ht2 : t ∈ ts.zip ws := ht
                  obtain ⟨t1, t2⟩ := t
                  have h1 := HA3.out t1 (List.of_mem_zip ht2).1
                  have h2 := HWR.out t2 (List.of_mem_zip ht2).2
                  have h3 : t2 < 65536 := by simpa using h2.2
                  unfold i64b; simp only; omega
                · intro x hx
                  obtain ⟨u, hu, rfl⟩ := List.mem_map.1 (show x ∈ (rest.take 8).map (· - 128) from hx)
                  have h2 := HRR2.out u (List.mem_of_mem_take hu)
                  have h3 : u < 256 := by simpa using h2.2
                  unfold i64b; omega
                · show (ts.zip ws).length ≤ _; simp; omega
                · show ((rest.take 8).map (· - 128)).length ≤ _; simp; omega
              have hcv : ∀ w0, SlP w0 (.slice av nv cv) (ts.zip ws) → Sl w0 (.int .i64) (.slice av2 nv2 cv2) ((rest.take 8).map (· - 128)) → ChgV w0 (.agg #[.int .i64 d, .slice av nv cv, .slice av2 nv2 cv2, .int .i64 y, .bool false]) (readA d ts ws rest) := fun w0 h1 h2 => ⟨.slice av nv cv, .slice av2 nv2 cv2, by unfold readA; simp only; rw [HYG.out], h1, h2⟩
              have cr := fun w0 h1 h2 => rright10_any (.agg #[.int .i64 d, .slice av nv cv, .slice av2 nv2 cv2, .int .i64 y, .bool false]) (readA d ts ws rest) w0 (hcv w0 h1 h2) hci
              obtain ⟨r0, hr0⟩ : ∃ r, r = rightD (readA d ts ws rest) := ⟨_, rfl⟩
              rw [← hr0] at cr
              have CRR := Lib.hid cr; have HR0 := Lib.hid hr0; have HCV := Lib.hid hcv
              clear hd9 hC9 hR10 hA10 hS10 hslp9 hsl9 hci cr hr0 hR9 hA9 hS9 hslp hsl2 HC2 hO2 hy2 k0 k1 k2 k3 k4 f0 f1 f2 f3 f4 HX HXX HC HO HVT HX8 HA3 HWR HRR2 hcv HA8 HB8 HS8
              obtain ⟨⟨k0, k1, k2, k3, k4⟩, f0, f1, f2, f3, f4⟩ := five_facts HC9.out
              go_wp2_with fail
              refine (CRR.out _ HP9.out HQ9.out).mono ?_
              rintro e w6 ⟨rfl, hS6⟩
              have HC6 := Lib.hid (hS6.heap HC9.out (fun h => h)); have HA6 := Lib.hid (hS6.heap HA9.out (fun h => h)); have HR6 := Lib.hid (hS6.heap HR9.out (fun h => h))
              have HP6 := Lib.hid (HP9.out.same hS6); have HQ6 := Lib.hid (HQ9.out.same hS6)
              have HS6 := Lib.hid (HS9.out.then hS6)
              have hsz6 := hS6.size
              clear hS6 HA9 HC9 HR9 HP9 HQ9 HS9 k0 k1 k2 k3 k4 f0 f1 f2 f3 f4
              obtain ⟨⟨k0, k1, k2, k3, k4⟩, f0, f1, f2, f3, f4⟩ := five_facts HC6.out
              obtain ⟨⟨l0, l1, l2, l3, l4⟩, e0, e1, e2, e3, e4⟩ := five_facts HA6.out
              obtain ⟨p0, p1, p2, p3⟩ := pair_facts HR6.out
              by_cases h0 : r0 = 0
              · subst h0
                have hk : okC (readA d ts ws rest) = some (readA d ts ws rest) := okC_some HR0.out.symm
                have HK := Lib.hid hk
                clear hk
                have hp5 := (Only.refl (· = w.heap.size) w6).put5 (fun _ => rfl) (.int .i64 d) (.slice av nv cv) (.slice av2 nv2 cv2) (.int .i64 y) (.bool false)
                have o0 := hp5.cell_eq p0 (by omega)
                have HP5 := Lib.hid hp5
                clear hp5
                go_wp2_with fail
                go_region
                all_goals (try go_wp2_with fail)
                all_goals
                  refine bodyPost_ret (results_ct3 rfl _ _ _ _ _ _ _ rfl (five_set HA6.out _ _ _ _ _) Try.underlying36 rfl (by kernel_rfl)) rfl ?_
                  rw [HRZ.out, HK.out]
                  have hpp := (HP6.out.keep HP5.out (fun b' off sp n c h0 e h => by have := HVF.out b' off sp n c e; omega))
                  have hqq := (HQ6.out.keep HP5.out (fun b' off sp n c e h => by have := hfr2 b' off sp n c e; omega))
                  have hff : ChgF _ w.heap.size (.agg #[.int .i64 d, .slice av nv cv, .slice av2 nv2 cv2, .int .i64 y, .bool false]) (readA d ts ws rest) := ⟨_, _, by unfold readA; simp only; rw [HYG.out], hpp, hqq, HVF.out.mono (by omega), hfr2.mono (by omega)⟩
                  have hss := HS6.out.put5 (b := w.heap.size) (fun h => by omega) (.int .i64 d) (.slice av nv cv) (.slice av2 nv2 cv2) (.int .i64 y) (.bool false)
                  exact ⟨_, rfl, by first | exact hss | exact hss.drew | exact HS6.out.drew.put5 (fun h => by omega) _ _ _ _ _, _, rfl, by first | exact hff | exact hff.same (Only.refl _ _).drew⟩
              · have hk : okC (readA d ts ws rest) = none := okC_none (by rw [← HR0.out]; exact h0)
                have HK := Lib.hid hk
                have hn := neq0 h0
                clear hk h0
                go_wp2_with fail
                refine bodyPost_ret (results_ct3 rfl _ _ _ _ _ _ _ rfl (five_set HA6.out _ _ _ _ _) Try.underlying36 rfl (by kernel_rfl)) rfl ?_
                rw [HRZ.out, HK.out]
                exact ⟨_, rfl, HS6.out.put5 (fun h => by omega) _ _ _ _ _, _, rfl, chg_zero _ _⟩
/-- ref10.Read. -/
theorem rread10_any (l : List UInt8) (w : World) (hlen : l.length ≤ 1000000) :
    Calls Try.prog 23 #[.string (str l)] w fun e w' => ∃ v, e = .returned v ∧ Same w w' ∧ Read10V w' w.heap.size v (readD (some l)) := by
  by_cases hg : (varS (varS (some l)).2).1 = 0
  · exact rread_live l w hlen hg
  · exact rread_gone l w hlen hg
end Go.Proofs.Ytjegohibpojneaa
