import Derived.Test.YtjegohibpojneaaDocPrint
import Derived.Test.YtjegohibpojneaaPackRefF
set_option linter.unusedVariables false
set_option linter.unusedSimpArgs false
namespace Go.Proofs.Ytjegohibpojneaa
open Go.RowKit

/-- One more on one of two rows, in a plain region: the element lies in a new block of its own. -/
theorem app_two {P : Program} {W : World} {ops : Array Oper} {rest : List Oper} {o : Oper} {a : Act} {Q : Exit → Act → World → Prop} (u : Value) (hgd : o.guard = none) (s x : Operand) (t : TypeId)
    (ho : o.op = .call { callee := .builtin .append, args := #[s, x], argTypes := #[t, t] })
    (base : Nat) (e : TypeId) (z : Value) (bytes : Nat) (ht : P.underlying t = some (.slice e)) (hinfo : (P.info? e).map (fun i => (i.zero, i.size, i.bytes)) = some (some z, 1, bytes)) (hzs : z.cells.size = 1)
    (v : Value) (n : Nat) (xs : List Value) (hs : a.eval s = v) (hown : W.ownsRow base e 1 v n xs) (v2 : Value) (m : Nat) (ys : List Value) (hown2 : W.ownsRow base e 1 v2 m ys) (hap : Apart v v2)
    (hx : a.eval x = .slice (some ⟨W.heap.size, 0, none⟩) 1 1) (h1 : u.oneCell' = true) (h63 : n + 1 ≤ maxLen) (hbytes : (n + 1) * bytes ≤ 140737488355328) (hbase : base ≤ W.heap.size)
    (h : ∀ v' w', w'.ownsRow base e 1 v' (n + 1) (xs ++ [u]) → w'.ownsRow base e 1 v2 m ys → Apart v' v2 → Only (fun k => base ≤ k) W w' → wpList P ops Q rest (a.put o.dst v') w') :
    wpList P ops Q (o :: rest) a (W.alloc (.cells #[u] e)) := by
  obtain ⟨i, hi, hz0, hz1, hz2⟩ := info_parts hinfo
  refine wpList_append_own_at _ hgd s x t ho base e i z 1 bytes ht hi hz0 hz1 hz2 hzs (by omega) v n xs hs (hown.alloc _) ⟨W.heap.size, 0, none⟩ 1 1 [u] hx rfl (cell_one_new _ _ _) (by intro y hy; simp at hy; subst hy; exact h1) h63 hbytes (by simp; omega) ?_
  intro v' w' h2 hg _ hl
  refine h v' w' h2 (own_grown (hown2.alloc _) hg hap) (fun g e1 e2 => ?_) (((Only.refl _ W).alloc _).same (own_base (hown.alloc _) hg))
  rcases hl with h' | h'
  · exact hap g (by rw [← h']; exact e1) e2
  · rw [h'] at e1
    have h3 := (hown2.lt g e2).2
    simp at e1
    omega

set_option maxRecDepth 100000 in
set_option maxHeartbeats 4000000 in
theorem rprint_any (v : Value) (c : Chg) (w : World) (hv : ChgV w v c) (hi : ChgI c) :
    Calls Try.prog 17 #[v] w fun e w' => e = .returned (.tuple #[.string (str ((docS c).getD [])), .int .i64 (rightD c)]) ∧ Same w w' := by
  have HV := Lib.hid hv
  obtain ⟨s1, s2, rfl, h1, h2⟩ := hv
  have H1 := Lib.hid h1; have H2 := Lib.hid h2; have HI := Lib.hid hi
  obtain ⟨a1, c1, rfl, hc1, hm1⟩ := h1.lit
  obtain ⟨a2, c2, rfl, hc2, hm2, _, _⟩ := h2
  clear h1 hi
  unfold maxLen at hm1 hm2
  obtain ⟨hS0, hB0⟩ := chg_box w c (.slice a1 c.terms.length c1) (.slice a2 c.v.length c2) 36 _ rfl
  obtain ⟨rd, hrd⟩ : ∃ r, r = rightD c := ⟨_, rfl⟩
  rw [← hrd]
  have hds : docS c = if rd = 0 then some (docBytes c) else none := by rw [hrd]; rfl
  have cr := fun w0 (hS : Same w w0) => rright10_any _ c w0 (HV.out.same hS) HI.out
  rw [← hrd] at cr
  have CR := Lib.hid cr; have HDS := Lib.hid hds; have HRD := Lib.hid hrd
  clear cr hds hrd
  go_enter Try.func17, Try.ntmps17
  go_upto_region 1 with fail
  generalize w.alloc (.cells #[.int .i64 c.doc, .slice a1 c.terms.length c1, .slice a2 c.v.length c2, .int .i64 c.tags, .bool c.gone] 36) = W0 at *
  have HS0 := Lib.hid hS0; have HB0 := Lib.hid hB0
  obtain ⟨q0, q1, q2, q3, q4⟩ := chg_cells hB0
  clear hS0 hB0
  go_wp2_with fail
  refine (CR.out _ HS0.out).mono ?_
  rintro e w1 ⟨rfl, hS1⟩
  have HS1 := Lib.hid (HS0.out.then hS1)
  have HB1 := Lib.hid (hS1.heap HB0.out (fun h => h))
  obtain ⟨p0, p1, p2, p3, p4⟩ := chg_cells HB1.out
  clear q0 q1 q2 q3 q4 HB0 HS0 hS1 CR
  by_cases h0 : rd = 0
  rotate_left
  · have hd : docS c = none := by rw [HDS.out, if_neg h0]
    have HD := Lib.hid hd
    have hz : (rd != 0) = true := by simpa using h0
    clear h0 hd
    go_wp2_with fail
    go_ret2
    rw [HD.out]
    exact ⟨rfl, HS1.out⟩
  subst h0
  have hd : docS c = some (docBytes c) := by rw [HDS.out, if_pos rfl]
  have hrc := (right0_iff c).1 HRD.out.symm
  have HD := Lib.hid hd; have HRC := Lib.hid hrc
  clear hd HDS HRD
  have hdoc := hrc.doc
  obtain ⟨dn, hdn⟩ := Int.eq_ofNat_of_zero_le hdoc.1
  rw [hdn] at p0
  have cv := fun w0 => varint2_ok dn w0 (by omega)
  have CV := Lib.hid cv
  have hv10 := vint_le10 dn (by omega)
  have hvs := str_size (vint dn)
  have HDN : Hid (c.doc.toNat = dn) := Lib.hid (by omega)
  clear cv hrc hdoc hdn
  go_wp2_with fail
  refine (CV.out _).mono ?_
  rintro e w2 ⟨rfl, hS2⟩
  have HS2 := Lib.hid (HS1.out.then hS2)
  have HB2 := Lib.hid (hS2.heap HB1.out (fun h => h))
  clear p0 p1 p2 p3 p4 HB1 HS1 hS2 CV
  obtain ⟨p0, p1, p2, p3, p4⟩ := chg_cells HB2.out
  obtain ⟨bg, hbg⟩ : ∃ b, b = c.gone := ⟨_, rfl⟩
  rw [← hbg] at p4
  have HBG := Lib.hid hbg
  clear hbg
  cases bg
  rotate_left
  · have hdb : docBytes c = vint dn ++ [1] := by unfold docBytes; rw [HDN.out, ← HBG.out]; rfl
    have HDB := Lib.hid hdb
    clear hdb
    have hs1 : (str [1]).size = 1 := str_size [1]
    have hcv := (show ∀ W0 : World, (convert 148 9 (.slice (some ⟨W0.heap.size, 0, none⟩) 1 1)).run Try.prog (W0.alloc (.cells #[.int .u8 1] 5)) = .ok (.string (str [1])) (W0.alloc (.cells #[.int .u8 1] 5)) from fun W0 => conv1 1 (by omega) W0)
    go_wp2_with fail
    go_ret2
    rw [HD.out, HDB.out]
    refine ⟨?_, HS2.out.alloc _⟩
    show Ending.returned (.tuple #[.string (str (vint dn) ++ str [1]), _]) = _
    rw [str_append]; rfl
  · obtain ⟨ks, hks⟩ : ∃ ks, ks = c.terms.map (·.1) := ⟨_, rfl⟩
    obtain ⟨ws, hws⟩ : ∃ ws, ws = c.terms.map (·.2) := ⟨_, rfl⟩
    have hkl : ks.length = c.terms.length := by rw [hks]; simp
    have hwl : ws.length = c.terms.length := by rw [hws]; simp
    have HKL := Lib.hid hkl; have HKS := Lib.hid hks; have HWL := Lib.hid hwl; have HWS := Lib.hid hws
    clear hkl hks hwl hws
    have hlen := HI.out.2.2.2.2.1
    have HINF : Hid ((Try.prog.info? 3).map (fun i => (i.zero, i.size, i.bytes)) = some (some (.int .i64 0), 1, 8)) := Lib.hid (by kernel_rfl)
    go_wp2_with fail
    go_loopw [7, 8, 10] (fun ra rb i wr => ∃ (k : Nat) (va vb : Value), va = ra ∧ vb = rb ∧ k ≤ c.terms.length ∧ i = .int .i64 k ∧ Same w2 wr ∧ wr.ownsRow w2.heap.size 3 1 va k ((ks.take k).map num) ∧ wr.ownsRow w2.heap.size 3 1 vb k ((ws.take k).map num) ∧ Apart va vb) (fun _ _ i _ => c.terms.length - (intOf i).toNat)
    case atStart => exact ⟨0, _, _, rfl, rfl, by omega, rfl, Only.refl _ _, World.ownsRow_nil _ _ _ _, World.ownsRow_nil _ _ _ _, fun g h => by cases h⟩
    case round =>
      obtain ⟨k, va, vb, rfl, rfl, hk, rfl, hS, hA, hB, hD⟩ := hrel
      obtain ⟨wr0, hwr⟩ : ∃ x, x = wr := ⟨_, rfl⟩
      subst hwr
      replace p1 := hS.cell_eq p1 (fun h => h)
      by_cases hlt : k < c.terms.length
      · obtain ⟨b, off, rfl, hcc⟩ := H1.out.spot (by omega)
        have hck := hS.cell_eq (HS2.out.cell_eq (hcc k hlt).1 (fun h => h)) (fun h => h)
        have hck2 := hS.cell_eq (HS2.out.cell_eq (hcc k hlt).2 (fun h => h)) (fun h => h)
        have hbl : b < w2.heap.size := by have h1 := World.block_lt_of_cell? w _ (hcc k hlt).1; have h2 := HS2.out.size; simp at h1; omega
        have hwl2 : w.heap.size < w2.heap.size := heap_lt HB2.out
        have hst1 : ks.take (k + 1) = ks.take k ++ [c.terms[k].1] := by rw [take_snocI ks k (by have := HKL.out; omega)]; simp [HKS.out]
        have hst2 : ws.take (k + 1) = ws.take k ++ [c.terms[k].2] := by rw [take_snocI ws k (by have := HWL.out; omega)]; simp [HWS.out]
        generalize c.terms[k].1 = x at *
        generalize c.terms[k].2 = y at *
        have HST1 := Lib.hid hst1; have HST2 := Lib.hid hst2
        clear hst1 hst2 hcc p0 p2 p3 p4
        have hk63 : k + 1 ≤ maxLen := by unfold maxLen; omega
        have hk8 : (k + 1) * 8 ≤ 140737488355328 := by omega
        have hsz := hS.size
        have HA := Lib.hid hA; have HB := Lib.hid hB; have HAP := Lib.hid hD
        clear hA hB hD
        go_wp2_with (first
          | (at_builtin; refine app_two (o := ⟨some 50, _, _, _, _, _⟩) (.int .i64 x) rfl (.tmp 42) (.tmp 49) 23 rfl w2.heap.size 3 (.int .i64 0) 8 Try.underlying23 HINF.out rfl _ k _ rfl HA.out _ k _ HB.out HAP.out rfl rfl hk63 hk8 hsz ?_; intro v' w4 hown4 hoth4 hap4 hO4; have hS4 : Same w2 w4 := hS.trans hO4 (fun g h1 h2 => by omega); have p14 := hO4.cell_eq p1 (fun h => by omega); have hck4 := hO4.cell_eq hck2 (fun h => by omega); have hsz4 := hS4.size; have HA4 := Lib.hid hown4; have HB4 := Lib.hid hoth4; have HAP4 := Lib.hid hap4.symm; clear hown4 hoth4 hap4 hO4)
          | (at_builtin; refine app_two (o := ⟨some 59, _, _, _, _, _⟩) (.int .i64 y) rfl (.tmp 51) (.tmp 58) 23 rfl w2.heap.size 3 (.int .i64 0) 8 Try.underlying23 HINF.out rfl _ k _ rfl HB4.out _ (k + 1) _ HA4.out HAP4.out rfl rfl hk63 hk8 hsz4 ?_; intro v2' w5 hown5 hoth5 hap5 hO5))
        go_roundw
        case rel =>
          refine ⟨k + 1, _, _, rfl, rfl, by omega, by go_num, hS4.trans hO5 (fun g h1 h2 => by omega), ?_, ?_, hap5.symm⟩
          · rw [HST1.out, List.map_append]; exact hoth5
          · rw [HST2.out, List.map_append]; exact hown5
        case measure => simp [intOf]; omega
      · obtain rfl : k = c.terms.length := by omega
        rw [List.take_of_length_le (by have := HKL.out; omega)] at hA
        rw [List.take_of_length_le (by have := HWL.out; omega)] at hB
        have hSK := own_sl hA
        have hSV := own_sl hB
        have HS3 := Lib.hid (HS2.out.then hS)
        have HB3 := Lib.hid (hS.heap HB2.out (fun h => h))
        have HSK := Lib.hid hSK; have HSV := Lib.hid hSV
        clear hA hB hD hSK hSV hS p0 p1 p2 p3 p4 HB2
        obtain ⟨p0, p1, p2, p3, p4⟩ := chg_cells HB3.out
        go_wp2_with fail
        go_loopw [9, 11] (fun rv i wr => ∃ (k : Nat) (vv : Value), vv = rv ∧ k ≤ c.v.length ∧ i = .int .i64 k ∧ Same wr0 wr ∧ wr.ownsRow wr0.heap.size 3 1 vv k (((c.v.map (· + 128)).take k).map num)) (fun _ i _ => c.v.length - (intOf i).toNat)
        case atStart => exact ⟨0, _, rfl, by omega, rfl, Only.refl _ _, World.ownsRow_nil _ _ _ _⟩
        case round =>
          obtain ⟨k, vv, rfl, hk2, rfl, hS, hV⟩ := hrel
          obtain ⟨wr1, hwr⟩ : ∃ x, x = wr := ⟨_, rfl⟩
          subst hwr
          have HV3 := Lib.hid hV
          have hlv : c.v.length ≤ 8 := by have := (HRC.out.vec HBG.out.symm).1; omega
          replace p2 := hS.cell_eq p2 (fun h => h)
          by_cases hlt2 : k < c.v.length
          · obtain ⟨b, off, rfl, hcc⟩ := H2.out.spot (by omega)
            have hck := hS.cell_eq (HS3.out.cell_eq (hcc k hlt2) (fun h => h)) (fun h => h)
            have hst := take_snocI (c.v.map (· + 128)) k (by simpa using hlt2)
            rw [List.getElem_map] at hst
            have hxr := (HRC.out.vec HBG.out.symm).2 c.v[k] (List.getElem_mem hlt2)
            generalize c.v[k] = x at *
            have HST := Lib.hid hst
            have hsz := hS.size
            clear hst hcc hV p0 p1 p3 p4
            go_wp2_with ((at_builtin; refine app_one [.int .i64 (x + 128)] rfl (.tmp 67) (.tmp 74) 23 rfl wr0.heap.size 3 (.int .i64 0) 1 8 Try.underlying23 HINF.out rfl (by decide) _ k _ rfl HV3.out rfl ?_ rfl (by intro u hu; simp at hu; subst hu; rfl) (by unfold maxLen; omega) (by omega) hsz; intro v' w4 hown4 hO4))
            go_roundw
            case rel => exact ⟨k + 1, _, rfl, by omega, by go_num, hS.trans hO4 (fun g h1 h2 => by omega), by rw [HST.out, List.map_append]; exact hown4⟩
            case measure => simp [intOf]; omega
          · obtain rfl : k = c.v.length := by omega
            have hs3 := hS
            replace p3 := hS.cell_eq p3 (fun h => h)
            have HS4 := Lib.hid (HS3.out.then hS)
            have hks := fun x (hx : x ∈ ks) => show 0 ≤ x ∧ x ≤ 1048575 by
              rw [HKS.out] at hx
              obtain ⟨t, ht, rfl⟩ := List.mem_map.1 hx
              exact (HRC.out.terms t ht).1
            have hws := fun x (hx : x ∈ ws) => show 1 ≤ x ∧ x ≤ 65535 by
              rw [HWS.out] at hx
              obtain ⟨t, ht, rfl⟩ := List.mem_map.1 hx
              exact (HRC.out.terms t ht).2
            have hl64 := HRC.out.len
            obtain ⟨rb, hrb, hrbl⟩ := risS_some ks (by rw [HKS.out]; exact HRC.out.rises) (fun x hx => by have := hks x hx; omega) (by have := HKL.out; omega)
            have hfw := fixS_some 16 ws (by omega) (fun x hx => by have := hws x hx; omega)
            have hlw := fixB_len 16 ws
            have hkl := HKL.out
            have hwl := HWL.out
            have cr := fun w0 (hS : Same wr0 w0) => ris2_any _ ks w0 (HSK.out.same hS) (fun x hx => by have := hks x hx; omega) (by omega)
            rw [hrb] at cr
            have cw := fun w0 (hS : Same wr0 w0) => fix2_any 16 _ ws w0 (HSV.out.same hS) (fun x hx => by have := hws x hx; omega) (by omega)
            rw [show fixS 16 ws = some (fixB 16 ws) from hfw] at cw
            have htg := HRC.out.tags
            have hvx := (HRC.out.vec HBG.out.symm).2
            have hv256 : ∀ x ∈ c.v.map (· + 128), 0 ≤ x ∧ x < 256 := fun x hx => by
              obtain ⟨y, hy, rfl⟩ := List.mem_map.1 hx
              have := hvx y hy
              omega
            have hf8 := fixS_some 8 (c.v.map (· + 128)) (by omega) (fun x hx => by have := hv256 x hx; omega)
            have hl8 := fixB_len 8 (c.v.map (· + 128))
            rw [List.take_of_length_le (by simp)] at hV
            have hsv := own_sl hV
            have c8 := fun w0 (hS : Same wr1 w0) => fix2_any 8 _ (c.v.map (· + 128)) w0 (hsv.same hS) (fun x hx => by have := hv256 x hx; omega) (by simp; omega)
            rw [show fixS 8 (c.v.map (· + 128)) = some (fixB 8 (c.v.map (· + 128))) from hf8] at c8
            obtain ⟨tn, htn⟩ := Int.eq_ofNat_of_zero_le htg.1
            rw [htn] at p3
            have hdb : docBytes c = vint dn ++ ([0] ++ (rb ++ (fixB 16 ws ++ (fixB 8 (c.v.map (· + 128)) ++ [UInt8.ofNat tn])))) := by
              unfold docBytes
              rw [HDN.out, ← HBG.out, ← HKS.out, ← HWS.out, hrb, fixB8_snoc _ _ hv256 (by omega), htn]; rfl
            rw [List.length_map] at hl8
            have CRS := Lib.hid cr; have CW := Lib.hid cw; have C8 := Lib.hid c8; have HDB := Lib.hid hdb
            have hz1 := str_size rb; have hz2 := str_size (fixB 16 ws); have hz3 := str_size (fixB 8 (c.v.map (· + 128)))
            have hw16 : (fixB 16 ws).length ≤ 1000 := by omega
            have hw8 : (fixB 8 (c.v.map (· + 128))).length ≤ 1000 := by omega
            have hrb1 : rb.length ≤ 1000 := by omega
            have htn2 : tn < 256 := by omega
            have hs0 : (str [0]).size = 1 := str_size [0]
            have hst : (str [UInt8.ofNat tn]).size = 1 := str_size [UInt8.ofNat tn]
            have hc0 := (show ∀ W0 : World, (convert 148 9 (.slice (some ⟨W0.heap.size, 0, none⟩) 1 1)).run Try.prog (W0.alloc (.cells #[.int .u8 0] 5)) = .ok (.string (str [0])) (W0.alloc (.cells #[.int .u8 0] 5)) from fun W0 => conv1 0 (by omega) W0)
            have hct := fun W0 => conv1 tn htn2 W0
            have hw8t : IntKind.u8.wrap (tn : Int) = (tn : Int) := by rw [IntKind.wrap_u8]; omega
            generalize fixB 16 ws = fw at *
            generalize fixB 8 (c.v.map (· + 128)) = f8 at *
            clear cr cw c8 hdb hrb hfw hf8 hlw hl8 hkl hwl hks hws hl64 hvx htg hV HKL HWL HKS HWS hrbl HV3 hv256 hsv htn
            clear p0 p1 p4
            go_wp2_with fail
            refine (CRS.out _ hs3).mono ?_
            rintro e w5 ⟨rfl, hS5⟩
            have hs5 := hs3.then hS5
            replace p3 := hS5.cell_eq p3 (fun h => h)
            go_wp2_with fail
            refine (CW.out _ hs5).mono ?_
            rintro e w6 ⟨rfl, hS6⟩
            have hs6 := hs5.then hS6
            replace p3 := hS6.cell_eq p3 (fun h => h)
            go_wp2_with fail
            refine (C8.out _ (hS5.then hS6)).mono ?_
            rintro e w8 ⟨rfl, hS8⟩
            replace p3 := hS8.cell_eq p3 (fun h => h)
            have HS8 := Lib.hid ((HS3.out.then hs6).then hS8)
            have p3a := ((Only.refl (fun _ => False) w8).alloc (.cells #[.int .u8 0] 5)).cell_eq p3 (fun h => h)
            have hct8 := conv1 tn htn2 (w8.alloc (.cells #[.int .u8 0] 5))
            rw [World.size_alloc] at hct8
            have hwl8 : w.heap.size < w8.heap.size := World.block_lt_of_cell? w8 _ p3
            clear hS8
            go_wp2_with fail
            go_ret2
            rw [HD.out, HDB.out]
            refine ⟨?_, (HS8.out.alloc _).alloc _⟩
            show Ending.returned (.tuple #[.string (((((str (vint dn) ++ str [0]) ++ str rb) ++ str fw) ++ str f8) ++ str [UInt8.ofNat tn]), _]) = _
            rw [str_append, str_append, str_append, str_append, str_append]
            simp [eno]
end Go.Proofs.Ytjegohibpojneaa
