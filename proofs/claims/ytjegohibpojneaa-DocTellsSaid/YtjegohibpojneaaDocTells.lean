import Derived.Test.YtjegohibpojneaaDocAwake
import Derived.Test.YtjegohibpojneaaDocRow
import Derived.Test.YtjegohibpojneaaDocParseR
import Derived.Deep.Cut
import Derived.Deep.CutRange
import Derived.Deep.RegionHeld3
set_option linter.unusedVariables false
set_option linter.unusedSimpArgs false
namespace Go.Proofs.Ytjegohibpojneaa
open Go.RowKit

set_option maxHeartbeats 8000000 in
set_option maxRecDepth 100000 in
theorem docTells_walk (v : Value) (c : Chg) (s : ByteArray) (w : World) (hv : ChgIn w v c) (hs : s.size ≤ 140737488351232) :
    Calls Try.prog 3 #[v, .string s] w fun e w' => e = .returned (.bool true) ∧ Same w w' := by
  obtain ⟨sl, rfl⟩ : ∃ sl, s = str sl := ⟨s.data.toList, (str_of s).symm⟩
  have hst := str_size sl
  have H1 := Lib.hid hv
  obtain ⟨a1, n1, m1, a2, n2, m2, rfl, hn1, hn2⟩ := chg_form hv.1
  obtain ⟨hS0, hA0⟩ := chg_box w c (.slice a1 n1 m1) (.slice a2 n2 m2) 27 _ rfl
  clear hv hn1 hn2
  go_enter Try.func3, Try.ntmps3
  go_upto_region 1 with fail
  generalize w.alloc (.cells #[.int .i64 c.doc, .slice a1 n1 m1, .slice a2 n2 m2, .int .i64 c.tags, .bool c.gone] 27) = W0 at *
  have HS0 := Lib.hid hS0; have HA0 := Lib.hid hA0
  clear hS0 hA0
  go_wp2_with fail
  refine (dawake_any _).mono ?_
  rintro e w1 ⟨rfl, hS1⟩
  have HS1 := Lib.hid (HS0.out.then hS1); have HA1 := Lib.hid (hS1.heap HA0.out (fun h => h))
  clear HS0 HA0 hS1
  have cf1 := fun w0 hS => few_any _ c w0 (H1.out.1.same hS)
  obtain ⟨q1, hq1⟩ : ∃ q, q = (decide (c.terms.length ≤ 100) && decide (c.v.length ≤ 20)) := ⟨_, rfl⟩
  rw [← hq1] at cf1
  have HF1 := Lib.hid cf1; have HQ1 := Lib.hid hq1
  clear cf1 hq1
  obtain ⟨⟨k0, k1, k2, k3, k4⟩, _⟩ := five_facts HA1.out
  go_wp2_with fail
  refine (HF1.out _ HS1.out).mono ?_
  rintro e w2 ⟨rfl, hS2⟩
  have HS2 := Lib.hid (HS1.out.then hS2); have HA2 := Lib.hid (hS2.heap HA1.out (fun h => h))
  clear HS1 HA1 hS2 HF1 k0 k1 k2 k3 k4
  cases q1 with
  | false =>
    go_wp2_with fail
    go_ret
    exact ⟨rfl, HS2.out⟩
  | true =>
  by_cases h1000 : 1000 < sl.length
  · go_wp2_with fail
    go_ret
    exact ⟨rfl, HS2.out⟩
  have hi1 : ChgI c := H1.out.i (by have := HQ1.out; simp at this; exact this.1) (by have := HQ1.out; simp at this; exact this.2)
  have cp1 := fun w0 hS => print_any _ c w0 (H1.out.1.same hS) hi1
  have cp2 := fun w0 hS => rprint_any _ c w0 (H1.out.1.same hS) hi1
  have cr1 := fun w0 hS => right_any _ c w0 (H1.out.1.same hS) hi1
  have cr2 := fun w0 hS => rright10_any _ c w0 (H1.out.1.same hS) hi1
  have co1 := fun w0 hS => of_any _ c w0 (H1.out.1.same hS)
  generalize str ((docS c).getD []) = t1 at cp1 cp2
  generalize rightD c = r1 at cp1 cp2 cr1 cr2
  have CP1 := Lib.hid cp1; have CP2 := Lib.hid cp2; have CR1 := Lib.hid cr1; have CR2 := Lib.hid cr2; have CO1 := Lib.hid co1
  clear cp1 cp2 cr1 cr2 co1 HQ1 hi1
  obtain ⟨⟨k0, k1, k2, k3, k4⟩, _⟩ := five_facts HA2.out
  go_wp2_with fail
  refine (CP1.out _ HS2.out).mono ?_
  rintro e w3 ⟨rfl, hS3⟩
  have HS3 := Lib.hid (HS2.out.then hS3); have HA3 := Lib.hid (hS3.heap HA2.out (fun h => h))
  clear hS3 HS2 HA2 CP1 k0 k1 k2 k3 k4
  obtain ⟨⟨k0, k1, k2, k3, k4⟩, _⟩ := five_facts HA3.out
  go_wp2_with fail
  refine (CO1.out _ HS3.out).mono ?_
  rintro e w4 ⟨rfl, hS4⟩
  have HS4 := Lib.hid (HS3.out.then hS4); have HA4 := Lib.hid (hS4.heap HA3.out (fun h => h))
  clear hS4 HS3 HA3 k0 k1 k2 k3 k4
  go_wp2_with fail
  refine (CP2.out _ HS4.out).mono ?_
  rintro e w5 ⟨rfl, hS5⟩
  have HS5 := Lib.hid (HS4.out.then hS5); have HA5 := Lib.hid (hS5.heap HA4.out (fun h => h))
  clear hS5 HS4 HA4 CP2
  have ca := fun w0 => parse_any sl w0 (by omega)
  have cb := fun w0 => rparse10_any sl w0 (by omega)
  generalize parseD sl = pd at *
  obtain ⟨cx, ex⟩ := pd
  simp only at ca cb
  have CA := Lib.hid ca; have CB := Lib.hid cb
  clear ca cb
  go_wp2_with fail
  refine (CA.out _).mono ?_
  rintro e w6 ⟨u, rfl, hS6, hF6⟩
  obtain ⟨x1, n3, m3, x2, n4, m4, rfl, -, -⟩ := chg_form hF6.chg
  have hB6 := blk_new w6 (.cells #[.int .i64 cx.doc, .slice x1 n3 m3, .slice x2 n4 m4, .int .i64 cx.tags, .bool cx.gone] 27)
  have hT6 : Same w6 (w6.alloc (.cells #[.int .i64 cx.doc, .slice x1 n3 m3, .slice x2 n4 m4, .int .i64 cx.tags, .bool cx.gone] 27)) := (Only.refl _ w6).alloc _
  go_upto_region 8 with fail
  generalize w6.alloc (.cells #[.int .i64 cx.doc, .slice x1 n3 m3, .slice x2 n4 m4, .int .i64 cx.tags, .bool cx.gone] 27) = W6 at *
  have HS6 := Lib.hid ((HS5.out.then hS6).then hT6); have HA6 := Lib.hid (hT6.heap (hS6.heap HA5.out (fun h => h)) (fun h => h)); have HB6 := Lib.hid hB6; have HX6 := Lib.hid (hF6.chg.same hT6)
  clear hS6 hF6 hB6 hT6 HS5 HA5 CA
  go_wp2_with fail
  refine (CB.out _).mono ?_
  rintro e w7 ⟨u, rfl, hS7, hF7⟩
  obtain ⟨y1, n5, m5, y2, n6, m6, rfl, -, -⟩ := chg_form hF7
  have hB7 := blk_new w7 (.cells #[.int .i64 cx.doc, .slice y1 n5 m5, .slice y2 n6 m6, .int .i64 cx.tags, .bool cx.gone] 36)
  have hT7 : Same w7 (w7.alloc (.cells #[.int .i64 cx.doc, .slice y1 n5 m5, .slice y2 n6 m6, .int .i64 cx.tags, .bool cx.gone] 36)) := (Only.refl _ w7).alloc _
  go_upto_region 9 with fail
  generalize w7.alloc (.cells #[.int .i64 cx.doc, .slice y1 n5 m5, .slice y2 n6 m6, .int .i64 cx.tags, .bool cx.gone] 36) = W7 at *
  have HS7 := Lib.hid ((HS6.out.then hS7).then hT7); have HA7 := Lib.hid (hT7.heap (hS7.heap HA6.out (fun h => h)) (fun h => h)); have HB7 := Lib.hid (hT7.heap (hS7.heap HB6.out (fun h => h)) (fun h => h)); have HC7 := Lib.hid hB7
  have HX7 := Lib.hid ((HX6.out.same hS7).same hT7); have HY7 := Lib.hid (hF7.same hT7)
  clear hS7 hF7 hB7 hT7 HS6 HA6 HB6 HX6 CB
  have cn := fun w0 => rnew_any sl w0
  have cd := fun b w0 (hR : Rd w0 b (some sl)) => read_any b _ w0 hR (by simp; omega)
  have ce := fun w0 => rread10_any sl w0 (by omega)
  generalize readD (some sl) = rr at *
  obtain ⟨oc, st⟩ := rr
  simp only at cd ce
  have CN := Lib.hid cn; have CD := Lib.hid cd; have CE := Lib.hid ce
  clear cn cd ce
  go_wp2_with fail
  refine (CN.out _).mono ?_
  rintro e w8 ⟨rfl, hS8, hR8⟩
  have HR8 := Lib.hid hR8; have HT8 := Lib.hid hS8
  clear hS8 hR8 CN
  go_wp2_with fail
  refine (CD.out _ _ HR8.out).mono ?_
  rintro e w9 ⟨vv, rfl, hO9, hR9, u, rfl, hF9⟩
  simp only at hF9 hR9 ⊢
  generalize hcz : oc.getD zChg = cz at *
  generalize hok : oc.isSome = ok at *
  have hS9 : Same W7 w9 := HT8.out.trans hO9 (S := fun _ => False) (fun k h1 h => by have h2 : k = W7.heap.size := h; omega)
  obtain ⟨z1, n7, m7, z2, n8, m8, rfl, -, -⟩ := chg_form hF9.chg
  have hB9 := blk_new w9 (.cells #[.int .i64 cz.doc, .slice z1 n7 m7, .slice z2 n8 m8, .int .i64 cz.tags, .bool cz.gone] 27)
  have hT9 : Same w9 (w9.alloc (.cells #[.int .i64 cz.doc, .slice z1 n7 m7, .slice z2 n8 m8, .int .i64 cz.tags, .bool cz.gone] 27)) := (Only.refl _ w9).alloc _
  go_upto_region 11 with fail
  generalize w9.alloc (.cells #[.int .i64 cz.doc, .slice z1 n7 m7, .slice z2 n8 m8, .int .i64 cz.tags, .bool cz.gone] 27) = W9 at *
  have HS9 := Lib.hid ((HS7.out.then hS9).then hT9); have HA9 := Lib.hid (hT9.heap (hS9.heap HA7.out (fun h => h)) (fun h => h)); have HB9 := Lib.hid (hT9.heap (hS9.heap HB7.out (fun h => h)) (fun h => h)); have HC9 := Lib.hid (hT9.heap (hS9.heap HC7.out (fun h => h)) (fun h => h)); have HD9 := Lib.hid hB9
  have HX9 := Lib.hid ((HX7.out.same hS9).same hT9); have HY9 := Lib.hid ((HY7.out.same hS9).same hT9); have HZ9 := Lib.hid (hF9.chg.same hT9); have HR9 := Lib.hid (hR9.same hT9)
  clear hS9 hF9 hB9 hT9 hO9 hR9 HS7 HA7 HB7 HC7 HX7 HY7 HR8 HT8 CD
  have HCZ := Lib.hid hcz; have HOK := Lib.hid hok
  clear hcz hok
  go_wp2_with fail
  refine (CE.out _).mono ?_
  rintro e w10 ⟨vv, rfl, hS10, u, rfl, hF10⟩
  simp only at hF10 ⊢
  rw [HCZ.out] at hF10
  rw [HOK.out]
  obtain ⟨v1, n9, m9, v2, n10, m10, rfl, -, -⟩ := chg_form hF10.chg
  have hB10 := blk_new w10 (.cells #[.int .i64 cz.doc, .slice v1 n9 m9, .slice v2 n10 m10, .int .i64 cz.tags, .bool cz.gone] 36)
  have hT10 : Same w10 (w10.alloc (.cells #[.int .i64 cz.doc, .slice v1 n9 m9, .slice v2 n10 m10, .int .i64 cz.tags, .bool cz.gone] 36)) := (Only.refl _ w10).alloc _
  obtain ⟨rs, hrs⟩ : ∃ x, x = str (if ok = true then st.getD [] else []) := ⟨_, rfl⟩
  rw [← hrs]
  have HRS := Lib.hid hrs
  clear hrs
  go_upto_region 12 with fail
  generalize w10.alloc (.cells #[.int .i64 cz.doc, .slice v1 n9 m9, .slice v2 n10 m10, .int .i64 cz.tags, .bool cz.gone] 36) = W at *
  have HS10 := Lib.hid ((HS9.out.then hS10).then hT10)
  have HB10 := Lib.hid (And.intro (hT10.heap (hS10.heap HA9.out (fun h => h)) (fun h => h)) (And.intro (hT10.heap (hS10.heap HB9.out (fun h => h)) (fun h => h)) (And.intro (hT10.heap (hS10.heap HC9.out (fun h => h)) (fun h => h)) (And.intro (hT10.heap (hS10.heap HD9.out (fun h => h)) (fun h => h)) hB10))))
  have HX10 := Lib.hid ((HX9.out.same hS10).same hT10); have HY10 := Lib.hid ((HY9.out.same hS10).same hT10); have HZ10 := Lib.hid ((HZ9.out.same hS10).same hT10); have HV10 := Lib.hid (hF10.chg.same hT10); have HR10 := Lib.hid ((HR9.out.same hS10).same hT10)
  clear hS10 hF10 hB10 hT10 HS9 HA9 HB9 HC9 HD9 HX9 HY9 HZ9 HR9 CE HCZ
  have c1 : ∀ w0, Same W w0 → Calls Try.prog 24 #[(.agg #[.int .i64 c.doc, .slice a1 n1 m1, .slice a2 n2 m2, .int .i64 c.tags, .bool c.gone])] w0 fun e w' => e = .returned (.int .i64 r1) ∧ Same w0 w' := fun w0 hS => CR1.out w0 (HS10.out.then hS)
  have c2 : ∀ w0, Same W w0 → Calls Try.prog 25 #[(.agg #[.int .i64 c.doc, .slice a1 n1 m1, .slice a2 n2 m2, .int .i64 c.tags, .bool c.gone])] w0 fun e w' => e = .returned (.int .i64 r1) ∧ Same w0 w' := fun w0 hS => CR2.out w0 (HS10.out.then hS)
  have c3 : ∀ w0, Same W w0 → Calls Try.prog 18 #[(.agg #[.int .i64 c.doc, .slice a1 n1 m1, .slice a2 n2 m2, .int .i64 c.tags, .bool c.gone])] w0 fun e w' => e = .returned (.agg #[.int .i64 c.doc, .slice a1 n1 m1, .slice a2 n2 m2, .int .i64 c.tags, .bool c.gone]) ∧ Same w0 w' := fun w0 hS => CO1.out w0 (HS10.out.then hS)
  have c4 : ∀ w0, Same W w0 → Calls Try.prog 18 #[(.agg #[.int .i64 cx.doc, .slice x1 n3 m3, .slice x2 n4 m4, .int .i64 cx.tags, .bool cx.gone])] w0 fun e w' => e = .returned (.agg #[.int .i64 cx.doc, .slice x1 n3 m3, .slice x2 n4 m4, .int .i64 cx.tags, .bool cx.gone]) ∧ Same w0 w' := fun w0 hS => of_any _ cx w0 (HX10.out.same hS)
  have c5 : ∀ w0, Same W w0 → Calls Try.prog 18 #[(.agg #[.int .i64 cz.doc, .slice z1 n7 m7, .slice z2 n8 m8, .int .i64 cz.tags, .bool cz.gone])] w0 fun e w' => e = .returned (.agg #[.int .i64 cz.doc, .slice z1 n7 m7, .slice z2 n8 m8, .int .i64 cz.tags, .bool cz.gone]) ∧ Same w0 w' := fun w0 hS => of_any _ cz w0 (HZ10.out.same hS)
  have c6 : ∀ w0, Same W w0 → Calls Try.prog 26 #[(.agg #[.int .i64 cx.doc, .slice x1 n3 m3, .slice x2 n4 m4, .int .i64 cx.tags, .bool cx.gone]), (.agg #[.int .i64 cx.doc, .slice y1 n5 m5, .slice y2 n6 m6, .int .i64 cx.tags, .bool cx.gone])] w0 fun e w' => e = .returned (.bool true) ∧ Same w0 w' := fun w0 hS => by have h := rsame10_any _ _ cx cx w0 (HX10.out.same hS) (HY10.out.same hS); rw [sameD_self] at h; exact h
  have c7 : ∀ w0, Same W w0 → Calls Try.prog 26 #[(.agg #[.int .i64 cz.doc, .slice z1 n7 m7, .slice z2 n8 m8, .int .i64 cz.tags, .bool cz.gone]), (.agg #[.int .i64 cz.doc, .slice v1 n9 m9, .slice v2 n10 m10, .int .i64 cz.tags, .bool cz.gone])] w0 fun e w' => e = .returned (.bool true) ∧ Same w0 w' := fun w0 hS => by have h := rsame10_any _ _ cz cz w0 (HZ10.out.same hS) (HV10.out.same hS); rw [sameD_self] at h; exact h
  have C1 := Lib.hid c1; have C2 := Lib.hid c2; have C3 := Lib.hid c3; have C4 := Lib.hid c4; have C5 := Lib.hid c5; have C6 := Lib.hid c6; have C7 := Lib.hid c7
  clear c1 c2 c3 c4 c5 c6 c7 CR1 CR2 CO1 HX10 HY10 HZ10 HV10 H1
  go_cut [102] from 19 (fun t wx => t = .bool false ∧ Same W wx)
  case first =>
    have q0 : Same W W := Only.refl _ _
    have hK : ∀ w', Same W w' → (Same W w' ∧ w'.cell? ⟨w.heap.size, 0, none⟩ = some (.int .i64 c.doc) ∧ w'.cell? ⟨w.heap.size, 1, none⟩ = some (.slice a1 n1 m1) ∧ w'.cell? ⟨w.heap.size, 2, none⟩ = some (.slice a2 n2 m2) ∧ w'.cell? ⟨w.heap.size, 3, none⟩ = some (.int .i64 c.tags) ∧ w'.cell? ⟨w.heap.size, 4, none⟩ = some (.bool c.gone) ∧ w'.cell? ⟨w6.heap.size, 0, none⟩ = some (.int .i64 cx.doc) ∧ w'.cell? ⟨w6.heap.size, 1, none⟩ = some (.slice x1 n3 m3) ∧ w'.cell? ⟨w6.heap.size, 2, none⟩ = some (.slice x2 n4 m4) ∧ w'.cell? ⟨w6.heap.size, 3, none⟩ = some (.int .i64 cx.tags) ∧ w'.cell? ⟨w6.heap.size, 4, none⟩ = some (.bool cx.gone) ∧ w'.cell? ⟨w7.heap.size, 0, none⟩ = some (.int .i64 cx.doc) ∧ w'.cell? ⟨w7.heap.size, 1, none⟩ = some (.slice y1 n5 m5) ∧ w'.cell? ⟨w7.heap.size, 2, none⟩ = some (.slice y2 n6 m6) ∧ w'.cell? ⟨w7.heap.size, 3, none⟩ = some (.int .i64 cx.tags) ∧ w'.cell? ⟨w7.heap.size, 4, none⟩ = some (.bool cx.gone) ∧ w'.cell? ⟨w9.heap.size, 0, none⟩ = some (.int .i64 cz.doc) ∧ w'.cell? ⟨w9.heap.size, 1, none⟩ = some (.slice z1 n7 m7) ∧ w'.cell? ⟨w9.heap.size, 2, none⟩ = some (.slice z2 n8 m8) ∧ w'.cell? ⟨w9.heap.size, 3, none⟩ = some (.int .i64 cz.tags) ∧ w'.cell? ⟨w9.heap.size, 4, none⟩ = some (.bool cz.gone) ∧ w'.cell? ⟨w10.heap.size, 0, none⟩ = some (.int .i64 cz.doc) ∧ w'.cell? ⟨w10.heap.size, 1, none⟩ = some (.slice v1 n9 m9) ∧ w'.cell? ⟨w10.heap.size, 2, none⟩ = some (.slice v2 n10 m10) ∧ w'.cell? ⟨w10.heap.size, 3, none⟩ = some (.int .i64 cz.tags) ∧ w'.cell? ⟨w10.heap.size, 4, none⟩ = some (.bool cz.gone)) := fun w' h => by
      obtain ⟨⟨p00, p01, p02, p03, p04⟩, _⟩ := five_facts (h.heap HB10.out.1 (fun h => h))
      obtain ⟨⟨p10, p11, p12, p13, p14⟩, _⟩ := five_facts (h.heap HB10.out.2.1 (fun h => h))
      obtain ⟨⟨p20, p21, p22, p23, p24⟩, _⟩ := five_facts (h.heap HB10.out.2.2.1 (fun h => h))
      obtain ⟨⟨p30, p31, p32, p33, p34⟩, _⟩ := five_facts (h.heap HB10.out.2.2.2.1 (fun h => h))
      obtain ⟨⟨p40, p41, p42, p43, p44⟩, _⟩ := five_facts (h.heap HB10.out.2.2.2.2 (fun h => h))
      exact ⟨h, p00, p01, p02, p03, p04, p10, p11, p12, p13, p14, p20, p21, p22, p23, p24, p30, p31, p32, p33, p34, p40, p41, p42, p43, p44⟩
    have HK := Lib.hid hK
    clear hK
    go_region_held3 (fun w' => Same W w' ∧ w'.cell? ⟨w.heap.size, 0, none⟩ = some (.int .i64 c.doc) ∧ w'.cell? ⟨w.heap.size, 1, none⟩ = some (.slice a1 n1 m1) ∧ w'.cell? ⟨w.heap.size, 2, none⟩ = some (.slice a2 n2 m2) ∧ w'.cell? ⟨w.heap.size, 3, none⟩ = some (.int .i64 c.tags) ∧ w'.cell? ⟨w.heap.size, 4, none⟩ = some (.bool c.gone) ∧ w'.cell? ⟨w6.heap.size, 0, none⟩ = some (.int .i64 cx.doc) ∧ w'.cell? ⟨w6.heap.size, 1, none⟩ = some (.slice x1 n3 m3) ∧ w'.cell? ⟨w6.heap.size, 2, none⟩ = some (.slice x2 n4 m4) ∧ w'.cell? ⟨w6.heap.size, 3, none⟩ = some (.int .i64 cx.tags) ∧ w'.cell? ⟨w6.heap.size, 4, none⟩ = some (.bool cx.gone) ∧ w'.cell? ⟨w7.heap.size, 0, none⟩ = some (.int .i64 cx.doc) ∧ w'.cell? ⟨w7.heap.size, 1, none⟩ = some (.slice y1 n5 m5) ∧ w'.cell? ⟨w7.heap.size, 2, none⟩ = some (.slice y2 n6 m6) ∧ w'.cell? ⟨w7.heap.size, 3, none⟩ = some (.int .i64 cx.tags) ∧ w'.cell? ⟨w7.heap.size, 4, none⟩ = some (.bool cx.gone) ∧ w'.cell? ⟨w9.heap.size, 0, none⟩ = some (.int .i64 cz.doc) ∧ w'.cell? ⟨w9.heap.size, 1, none⟩ = some (.slice z1 n7 m7) ∧ w'.cell? ⟨w9.heap.size, 2, none⟩ = some (.slice z2 n8 m8) ∧ w'.cell? ⟨w9.heap.size, 3, none⟩ = some (.int .i64 cz.tags) ∧ w'.cell? ⟨w9.heap.size, 4, none⟩ = some (.bool cz.gone) ∧ w'.cell? ⟨w10.heap.size, 0, none⟩ = some (.int .i64 cz.doc) ∧ w'.cell? ⟨w10.heap.size, 1, none⟩ = some (.slice v1 n9 m9) ∧ w'.cell? ⟨w10.heap.size, 2, none⟩ = some (.slice v2 n10 m10) ∧ w'.cell? ⟨w10.heap.size, 3, none⟩ = some (.int .i64 cz.tags) ∧ w'.cell? ⟨w10.heap.size, 4, none⟩ = some (.bool cz.gone))
      (first | exact HK.out _ q0 | exact HK.out _ q0.drew)
      (first
        | (go_at_call 24; (with_reducible refine (C1.out _ (by first | exact q0 | exact q0.drew)).mono ?_); rintro f wn ⟨rfl, hSn⟩; have q0 := Only.then (by first | exact q0 | exact q0.drew) hSn)
        | (go_at_call 25; (with_reducible refine (C2.out _ (by first | exact q0 | exact q0.drew)).mono ?_); rintro f wn ⟨rfl, hSn⟩; have q0 := Only.then (by first | exact q0 | exact q0.drew) hSn)
        | (go_at_call 18; (with_reducible refine (C3.out _ (by first | exact q0 | exact q0.drew)).mono ?_); rintro f wn ⟨rfl, hSn⟩; have q0 := Only.then (by first | exact q0 | exact q0.drew) hSn)
        | (go_at_call 18; (with_reducible refine (C4.out _ (by first | exact q0 | exact q0.drew)).mono ?_); rintro f wn ⟨rfl, hSn⟩; have q0 := Only.then (by first | exact q0 | exact q0.drew) hSn)
        | (go_at_call 18; (with_reducible refine (C5.out _ (by first | exact q0 | exact q0.drew)).mono ?_); rintro f wn ⟨rfl, hSn⟩; have q0 := Only.then (by first | exact q0 | exact q0.drew) hSn)
        | (go_at_call 26; (with_reducible refine (C6.out _ (by first | exact q0 | exact q0.drew)).mono ?_); rintro f wn ⟨rfl, hSn⟩; have q0 := Only.then (by first | exact q0 | exact q0.drew) hSn)
        | (go_at_call 26; (with_reducible refine (C7.out _ (by first | exact q0 | exact q0.drew)).mono ?_); rintro f wn ⟨rfl, hSn⟩; have q0 := Only.then (by first | exact q0 | exact q0.drew) hSn))
    all_goals
      go_wp2_with fail
      go_meet
    all_goals exact ⟨by first | rfl | simp, by first | exact q0 | exact q0.drew⟩
  case rest =>
  obtain ⟨rfl, hSx⟩ := hcut
  have HSF := Lib.hid (HS10.out.then hSx)
  have HRF := Lib.hid (HR10.out.same hSx)
  clear hSx HS10 HR10 HB10
  cases ok with
  | false =>
    go_wp2_with fail
    go_ret
    exact ⟨rfl, HSF.out⟩
  | true =>
    have hrs : rs.size = (st.getD []).length := by rw [HRS.out, if_pos rfl, str_size]
    have cl := fun w0 hS => rleft_any W7.heap.size st w0 (HRF.out.same hS)
    generalize (st.getD []).length = n at *
    have CL := Lib.hid cl
    clear cl
    go_wp2_with fail
    refine (CL.out _ (Only.refl _ _)).mono ?_
    rintro e w11 ⟨rfl, hS11⟩
    go_wp2_with fail
    go_ret
    exact ⟨rfl, HSF.out.then hS11⟩
end Go.Proofs.Ytjegohibpojneaa
