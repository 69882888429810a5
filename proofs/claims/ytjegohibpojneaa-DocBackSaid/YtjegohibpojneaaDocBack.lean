import Derived.Test.YtjegohibpojneaaDocAwake
import Derived.Test.YtjegohibpojneaaDocRow
import Derived.Deep.Cut
set_option linter.unusedVariables false
set_option linter.unusedSimpArgs false
namespace Go.Proofs.Ytjegohibpojneaa
open Go.RowKit

theorem docBytes_len (c : Chg) (h : RightC c) : (docBytes c).length ≤ 1000 := by
  have h1 := vint_le10 c.doc.toNat (by have := h.doc; omega)
  unfold docBytes
  cases hg : c.gone with
  | true => simp; omega
  | false =>
    obtain ⟨hv1, hv2⟩ := h.vec hg
    have hl := h.len
    obtain ⟨u, hu, hul⟩ := risS_some (c.terms.map (·.1)) h.rises (fun x hx => by obtain ⟨y, hy, rfl⟩ := List.mem_map.1 hx; have := h.terms y hy; omega) (by simp; omega)
    rw [hu]
    simp [fixB_len, hv1]
    simp at hul
    omega
theorem rightC_i {c : Chg} (h : RightC c) : ChgI c := by
  refine ⟨by have := h.doc; unfold i64b; omega, by have := h.tags; unfold i64b; omega, fun t ht => by have := h.terms t ht; unfold i64b; omega, fun x hx => ?_, by have := h.len; omega, ?_⟩
  · cases hg : c.gone with
    | true => rw [(h.gone hg).2.1] at hx; cases hx
    | false => have := (h.vec hg).2 x hx; unfold i64b; omega
  · cases hg : c.gone with
    | true => rw [(h.gone hg).2.1]; simp
    | false => rw [(h.vec hg).1]; omega
theorem parseD_ok {l : List UInt8} (h : (parseD l).2 = 0) : RightC (parseD l).1 ∧ docBytes (parseD l).1 = l := by
  unfold parseD at h ⊢
  cases hr : (readD (some l)).1 with
  | none => rw [hr] at h; cases h
  | some c =>
    rw [hr] at h
    simp only at h ⊢
    obtain ⟨t, h2, hc, e⟩ := readD_bwd l c hr
    rw [h2] at h ⊢
    by_cases h0 : (Option.getD (some t) []).length = 0
    · rw [if_pos h0]
      have : t = [] := List.eq_nil_of_length_eq_zero h0
      subst this
      exact ⟨hc, by rw [e, List.append_nil]⟩
    · rw [if_neg h0] at h; cases h
theorem docS_some {c : Chg} (h : rightD c = 0) : docS c = some (docBytes c) := by unfold docS; rw [if_pos h]
theorem docS_none {c : Chg} (h : rightD c ≠ 0) : docS c = none := by unfold docS; rw [if_neg h]

set_option maxHeartbeats 4000000 in
set_option maxRecDepth 100000 in
theorem docBack_walk (v1 : Value) (c1 : Chg) (v2 : Value) (c2 : Chg) (s : ByteArray) (w : World) (hv1 : ChgIn w v1 c1) (hv2 : ChgIn w v2 c2) (hs : s.size ≤ 140737488351232) :
    Calls Try.prog 4 #[v1, v2, .string s] w fun e w' => e = .returned (.bool true) ∧ Same w w' := by
  obtain ⟨sl, rfl⟩ : ∃ sl, s = str sl := ⟨s.data.toList, (str_of s).symm⟩
  have hst := str_size sl
  have H1 := Lib.hid hv1; have H2 := Lib.hid hv2
  obtain ⟨a1, n1, m1, a2, n2, m2, rfl, hn1, hn2⟩ := chg_form hv1.1
  obtain ⟨b1, n3, m3, b2, n4, m4, rfl, hn3, hn4⟩ := chg_form hv2.1
  obtain ⟨hS0, hA0⟩ := chg_box w c1 (.slice a1 n1 m1) (.slice a2 n2 m2) 27 _ rfl
  obtain ⟨hS1, hB1⟩ := chg_box (w.alloc (.cells #[.int .i64 c1.doc, .slice a1 n1 m1, .slice a2 n2 m2, .int .i64 c1.tags, .bool c1.gone] 27)) c2 (.slice b1 n3 m3) (.slice b2 n4 m4) 27 _ rfl
  have hA1 := hS1.heap hA0 (fun h => h)
  have hSw := hS0.then hS1
  rw [World.size_alloc] at hB1
  clear hv1 hv2 hn1 hn2 hn3 hn4 hS0 hS1 hA0
  go_enter Try.func4, Try.ntmps4
  go_upto_region 1 with fail
  generalize (w.alloc (.cells #[.int .i64 c1.doc, .slice a1 n1 m1, .slice a2 n2 m2, .int .i64 c1.tags, .bool c1.gone] 27)).alloc (.cells #[.int .i64 c2.doc, .slice b1 n3 m3, .slice b2 n4 m4, .int .i64 c2.tags, .bool c2.gone] 27) = W0 at *
  have HS0 := Lib.hid hSw; have HA0 := Lib.hid hA1; have HB0 := Lib.hid hB1
  clear hSw hA1 hB1
  go_wp2_with fail
  refine (dawake_any _).mono ?_
  rintro e w1 ⟨rfl, hS1⟩
  have HS1 := Lib.hid (HS0.out.then hS1); have HA1 := Lib.hid (hS1.heap HA0.out (fun h => h)); have HB1 := Lib.hid (hS1.heap HB0.out (fun h => h))
  clear HS0 HA0 HB0 hS1
  have cf1 := fun w0 hS => few_any _ c1 w0 (H1.out.1.same hS)
  have cf2 := fun w0 hS => few_any _ c2 w0 (H2.out.1.same hS)
  obtain ⟨q1, hq1⟩ : ∃ q, q = (decide (c1.terms.length ≤ 100) && decide (c1.v.length ≤ 20)) := ⟨_, rfl⟩
  obtain ⟨q2, hq2⟩ : ∃ q, q = (decide (c2.terms.length ≤ 100) && decide (c2.v.length ≤ 20)) := ⟨_, rfl⟩
  rw [← hq1] at cf1
  rw [← hq2] at cf2
  have HF1 := Lib.hid cf1; have HF2 := Lib.hid cf2; have HQ1 := Lib.hid hq1; have HQ2 := Lib.hid hq2
  clear cf1 cf2 hq1 hq2
  obtain ⟨⟨k0, k1, k2, k3, k4⟩, _⟩ := five_facts HA1.out
  go_wp2_with fail
  refine (HF1.out _ HS1.out).mono ?_
  rintro e w2 ⟨rfl, hS2⟩
  have HS2 := Lib.hid (HS1.out.then hS2); have HA2 := Lib.hid (hS2.heap HA1.out (fun h => h)); have HB2 := Lib.hid (hS2.heap HB1.out (fun h => h))
  clear HS1 HA1 HB1 hS2 HF1 k0 k1 k2 k3 k4
  cases q1 with
  | false =>
    go_wp2_with fail
    go_ret
    exact ⟨rfl, HS2.out⟩
  | true =>
  obtain ⟨⟨k0, k1, k2, k3, k4⟩, _⟩ := five_facts HB2.out
  go_wp2_with fail
  refine (HF2.out _ HS2.out).mono ?_
  rintro e w3 ⟨rfl, hS3⟩
  have HS3 := Lib.hid (HS2.out.then hS3); have HA3 := Lib.hid (hS3.heap HA2.out (fun h => h)); have HB3 := Lib.hid (hS3.heap HB2.out (fun h => h))
  clear HS2 HA2 HB2 hS3 HF2 k0 k1 k2 k3 k4
  cases q2 with
  | false =>
    go_wp2_with fail
    go_ret
    exact ⟨rfl, HS3.out⟩
  | true =>
  by_cases h1000 : 1000 < sl.length
  · go_wp2_with fail
    go_ret
    exact ⟨rfl, HS3.out⟩
  have hi1 : ChgI c1 := H1.out.i (by have := HQ1.out; simp at this; exact this.1) (by have := HQ1.out; simp at this; exact this.2)
  have hi2 : ChgI c2 := H2.out.i (by have := HQ2.out; simp at this; exact this.1) (by have := HQ2.out; simp at this; exact this.2)
  have HI1 := Lib.hid hi1; have HI2 := Lib.hid hi2
  clear hi1 hi2 HQ1 HQ2
  go_wp2_with fail
  refine (parse_any sl _ (by omega)).mono ?_
  rintro e w4 ⟨u, rfl, hS4, hF4⟩
  obtain ⟨x1, n5, m5, x2, n6, m6, rfl, -, -⟩ := chg_form hF4.chg
  have HS4 := Lib.hid (HS3.out.then hS4); have HA4 := Lib.hid (hS4.heap HA3.out (fun h => h)); have HB4 := Lib.hid (hS4.heap HB3.out (fun h => h))
  have hok := fun h => @parseD_ok sl h
  clear HS3 HA3 HB3 hS4
  generalize parseD sl = pd at *
  obtain ⟨cx, ex⟩ := pd
  simp only at hF4 hok ⊢
  have HF4 := Lib.hid hF4; have HOK := Lib.hid hok
  clear hF4 hok
  have hX5 := blk_new w4 (.cells #[.int .i64 cx.doc, .slice x1 n5 m5, .slice x2 n6 m6, .int .i64 cx.tags, .bool cx.gone] 27)
  have hS5 : Same w4 (w4.alloc (.cells #[.int .i64 cx.doc, .slice x1 n5 m5, .slice x2 n6 m6, .int .i64 cx.tags, .bool cx.gone] 27)) := (Only.refl _ w4).alloc _
  go_upto_region 6 with fail
  generalize w4.alloc (.cells #[.int .i64 cx.doc, .slice x1 n5 m5, .slice x2 n6 m6, .int .i64 cx.tags, .bool cx.gone] 27) = W5 at *
  have HS5 := Lib.hid (HS4.out.then hS5); have HA5 := Lib.hid (hS5.heap HA4.out (fun h => h)); have HB5 := Lib.hid (hS5.heap HB4.out (fun h => h)); have HX5 := Lib.hid hX5; have HF5 := Lib.hid (HF4.out.same hS5)
  clear HS4 HA4 HB4 hS5 HF4 hX5
  go_upto_if 39 with fail
  go_cut [] from 7 (fun wx => Same W5 wx)
  case first =>
    by_cases h0 : ex = 0
    · subst h0
      obtain ⟨hr, hb⟩ := HOK.out rfl
      have hri : rightD cx = 0 := (right0_iff cx).2 hr
      have cp := fun w0 hS => print_any _ cx w0 (HF5.out.chg.same hS) (rightC_i hr)
      rw [docS_some hri, Option.getD_some, hri, hb] at cp
      have CP := Lib.hid cp
      obtain ⟨⟨k0, k1, k2, k3, k4⟩, _⟩ := five_facts HX5.out
      clear hr hb hri cp HOK
      go_wp2_with fail
      refine (CP.out _ (Only.refl _ _)).mono ?_
      rintro e w6 ⟨rfl, hS6⟩
      go_wp2_with fail
      go_meet
      case rel => exact hS6
    · have he : (ex == 0) = false := by simpa using h0
      clear h0
      go_wp2_with fail
      go_meet
      case rel => exact Only.refl _ _
  case rest =>
  have HA6 := Lib.hid (hcut.heap HA5.out (fun h => h)); have HB6 := Lib.hid (hcut.heap HB5.out (fun h => h)); have HS6 := Lib.hid (HS5.out.then hcut)
  clear HA5 HB5 HS5 hcut HX5 HF5 HOK
  obtain ⟨W6, hw6⟩ : ∃ x, x = wc := ⟨_, rfl⟩
  subst hw6
  have cp1 := fun w0 hS => print_any _ c1 w0 (H1.out.1.same hS) HI1.out
  have cp2 := fun w0 hS => print_any _ c2 w0 (H2.out.1.same hS) HI2.out
  have cr1 := fun w0 hS => right_any _ c1 w0 (H1.out.1.same hS) HI1.out
  have CP1 := Lib.hid cp1; have CP2 := Lib.hid cp2; have CR1 := Lib.hid cr1
  clear cp1 cp2 cr1
  obtain ⟨r1, hr1⟩ : ∃ r, r = rightD c1 := ⟨_, rfl⟩
  obtain ⟨r2, hr2⟩ : ∃ r, r = rightD c2 := ⟨_, rfl⟩
  rw [← hr1] at CP1 CR1
  rw [← hr2] at CP2
  obtain ⟨t1, ht1⟩ : ∃ r, r = str ((docS c1).getD []) := ⟨_, rfl⟩
  obtain ⟨t2, ht2⟩ : ∃ r, r = str ((docS c2).getD []) := ⟨_, rfl⟩
  rw [← ht1] at CP1
  rw [← ht2] at CP2
  have HR1 := Lib.hid hr1; have HR2 := Lib.hid hr2; have HT1 := Lib.hid ht1; have HT2 := Lib.hid ht2
  clear hr1 hr2 ht1 ht2
  obtain ⟨⟨k0, k1, k2, k3, k4⟩, _⟩ := five_facts HA6.out
  go_wp2_with fail
  refine (CP1.out _ HS6.out).mono ?_
  rintro e w7 ⟨rfl, hS7⟩
  have HS7 := Lib.hid (HS6.out.then hS7); have HA7 := Lib.hid (hS7.heap HA6.out (fun h => h)); have HB7 := Lib.hid (hS7.heap HB6.out (fun h => h))
  clear hS7 HS6 HA6 HB6 CP1 k0 k1 k2 k3 k4
  obtain ⟨⟨k0, k1, k2, k3, k4⟩, _⟩ := five_facts HB7.out
  go_wp2_with fail
  refine (CP2.out _ HS7.out).mono ?_
  rintro e w8 ⟨rfl, hS8⟩
  have HS8 := Lib.hid (HS7.out.then hS8); have HA8 := Lib.hid (hS8.heap HA7.out (fun h => h)); have HB8 := Lib.hid (hS8.heap HB7.out (fun h => h))
  clear hS8 HS7 HA7 HB7 CP2 k0 k1 k2 k3 k4
  obtain ⟨⟨k0, k1, k2, k3, k4⟩, _⟩ := five_facts HA8.out
  by_cases h0 : r1 = 0
  rotate_left
  · have hn := neq0 h0
    have ht : t1 = ⟨#[]⟩ := by rw [HT1.out, docS_none (by rw [← HR1.out]; exact h0)]; rfl
    subst ht
    clear h0
    go_wp2_with fail
    refine (CR1.out _ HS8.out).mono ?_
    rintro e w9 ⟨rfl, hS9⟩
    go_wp2_with fail
    go_ret
    exact ⟨rfl, HS8.out.then hS9⟩
  subst h0
  have hrc := (right0_iff c1).1 HR1.out.symm
  have hbl := docBytes_len c1 hrc
  have ht : t1 = str (docBytes c1) := by rw [HT1.out, docS_some HR1.out.symm]; rfl
  have hrd := readD_fwd c1 sl hrc
  have hpl : c1.doc ≤ 2147483647 := hrc.doc.2
  obtain ⟨L1, hL1⟩ : ∃ l, l = docBytes c1 := ⟨_, rfl⟩
  rw [← hL1] at hbl ht hrd
  have hap := str_append L1 sl
  have hsz := str_size L1
  subst ht
  have cn := fun w0 => rnew_any (L1 ++ sl) w0
  have cd := fun b w0 (hR : Rd w0 b (some (L1 ++ sl))) => read_any b _ w0 hR (by simp; omega)
  rw [hrd] at cd
  have CN := Lib.hid cn; have CD := Lib.hid cd; have HL1 := Lib.hid hL1
  clear hrc hrd cn cd hL1 CR1
  go_wp2_with fail
  refine (CN.out _).mono ?_
  rintro e w9 ⟨rfl, hS9, hR9⟩
  have HS9 := Lib.hid (HS8.out.then hS9); have HA9 := Lib.hid (hS9.heap HA8.out (fun h => h)); have HB9 := Lib.hid (hS9.heap HB8.out (fun h => h))
  have HR9 := Lib.hid hR9
  have hz9 := heap_lt HB8.out
  clear hS9 HS8 HA8 HB8 hR9 k0 k1 k2 k3 k4
  go_wp2_with fail
  refine (CD.out _ _ HR9.out).mono ?_
  rintro e w10 ⟨v, rfl, hO10, hR10, u, rfl, hF10⟩
  simp only [Option.getD_some, Option.isSome_some] at hF10 hR10 ⊢
  obtain ⟨y1, n7, m7, y2, n8, m8, rfl, -, -⟩ := chg_form hF10.chg
  have hzw := HS9.out.size
  have hS10 : Same w w10 := HS9.out.trans hO10 (S := fun _ => False) (fun k h1 h => by have h2 : k = w8.heap.size := h; omega)
  have hA10 := hO10.heap HA9.out (by omega)
  have hB10 := hO10.heap HB9.out (by omega)
  have hS11 : Same w10 (w10.alloc (.cells #[.int .i64 c1.doc, .slice y1 n7 m7, .slice y2 n8 m8, .int .i64 c1.tags, .bool c1.gone] 27)) := (Only.refl _ w10).alloc _
  have hX11 := blk_new w10 (.cells #[.int .i64 c1.doc, .slice y1 n7 m7, .slice y2 n8 m8, .int .i64 c1.tags, .bool c1.gone] 27)
  go_upto_region 16 with fail
  generalize w10.alloc (.cells #[.int .i64 c1.doc, .slice y1 n7 m7, .slice y2 n8 m8, .int .i64 c1.tags, .bool c1.gone] 27) = W11 at *
  have HS11 := Lib.hid (hS10.then hS11); have HA11 := Lib.hid (hS11.heap hA10 (fun h => h)); have HB11 := Lib.hid (hS11.heap hB10 (fun h => h)); have HX11 := Lib.hid hX11; have HF11 := Lib.hid (hF10.same hS11); have HR11 := Lib.hid (hR10.same hS11)
  clear hS10 hS11 hA10 hB10 hX11 hF10 hR10 hO10 HS9 HA9 HB9 HR9 CN CD hap hsz
  have c1s := fun w0 hS => dsame_any _ _ c1 c1 w0 (HF11.out.chg.same hS) (H1.out.1.same (HS11.out.then hS))
  rw [sameD_self] at c1s
  have c2s := fun w0 hS => dsame_any _ _ c1 c2 w0 (H1.out.1.same (HS11.out.then hS)) (H2.out.1.same (HS11.out.then hS))
  have C1S := Lib.hid c1s; have C2S := Lib.hid c2s
  clear c1s c2s
  obtain ⟨⟨k0, k1, k2, k3, k4⟩, _⟩ := five_facts HA11.out
  obtain ⟨⟨l0, l1, l2, l3, l4⟩, _⟩ := five_facts HB11.out
  obtain ⟨⟨i0, i1, i2, i3, i4⟩, _⟩ := five_facts HX11.out
  go_wp2_with fail
  refine (C1S.out _ (Only.refl _ _)).mono ?_
  rintro e w12 ⟨rfl, hS12⟩
  go_wp2_with fail
  refine (rleft_any _ _ _ (HR11.out.same hS12)).mono ?_
  rintro e w13 ⟨rfl, hS13⟩
  rw [Option.getD_some]
  have hS13 := hS12.then hS13
  have j0 := hS13.cell_eq k0 (fun h => h); have j1 := hS13.cell_eq k1 (fun h => h); have j2 := hS13.cell_eq k2 (fun h => h); have j3 := hS13.cell_eq k3 (fun h => h); have j4 := hS13.cell_eq k4 (fun h => h)
  have p0 := hS13.cell_eq l0 (fun h => h); have p1 := hS13.cell_eq l1 (fun h => h); have p2 := hS13.cell_eq l2 (fun h => h); have p3 := hS13.cell_eq l3 (fun h => h); have p4 := hS13.cell_eq l4 (fun h => h)
  have HS13 := Lib.hid hS13
  clear hS13 hS12 k0 k1 k2 k3 k4 l0 l1 l2 l3 l4 i0 i1 i2 i3 i4 HA11 HB11 HX11 HR11 HF11
  by_cases h0 : r2 = 0
  rotate_left
  · have hn := neq0 h0
    clear h0
    go_wp2_with fail
    go_ret
    exact ⟨rfl, HS11.out.then HS13.out⟩
  subst h0
  have hrc2 := (right0_iff c2).1 HR2.out.symm
  have hrc1 := (right0_iff c1).1 HR1.out.symm
  have ht : t2 = str (docBytes c2) := by rw [HT2.out, docS_some HR2.out.symm]; rfl
  by_cases hcc : c1 = c2
  · have he : t2 = str L1 := by rw [ht, HL1.out, hcc]
    subst he
    rw [(sameD_iff c1 c2).2 hcc] at C2S
    clear hcc ht hrc1 hrc2
    go_wp2_with fail
    refine (C2S.out _ HS13.out).mono ?_
    rintro e w14 ⟨rfl, hS14⟩
    go_wp2_with fail
    go_ret
    exact ⟨rfl, (HS11.out.then HS13.out).then hS14⟩
  · have hd : sameD c1 c2 = false := by
      cases h : sameD c1 c2 with
      | false => rfl
      | true => exact absurd ((sameD_iff c1 c2).1 h) hcc
    have hne : ((str L1).toList == t2.toList) = false := by
      rw [ht, HL1.out, str_toList, str_toList]
      have : ¬ docBytes c1 = docBytes c2 := fun h => hcc (docBytes_inj c1 c2 hrc1 hrc2 h)
      simpa using this
    rw [hd] at C2S
    clear hcc ht hrc1 hrc2 hd
    go_wp2_with fail
    refine (C2S.out _ HS13.out).mono ?_
    rintro e w14 ⟨rfl, hS14⟩
    go_wp2_with fail
    go_ret
    exact ⟨rfl, (HS11.out.then HS13.out).then hS14⟩
end Go.Proofs.Ytjegohibpojneaa
