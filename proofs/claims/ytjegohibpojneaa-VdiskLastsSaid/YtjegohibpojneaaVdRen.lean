import Derived.Test.YtjegohibpojneaaVdRem
set_option linter.unusedVariables false
set_option linter.unusedSimpArgs false
namespace Go.Proofs.Ytjegohibpojneaa
open Go.RowKit
attribute [local go_sem ↓] Go.wp_at_zero Go.wp_at_succ

set_option maxRecDepth 100000 in
set_option maxHeartbeats 2000000 in
theorem vrename_any (b mb : Nat) (d : Dk) (s t : ByteArray) (w : World) (h : DkW w b mb d) (hs : s.size ≤ maxLen) (hts : t.size ≤ maxLen) (hd : DOK d) :
    Calls Try.prog 112 #[.pointer (some ⟨b, 0, none⟩), .string s, .string t] w fun e w' => e = .returned (.int .i64 (renameD d s.data.toList t).2) ∧ DkW w' b mb (renameD d s.data.toList t).1 ∧ Only (fun i => i = b ∨ i = mb) w w' := by
  have hS0 : Same w (((w.alloc (.cells #[.pointer (some ⟨b, 0, none⟩)] 101)).alloc (.cells #[.string s] 9)).alloc (.cells #[.string t] 9)) := (((Only.refl _ w).alloc _).alloc _).alloc _
  have hA := blk_old (.cells #[.string t] 9) (blk_old (.cells #[.string s] 9) (blk_new w (.cells #[.pointer (some ⟨b, 0, none⟩)] 101)))
  have hB := blk_old (.cells #[.string t] 9) (blk_new1 w (.cells #[.pointer (some ⟨b, 0, none⟩)] 101) (.cells #[.string s] 9))
  have hC := blk_new1 (w.alloc (.cells #[.pointer (some ⟨b, 0, none⟩)] 101)) (.cells #[.string s] 9) (.cells #[.string t] 9)
  rw [World.size_alloc] at hC
  have hsz : (((w.alloc (.cells #[.pointer (some ⟨b, 0, none⟩)] 101)).alloc (.cells #[.string s] 9)).alloc (.cells #[.string t] 9)).heap.size = w.heap.size + 3 := by simp
  have hbw := heap_lt h.1
  have hmw := h.2.lt
  have HZ := Lib.hid (And.intro hbw hmw); have HS := Lib.hid hs; have HTS := Lib.hid hts; have HD := Lib.hid hd
  obtain ⟨⟨fs, fn⟩, c, ht⟩ : ∃ f c, thereD d s.data.toList = (f, c) := ⟨_, _, rfl⟩
  have HE : Hid (renameD d s.data.toList t = if c ≠ 0 then (d, c) else if rightN t = false then (d, 2) else effR d (putS (delS d.F s.data.toList) t.data.toList (fs, fn))) := Lib.hid (by unfold renameD; rw [ht])
  have HT := Lib.hid ht; have H := Lib.hid h
  clear h hs hd ht hbw hmw hts
  go_enter Try.func112, Try.ntmps112
  go_upto_region 1 with fail
  generalize ((w.alloc (.cells #[.pointer (some ⟨b, 0, none⟩)] 101)).alloc (.cells #[.string s] 9)).alloc (.cells #[.string t] 9) = W at *
  have a0 := blk_cells hA 0
  have b0 := blk_cells hB 0
  simp only [List.getElem?_toArray, List.getElem?_cons_zero] at a0 b0
  have HS0 := Lib.hid hS0; have HA := Lib.hid hA; have HB := Lib.hid hB; have HC := Lib.hid hC; have HSZ := Lib.hid hsz
  have ct := there_any b mb d s W (H.out.same hS0) HS.out
  rw [HT.out] at ct
  simp only [fileV] at ct
  have CT := Lib.hid ct
  clear ct hS0 hA hB hC hsz
  go_wp2_with fail
  refine CT.out.mono ?_
  rintro e w1 ⟨rfl, hS1⟩
  have hSa : Same w1 (w1.alloc (.cells #[.string fs, .int .i64 fn] 190)) := (Only.refl _ w1).alloc _
  have hV := blk_new w1 (.cells #[.string fs, .int .i64 fn] 190)
  have hS2 := hS1.then hSa
  have HV := Lib.hid hV
  have HA2 := Lib.hid (hS2.heap HA.out (fun h => h)); have HB2 := Lib.hid (hS2.heap HB.out (fun h => h)); have HC2 := Lib.hid (hS2.heap HC.out (fun h => h))
  have HS2 := Lib.hid (HS0.out.then hS2)
  have HLT : Hid (w.heap.size + 3 ≤ w1.heap.size) := Lib.hid (by have := hS1.size; have := HSZ.out; omega)
  clear a0 b0 hS1 hSa hV hS2 CT HA HB HC HS0 HSZ
  go_upto_region 2 with fail
  generalize w1.alloc (.cells #[.string fs, .int .i64 fn] 190) = w2 at *
  have a0 := blk_cells HA2.out 0
  have b0 := blk_cells HB2.out 0
  have d0 := blk_cells HC2.out 0
  simp only [List.getElem?_toArray, List.getElem?_cons_zero] at a0 b0 d0
  have A0 := Lib.hid a0; have B0 := Lib.hid b0; have D0 := Lib.hid d0
  clear b0
  by_cases hc : c = 0
  · subst hc
    have cr := vright_name t w2 HTS.out
    cases hrn : rightN t with
    | false =>
      rw [hrn] at cr
      have CR := Lib.hid cr
      have HE2 : Hid (renameD d s.data.toList t = (d, 2)) := Lib.hid (by rw [HE.out, hrn]; simp)
      clear HE hrn cr
      go_wp2_with fail
      refine CR.out.mono ?_
      rintro e w3 ⟨rfl, hS3⟩
      have HS3 := Lib.hid (HS2.out.then hS3)
      clear hS3
      go_wp2_with fail
      go_ret
      rw [HE2.out]
      exact ⟨rfl, H.out.same HS3.out, HS3.out.mono (fun _ _ h => h.elim)⟩
    | true =>
      rw [hrn] at cr
      have CR := Lib.hid cr
      have HE2 : Hid (renameD d s.data.toList t = effR d (putS (delS d.F s.data.toList) t.data.toList (fs, fn))) := Lib.hid (by rw [HE.out, hrn]; simp)
      clear HE hrn cr
      go_wp2_with fail
      refine CR.out.mono ?_
      rintro e w3 ⟨rfl, hS3⟩
      obtain ⟨v0, v1, _, _⟩ := two_facts HV.out
      have V0 := Lib.hid (hS3.cell_eq v0 (fun h => h)); have V1 := Lib.hid (hS3.cell_eq v1 (fun h => h)); have A3 := Lib.hid (hS3.cell_eq A0.out (fun h => h)); have B3 := Lib.hid (hS3.cell_eq B0.out (fun h => h)); have D3 := Lib.hid (hS3.cell_eq D0.out (fun h => h))
      have HS3 := Lib.hid (HS2.out.then hS3)
      have a0 := hS3.cell_eq a0 (fun h => h)
      have hne : ∀ i, w.heap.size ≤ i → ¬ (i = b ∨ i = mb) := fun i hi h => by have := HZ.out; omega
      have hne2 : ∀ i, w.heap.size ≤ i → i ≠ mb := fun i hi h => by have := HZ.out; omega
      have ce := effect_any b mb d (putS (delS d.F s.data.toList) t.data.toList (fs, fn)) 152 #[.pointer (some ⟨w.heap.size, 0, none⟩), .pointer (some ⟨w.heap.size + 1, 0, none⟩), .pointer (some ⟨w1.heap.size, 0, none⟩), .pointer (some ⟨w.heap.size + 1 + 1, 0, none⟩)] w3 (H.out.same HS3.out) enters_ren1
        (fun w4 hO4 hd4 => ren1_any w.heap.size (w.heap.size + 1) w1.heap.size (w.heap.size + 1 + 1) b mb { d with count := d.count + 1 } s t (fs, fn) w4 hd4 HS.out HTS.out (by have := HD.out.2.1; unfold maxLen; show d.F.length < _; omega)
          (hO4.cell_eq V0.out (hne _ (by have := HLT.out; omega))) (hO4.cell_eq V1.out (hne _ (by have := HLT.out; omega))) (hO4.cell_eq A3.out (hne _ (Nat.le_refl _))) (hO4.cell_eq B3.out (hne _ (by omega))) (hO4.cell_eq D3.out (hne _ (by omega)))
          ⟨hne2 _ (by have := HLT.out; omega), hne2 _ (Nat.le_refl _), hne2 _ (by omega), hne2 _ (by omega)⟩)
        HD.out.1 HD.out.2.1 HD.out.2.2.1 HD.out.2.2.2.1 HD.out.2.2.2.2
      have CE := Lib.hid ce
      clear v0 v1 hne hne2 ce hS3 d0
      go_wp2_with fail
      refine CE.out.mono ?_
      rintro e w4 ⟨rfl, hd4, hO4⟩
      have HD4 := Lib.hid hd4; have HO4 := Lib.hid ((HS3.out.mono (S' := fun i => i = b ∨ i = mb) (fun _ _ h => h.elim)).same hO4)
      clear hd4 hO4
      go_wp2_with fail
      go_ret
      rw [HE2.out]
      exact ⟨rfl, HD4.out, HO4.out⟩
  · have hb : (c != 0) = true := by simpa using hc
    have HE2 : Hid (renameD d s.data.toList t = (d, c)) := Lib.hid (by rw [HE.out, if_pos hc])
    clear hc HE
    go_wp2_with fail
    go_ret
    rw [HE2.out]
    exact ⟨rfl, H.out.same HS2.out, HS2.out.mono (fun _ _ h => h.elim)⟩
end Go.Proofs.Ytjegohibpojneaa
