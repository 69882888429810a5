import Derived.Test.YtjegohibpojneaaVdSync
set_option linter.unusedVariables false
set_option linter.unusedSimpArgs false
namespace Go.Proofs.Ytjegohibpojneaa
open Go.RowKit
attribute [local go_sem ↓] Go.wp_at_zero Go.wp_at_succ

set_option maxRecDepth 100000 in
set_option maxHeartbeats 1000000 in
theorem rem1_any (bd bn b mb : Nat) (d : Dk) (s : ByteArray) (w : World) (h : DkW w b mb d) (hs : s.size ≤ maxLen)
    (c2 : w.cell? ⟨bd, 0, none⟩ = some (.pointer (some ⟨b, 0, none⟩))) (c3 : w.cell? ⟨bn, 0, none⟩ = some (.string s)) :
    Calls Try.prog 153 #[.pointer (some ⟨bd, 0, none⟩), .pointer (some ⟨bn, 0, none⟩)] w fun e w' => e = .returned (.tuple #[]) ∧ MpS fileV Try.prog 9 w' mb (delS d.F s.data.toList) ∧ Only (· = mb) w w' := by
  have p1 : w.cell? ⟨b, 1, none⟩ = some (.map (some mb)) := blk_cells h.1 1
  have HM := Lib.hid h.2; have HS := Lib.hid hs
  clear h hs
  go_enter Try.func153, Try.ntmps153
  go_upto_region 0 with fail
  go_still_tail 5, (by kernel_rfl)
  change wpList _ _ _ _ _ w.drew
  have HM2 : Hid (MpS fileV Try.prog 9 w.drew mb d.F) := Lib.hid (HM.out.same (Only.refl _ w).drew)
  have hO : Only (fun i => i = mb) w w.drew := (Only.refl _ w).drew
  have HO := Lib.hid hO
  clear HM hO
  generalize w.drew = w1 at *
  go_wp2_with (at_delete; refine mps_del fileV _ rfl (.tmp 5) (.tmp 6) 186 9 rfl 190 Try.underlying9 Try.underlying186 mb d.F rfl HM2.out s rfl HS.out ?_; intro w2 hm2 hO2)
  go_end0
  exact ⟨rfl, hm2, HO.out.same hO2⟩
set_option maxRecDepth 100000 in
set_option maxHeartbeats 1000000 in
theorem ren1_any (bd bn g bt b mb : Nat) (d : Dk) (s t : ByteArray) (f : FileP) (w : World) (h : DkW w b mb d) (hs : s.size ≤ maxLen) (ht : t.size ≤ maxLen) (hn : d.F.length < maxLen)
    (c0 : w.cell? ⟨g, 0, none⟩ = some (.string f.1)) (c1 : w.cell? ⟨g, 1, none⟩ = some (.int .i64 f.2)) (c2 : w.cell? ⟨bd, 0, none⟩ = some (.pointer (some ⟨b, 0, none⟩))) (c3 : w.cell? ⟨bn, 0, none⟩ = some (.string s)) (c4 : w.cell? ⟨bt, 0, none⟩ = some (.string t))
    (hne : g ≠ mb ∧ bd ≠ mb ∧ bn ≠ mb ∧ bt ≠ mb) :
    Calls Try.prog 152 #[.pointer (some ⟨bd, 0, none⟩), .pointer (some ⟨bn, 0, none⟩), .pointer (some ⟨g, 0, none⟩), .pointer (some ⟨bt, 0, none⟩)] w fun e w' => e = .returned (.tuple #[]) ∧ MpS fileV Try.prog 9 w' mb (putS (delS d.F s.data.toList) t.data.toList f) ∧ Only (· = mb) w w' := by
  have p1 : w.cell? ⟨b, 1, none⟩ = some (.map (some mb)) := blk_cells h.1 1
  have HM := Lib.hid h.2; have HS := Lib.hid hs; have HT := Lib.hid ht; have HNE := Lib.hid hne; have HB := Lib.hid h.ne
  have HN : Hid ((delS d.F s.data.toList).length < maxLen) := Lib.hid (Nat.lt_of_le_of_lt (by unfold delS; exact List.length_filter_le _ _) hn)
  obtain ⟨fs, fn⟩ := f
  simp only at c0 c1
  have C0 := Lib.hid c0; have C1 := Lib.hid c1; have C2 := Lib.hid c2; have C4 := Lib.hid c4; have P1 := Lib.hid p1
  clear h hs ht hn hne c0 c1 c4
  go_enter Try.func152, Try.ntmps152
  go_upto_region 0 with fail
  go_still_tail 5, (by kernel_rfl)
  change wpList _ _ _ _ _ w.drew
  have HM2 : Hid (MpS fileV Try.prog 9 w.drew mb d.F) := Lib.hid (HM.out.same (Only.refl _ w).drew)
  have hO : Only (fun i => i = mb) w w.drew := (Only.refl _ w).drew
  have HO := Lib.hid hO
  clear HM hO p1 c2 c3
  generalize w.drew = w1 at *
  go_upto_region 1 with (at_delete; refine mps_del fileV _ rfl (.tmp 7) (.tmp 8) 186 9 rfl 190 Try.underlying9 Try.underlying186 mb d.F rfl HM2.out s rfl HS.out ?_; intro w2 hm2 hO2)
  have hO3 := HO.out.same hO2
  have c0 := hO3.cell_eq C0.out HNE.out.1
  have c1 := hO3.cell_eq C1.out HNE.out.1
  have c2 := hO3.cell_eq C2.out HNE.out.2.1
  have c4 := hO3.cell_eq C4.out HNE.out.2.2.2
  have p1 := hO3.cell_eq P1.out (fun h => HB.out h.symm)
  go_still_tail 6, (by kernel_rfl)
  change wpList _ _ _ _ _ w2.drew
  have HM3 : Hid (MpS fileV Try.prog 9 w2.drew mb (delS d.F s.data.toList)) := Lib.hid (hm2.same (Only.refl _ w2).drew)
  have HO4 := Lib.hid hO3.drew
  clear hm2 hO2 hO3 HM2 HO
  generalize w2.drew = w3 at *
  go_wp2_with (at_mapUpdate; refine mps_put fileV _ rfl (.tmp 12) (.tmp 13) (.tmp 14) 186 rfl 9 190 Try.underlying9 Try.underlying186 mb (delS d.F s.data.toList) rfl HM3.out HN.out t (fs, fn) rfl rfl HT.out ?_; intro w4 hm4 hO5)
  go_end0
  exact ⟨rfl, hm4, HO4.out.same hO5⟩
def removeD (d : Dk) (k : List UInt8) : Dk × Int := if (thereD d k).2 ≠ 0 then (d, (thereD d k).2) else effR d (delS d.F k)
def renameD (d : Dk) (k : List UInt8) (t : ByteArray) : Dk × Int := if (thereD d k).2 ≠ 0 then (d, (thereD d k).2) else if rightN t = false then (d, 2) else effR d (putS (delS d.F k) t.data.toList (thereD d k).1)
theorem enters_rem1 (args : Array Value) (w : World) : (callFunc 153 args).run Try.prog w = .ok (.enter 153 args) w := by kernel_rfl
theorem enters_ren1 (args : Array Value) (w : World) : (callFunc 152 args).run Try.prog w = .ok (.enter 152 args) w := by kernel_rfl
set_option maxRecDepth 100000 in
set_option maxHeartbeats 2000000 in
theorem vremove_any (b mb : Nat) (d : Dk) (s : ByteArray) (w : World) (h : DkW w b mb d) (hs : s.size ≤ maxLen) (hd : DOK d) :
    Calls Try.prog 113 #[.pointer (some ⟨b, 0, none⟩), .string s] w fun e w' => e = .returned (.int .i64 (removeD d s.data.toList).2) ∧ DkW w' b mb (removeD d s.data.toList).1 ∧ Only (fun i => i = b ∨ i = mb) w w' := by
  have hS0 : Same w ((w.alloc (.cells #[.pointer (some ⟨b, 0, none⟩)] 101)).alloc (.cells #[.string s] 9)) := ((Only.refl _ w).alloc _).alloc _
  have hA := blk_old (.cells #[.string s] 9) (blk_new w (.cells #[.pointer (some ⟨b, 0, none⟩)] 101))
  have hB := blk_new1 w (.cells #[.pointer (some ⟨b, 0, none⟩)] 101) (.cells #[.string s] 9)
  have hbw := heap_lt h.1
  have hmw := h.2.lt
  have HZ := Lib.hid (And.intro hbw hmw); have HS := Lib.hid hs; have HD := Lib.hid hd
  obtain ⟨⟨fs, fn⟩, c, ht⟩ : ∃ f c, thereD d s.data.toList = (f, c) := ⟨_, _, rfl⟩
  have HE : Hid (removeD d s.data.toList = if c ≠ 0 then (d, c) else effR d (delS d.F s.data.toList)) := Lib.hid (by unfold removeD; rw [ht])
  have HT := Lib.hid ht; have H := Lib.hid h
  clear h hs hd ht hbw hmw
  go_enter Try.func113, Try.ntmps113
  go_upto_region 1 with fail
  generalize (w.alloc (.cells #[.pointer (some ⟨b, 0, none⟩)] 101)).alloc (.cells #[.string s] 9) = W at *
  have a0 := blk_cells hA 0
  have b0 := blk_cells hB 0
  simp only [List.getElem?_toArray, List.getElem?_cons_zero] at a0 b0
  have HS0 := Lib.hid hS0; have HA := Lib.hid hA; have HB := Lib.hid hB
  have ct := there_any b mb d s W (H.out.same hS0) HS.out
  rw [HT.out] at ct
  simp only [fileV] at ct
  have CT := Lib.hid ct
  clear ct hS0 hA hB
  go_wp2_with fail
  refine CT.out.mono ?_
  rintro e w1 ⟨rfl, hS1⟩
  have hSa : Same w1 (w1.alloc (.cells #[.string fs, .int .i64 fn] 190)) := (Only.refl _ w1).alloc _
  have hS2 := hS1.then hSa
  have HA2 := Lib.hid (hS2.heap HA.out (fun h => h)); have HB2 := Lib.hid (hS2.heap HB.out (fun h => h))
  have HS2 := Lib.hid (HS0.out.then hS2)
  clear a0 b0 hS1 hSa hS2 CT HA HB HS0
  go_upto_region 2 with fail
  generalize w1.alloc (.cells #[.string fs, .int .i64 fn] 190) = w2 at *
  by_cases hc : c = 0
  · subst hc
    have HE2 : Hid (removeD d s.data.toList = effR d (delS d.F s.data.toList)) := Lib.hid (by rw [HE.out]; simp)
    have a0 := blk_cells HA2.out 0
    have b0 := blk_cells HB2.out 0
    simp only [List.getElem?_toArray, List.getElem?_cons_zero] at a0 b0
    have A0 := Lib.hid a0; have B0 := Lib.hid b0
    have hne : ∀ i, w.heap.size ≤ i → ¬ (i = b ∨ i = mb) := fun i hi h => by have := HZ.out; omega
    have ce := effect_any b mb d (delS d.F s.data.toList) 153 #[.pointer (some ⟨w.heap.size, 0, none⟩), .pointer (some ⟨w.heap.size + 1, 0, none⟩)] w2 (H.out.same HS2.out) enters_rem1
      (fun w4 hO4 hd4 => rem1_any w.heap.size (w.heap.size + 1) b mb { d with count := d.count + 1 } s w4 hd4 HS.out
        (hO4.cell_eq A0.out (hne _ (Nat.le_refl _))) (hO4.cell_eq B0.out (hne _ (by omega))))
      HD.out.1 HD.out.2.1 HD.out.2.2.1 HD.out.2.2.2.1 HD.out.2.2.2.2
    have CE := Lib.hid ce
    clear b0 hne ce HE
    go_wp2_with fail
    refine CE.out.mono ?_
    rintro e w4 ⟨rfl, hd4, hO4⟩
    have HD4 := Lib.hid hd4; have HO4 := Lib.hid ((HS2.out.mono (S' := fun i => i = b ∨ i = mb) (fun _ _ h => h.elim)).same hO4)
    clear hd4 hO4
    go_wp2_with fail
    go_ret
    rw [HE2.out]
    exact ⟨rfl, HD4.out, HO4.out⟩
  · have hb : (c != 0) = true := by simpa using hc
    have HE2 : Hid (removeD d s.data.toList = (d, c)) := Lib.hid (by rw [HE.out, if_pos hc])
    clear hc HE
    go_wp2_with fail
    go_ret
    rw [HE2.out]
    exact ⟨rfl, H.out.same HS2.out, HS2.out.mono (fun _ _ h => h.elim)⟩
end Go.Proofs.Ytjegohibpojneaa
