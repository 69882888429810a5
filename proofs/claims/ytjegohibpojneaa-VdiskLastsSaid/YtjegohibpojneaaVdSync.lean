import Derived.Test.YtjegohibpojneaaVdThere
set_option linter.unusedVariables false
set_option linter.unusedSimpArgs false
namespace Go.Proofs.Ytjegohibpojneaa
open Go.RowKit
attribute [local go_sem ↓] Go.wp_at_zero Go.wp_at_succ

def readD (d : Dk) (k : List UInt8) : ByteArray × Int := ((thereD d k).1.1, (thereD d k).2)
set_option maxRecDepth 100000 in
set_option maxHeartbeats 1000000 in
theorem vread_any (b mb : Nat) (d : Dk) (s : ByteArray) (w : World) (h : DkW w b mb d) (hs : s.size ≤ maxLen) :
    Calls Try.prog 66 #[.pointer (some ⟨b, 0, none⟩), .string s] w fun e w' => e = .returned (.tuple #[.string (readD d s.data.toList).1, .int .i64 (readD d s.data.toList).2]) ∧ Same w w' := by
  have ct := there_any b mb d s w h hs
  unfold readD
  obtain ⟨⟨fs, fn⟩, c, ht⟩ : ∃ f c, thereD d s.data.toList = (f, c) := ⟨_, _, rfl⟩
  rw [ht] at ct ⊢
  simp only [fileV] at ct ⊢
  have CT := Lib.hid ct
  clear ct ht h
  go_enter Try.func66, Try.ntmps66
  go_wp2_with fail
  refine CT.out.mono ?_
  rintro e w1 ⟨rfl, hS1⟩
  have hSa : Same w1 (w1.alloc (.cells #[.string fs, .int .i64 fn] 190)) := (Only.refl _ w1).alloc _
  obtain ⟨p0, p1, _, _⟩ := two_facts (blk_new w1 (.cells #[.string fs, .int .i64 fn] 190))
  have HS := Lib.hid (hS1.then hSa)
  clear hS1 hSa CT
  go_upto_region 2 with fail
  generalize w1.alloc (.cells #[.string fs, .int .i64 fn] 190) = w2 at *
  go_wp2_with fail
  go_ret2
  exact ⟨rfl, HS.out⟩
set_option maxRecDepth 100000 in
set_option maxHeartbeats 1000000 in
/-- Sync's closure: the file is put back. -/
theorem sync1_any (g bd bn b mb : Nat) (d : Dk) (s : ByteArray) (f : FileP) (w : World) (h : DkW w b mb d) (hs : s.size ≤ maxLen) (hn : d.F.length < maxLen)
    (c0 : w.cell? ⟨g, 0, none⟩ = some (.string f.1)) (c1 : w.cell? ⟨g, 1, none⟩ = some (.int .i64 f.2)) (c2 : w.cell? ⟨bd, 0, none⟩ = some (.pointer (some ⟨b, 0, none⟩))) (c3 : w.cell? ⟨bn, 0, none⟩ = some (.string s)) :
    Calls Try.prog 123 #[.pointer (some ⟨g, 0, none⟩), .pointer (some ⟨bd, 0, none⟩), .pointer (some ⟨bn, 0, none⟩)] w fun e w' => e = .returned (.tuple #[]) ∧ MpS fileV Try.prog 9 w' mb (putS d.F s.data.toList f) ∧ Only (· = mb) w w' := by
  have p1 : w.cell? ⟨b, 1, none⟩ = some (.map (some mb)) := blk_cells h.1 1
  have HM := Lib.hid h.2; have HS := Lib.hid hs; have HN := Lib.hid hn
  obtain ⟨fs, fn⟩ := f
  simp only at c0 c1
  clear h hs hn
  go_enter Try.func123, Try.ntmps123
  go_upto_region 0 with fail
  go_still_tail 6, (by kernel_rfl)
  change wpList _ _ _ _ _ w.drew
  have HM2 : Hid (MpS fileV Try.prog 9 w.drew mb d.F) := Lib.hid (HM.out.same (Only.refl _ w).drew)
  have hO : Only (fun i => i = mb) w w.drew := (Only.refl _ w).drew
  have HO := Lib.hid hO
  clear HM hO
  generalize w.drew = w1 at *
  go_wp2_with (at_mapUpdate; refine mps_put fileV _ rfl (.tmp 6) (.tmp 7) (.tmp 8) 186 rfl 9 190 Try.underlying9 Try.underlying186 mb d.F rfl HM2.out HN.out s (fs, fn) rfl rfl HS.out ?_; intro w2 hm2 hO2)
  go_end0
  exact ⟨rfl, hm2, HO.out.same hO2⟩
def syncD (d : Dk) (k : List UInt8) : Dk × Int := if (thereD d k).2 ≠ 0 then (d, (thereD d k).2) else effR d (putS d.F k ((thereD d k).1.1, ((thereD d k).1.1.size : Int)))
theorem enters_sync1 (args : Array Value) (w : World) : (callFunc 123 args).run Try.prog w = .ok (.enter 123 args) w := by kernel_rfl
/-- What a disk must be to be worked on. -/
def DOK (d : Dk) : Prop := usedP d.F ≤ 1099511627776 ∧ d.F.length ≤ 1000000 ∧ FOK d.F ∧ (-1000000000 ≤ d.count ∧ d.count ≤ 1000000000) ∧ (-1000000000 ≤ d.eff ∧ d.eff ≤ 1000000000)
set_option maxRecDepth 100000 in
set_option maxHeartbeats 2000000 in
theorem vsync_any (b mb : Nat) (d : Dk) (s : ByteArray) (w : World) (h : DkW w b mb d) (hs : s.size ≤ maxLen) (hd : DOK d) :
    Calls Try.prog 65 #[.pointer (some ⟨b, 0, none⟩), .string s] w fun e w' => e = .returned (.int .i64 (syncD d s.data.toList).2) ∧ DkW w' b mb (syncD d s.data.toList).1 ∧ Only (fun i => i = b ∨ i = mb) w w' := by
  have hS0 : Same w ((w.alloc (.cells #[.pointer (some ⟨b, 0, none⟩)] 101)).alloc (.cells #[.string s] 9)) := ((Only.refl _ w).alloc _).alloc _
  have hA := blk_old (.cells #[.string s] 9) (blk_new w (.cells #[.pointer (some ⟨b, 0, none⟩)] 101))
  have hB := blk_new1 w (.cells #[.pointer (some ⟨b, 0, none⟩)] 101) (.cells #[.string s] 9)
  have hsz : ((w.alloc (.cells #[.pointer (some ⟨b, 0, none⟩)] 101)).alloc (.cells #[.string s] 9)).heap.size = w.heap.size + 2 := by simp
  have hbw := heap_lt h.1
  have hmw := h.2.lt
  have HZ := Lib.hid (And.intro hbw hmw); have HS := Lib.hid hs; have HD := Lib.hid hd
  obtain ⟨⟨fs, fn⟩, c, ht⟩ : ∃ f c, thereD d s.data.toList = (f, c) := ⟨_, _, rfl⟩
  have HE : Hid (syncD d s.data.toList = if c ≠ 0 then (d, c) else effR d (putS d.F s.data.toList (fs, (fs.size : Int)))) := Lib.hid (by unfold syncD; rw [ht])
  have HT := Lib.hid ht; have H := Lib.hid h
  clear h hs hd ht hbw hmw
  go_enter Try.func65, Try.ntmps65
  go_upto_region 1 with fail
  generalize (w.alloc (.cells #[.pointer (some ⟨b, 0, none⟩)] 101)).alloc (.cells #[.string s] 9) = W at *
  have a0 := blk_cells hA 0
  have b0 := blk_cells hB 0
  simp only [List.getElem?_toArray, List.getElem?_cons_zero] at a0 b0
  have HS0 := Lib.hid hS0; have HA := Lib.hid hA; have HB := Lib.hid hB; have HSZ := Lib.hid hsz
  have ct := there_any b mb d s W (H.out.same hS0) HS.out
  rw [HT.out] at ct
  simp only [fileV] at ct
  have CT := Lib.hid ct
  clear ct hS0 hA hB hsz
  go_wp2_with fail
  refine CT.out.mono ?_
  rintro e w1 ⟨rfl, hS1⟩
  have hSa : Same w1 (w1.alloc (.cells #[.string fs, .int .i64 fn] 190)) := (Only.refl _ w1).alloc _
  have hV := blk_new w1 (.cells #[.string fs, .int .i64 fn] 190)
  have hS2 := hS1.then hSa
  have HV := Lib.hid hV
  have HA2 := Lib.hid (hS2.heap HA.out (fun h => h)); have HB2 := Lib.hid (hS2.heap HB.out (fun h => h))
  have HS2 := Lib.hid (HS0.out.then hS2)
  have HLT : Hid (w.heap.size + 2 ≤ w1.heap.size) := Lib.hid (by have := hS1.size; have := HSZ.out; omega)
  clear a0 b0 hS1 hSa hV hS2 CT HA HB HS0 HSZ
  go_upto_region 2 with fail
  generalize w1.alloc (.cells #[.string fs, .int .i64 fn] 190) = w2 at *
  by_cases hc : c = 0
  · subst hc
    have HE2 : Hid (syncD d s.data.toList = effR d (putS d.F s.data.toList (fs, (fs.size : Int)))) := Lib.hid (by rw [HE.out]; simp)
    obtain ⟨v0, v1, z0, z1⟩ := two_facts HV.out
    have a0 := blk_cells HA2.out 0
    have b0 := blk_cells HB2.out 0
    simp only [List.getElem?_toArray, List.getElem?_cons_zero] at a0 b0
    have hV3 := blk_set (j := 1) (v := .int .i64 (fs.size : Int)) HV.out
    have hO3 : Only (fun i => i = w1.heap.size) w2 (w2.setCell ⟨w1.heap.size, 1, none⟩ (.int .i64 (fs.size : Int))) := (Only.refl (fun i => i = w1.heap.size) w2).setCell (fun _ => rfl) _
    clear HE
    go_upto_region 5 with fail
    generalize w2.setCell ⟨w1.heap.size, 1, none⟩ (.int .i64 (fs.size : Int)) = w3 at *
    obtain ⟨v0, v1, _, _⟩ := two_facts (show w3.heap[w1.heap.size]? = some (.cells #[.string fs, .int .i64 (fs.size : Int)] 190 (0, 0)) from hV3)
    have a0 := hO3.cell_eq a0 (fun h => by have h1 : w.heap.size = w1.heap.size := h; have := HLT.out; omega)
    have b0 := hO3.cell_eq b0 (fun h => by have h1 : w.heap.size + 1 = w1.heap.size := h; have := HLT.out; omega)
    have HS3 : Hid (Same w w3) := Lib.hid (HS2.out.trans hO3 (fun i hi h => by have h1 : i = w1.heap.size := h; have := HLT.out; omega))
    have A0 := Lib.hid a0; have B0 := Lib.hid b0; have V0 := Lib.hid v0; have V1 := Lib.hid v1
    have hne : ∀ i, w.heap.size ≤ i → ¬ (i = b ∨ i = mb) := fun i hi h => by have := HZ.out; omega
    have ce := effect_any b mb d (putS d.F s.data.toList (fs, (fs.size : Int))) 123 #[.pointer (some ⟨w1.heap.size, 0, none⟩), .pointer (some ⟨w.heap.size, 0, none⟩), .pointer (some ⟨w.heap.size + 1, 0, none⟩)] w3 (H.out.same HS3.out) enters_sync1
      (fun w4 hO4 hd4 => sync1_any w1.heap.size w.heap.size (w.heap.size + 1) b mb { d with count := d.count + 1 } s (fs, (fs.size : Int)) w4 hd4 HS.out (by have := HD.out.2.1; unfold maxLen; show d.F.length < _; omega)
        (hO4.cell_eq V0.out (hne _ (by have := HLT.out; omega))) (hO4.cell_eq V1.out (hne _ (by have := HLT.out; omega))) (hO4.cell_eq A0.out (hne _ (Nat.le_refl _))) (hO4.cell_eq B0.out (hne _ (by omega))))
      HD.out.1 HD.out.2.1 HD.out.2.2.1 HD.out.2.2.2.1 HD.out.2.2.2.2
    have CE := Lib.hid ce
    clear b0 v0 v1 z0 z1 hV3 hO3 hne ce
    go_wp2_with fail
    refine CE.out.mono ?_
    rintro e w4 ⟨rfl, hd4, hO4⟩
    have HD4 := Lib.hid hd4; have HO4 := Lib.hid ((HS3.out.mono (S' := fun i => i = b ∨ i = mb) (fun _ _ h => h.elim)).same hO4)
    clear hd4 hO4
    go_wp2_with fail
    go_ret
    rw [HE2.out]
    exact ⟨rfl, HD4.out, HO4.out⟩
  · have hb : (c != 0) = true := by simpa using hc
    have HE2 : Hid (syncD d s.data.toList = (d, c)) := Lib.hid (by rw [HE.out, if_pos hc])
    clear hc HE
    go_wp2_with fail
    go_ret
    rw [HE2.out]
    exact ⟨rfl, H.out.same HS2.out, HS2.out.mono (fun _ _ h => h.elim)⟩
end Go.Proofs.Ytjegohibpojneaa
