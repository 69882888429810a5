import Derived.Test.YtjegohibpojneaaPostCur
import Derived.Test.YtjegohibpojneaaDocPrintR
import Derived.Test.YtjegohibpojneaaCrcMath
set_option linter.unusedVariables false
set_option linter.unusedSimpArgs false
namespace Go.Proofs.Ytjegohibpojneaa
open Go.RowKit

def printP (l : List (Int × Int)) : ByteArray := sealOf (str ((risS (docsP l)).getD [] ++ fixB 16 (wtsP l)))
theorem print_docs (l : List (Int × Int)) (h : RightP l) : ∀ x ∈ docsP l, 0 ≤ x ∧ x ≤ 2147483647 := fun x hx => by
  obtain ⟨t, ht, rfl⟩ := List.mem_map.1 hx
  have := h.rng t ht
  omega
theorem print_wts (l : List (Int × Int)) (h : RightP l) : ∀ x ∈ wtsP l, 1 ≤ x ∧ x ≤ 65535 := fun x hx => by
  obtain ⟨t, ht, rfl⟩ := List.mem_map.1 hx
  have := h.rng t ht
  omega
theorem wtsP_len (l : List (Int × Int)) : (wtsP l).length = l.length := by simp [wtsP]
theorem docsP_snoc (l : List (Int × Int)) (k : Nat) (h : k < l.length) : (docsP l).take (k + 1) = (docsP l).take k ++ [l[k].1] := by
  rw [take_snocI (docsP l) k (by rw [docsP_len]; exact h)]; simp [docsP]
theorem wtsP_snoc (l : List (Int × Int)) (k : Nat) (h : k < l.length) : (wtsP l).take (k + 1) = (wtsP l).take k ++ [l[k].2] := by
  rw [take_snocI (wtsP l) k (by rw [wtsP_len]; exact h)]; simp [wtsP]

set_option maxRecDepth 100000 in
set_option maxHeartbeats 4000000 in
theorem print05_any (b : Nat) (l : List (Int × Int)) (w : World) (hv : ListAt w b l) (hr : RightP l) (hn : l.length ≤ 1000) :
    Calls Try.prog 38 #[.pointer (some ⟨b, 0, none⟩)] w fun e w' => e = .returned (.string (printP l)) ∧ Same w w' := by
  obtain ⟨s1, s2, h1, h2, h3⟩ := hv
  have H2 := Lib.hid h2
  obtain ⟨a1, c1, rfl, hc1, hm1⟩ := h2.lit
  unfold maxLen at hm1
  obtain ⟨⟨z0, z1, z2⟩, _⟩ := three_facts h1
  have HDR := Lib.hid (print_docs l hr); have HWR := Lib.hid (print_wts l hr); have HRR := Lib.hid hr.rises
  have HKL := Lib.hid (docsP_len l); have HWL := Lib.hid (wtsP_len l)
  obtain ⟨ou, hou⟩ : ∃ x, x = printP l := ⟨_, rfl⟩
  rw [← hou]
  have HOU := Lib.hid hou
  have HINF : Hid ((Try.prog.info? 3).map (fun i => (i.zero, i.size, i.bytes)) = some (some (.int .i64 0), 1, 8)) := Lib.hid (by kernel_rfl)
  clear h1 h2 h3 hr hou
  go_enter Try.func38, Try.ntmps38
  go_wp2_with fail
  clear z0 z1 z2
  go_loopw [3, 4, 16] (fun ra rb i wr => ∃ (k : Nat) (va vb : Value), va = ra ∧ vb = rb ∧ k ≤ l.length ∧ i = .int .i64 k ∧ Same w wr ∧ wr.ownsRow w.heap.size 3 1 va k (((docsP l).take k).map num) ∧ wr.ownsRow w.heap.size 3 1 vb k (((wtsP l).take k).map num) ∧ Apart va vb) (fun _ _ i _ => l.length - (intOf i).toNat)
  case atStart => exact ⟨0, _, _, rfl, rfl, by omega, rfl, Only.refl _ _, World.ownsRow_nil _ _ _ _, World.ownsRow_nil _ _ _ _, fun g h => by cases h⟩
  case round =>
    obtain ⟨k, va, vb, rfl, rfl, hk, rfl, hS, hA, hB, hD⟩ := hrel
    obtain ⟨wr0, hwr⟩ : ∃ x, x = wr := ⟨_, rfl⟩
    subst hwr
    by_cases hlt : k < l.length
    · obtain ⟨b, off, rfl, hcc⟩ := H2.out.spot (by omega)
      have hck := hS.cell_eq (hcc k hlt).1 (fun h => h)
      have hck2 := hS.cell_eq (hcc k hlt).2 (fun h => h)
      have hst1 := docsP_snoc l k hlt
      have hst2 := wtsP_snoc l k hlt
      generalize l[k].1 = x at *
      generalize l[k].2 = y at *
      have HST1 := Lib.hid hst1; have HST2 := Lib.hid hst2
      clear hst1 hst2 hcc
      have hk63 : k + 1 ≤ maxLen := by unfold maxLen; omega
      have hk8 : (k + 1) * 8 ≤ 140737488355328 := by omega
      have hb2 : w.heap.size ≤ (wr0.alloc (.cells #[.int .i64 x, .int .i64 y] 77)).heap.size := by have := hS.size; simp; omega
      have hSA : ∀ g, va.ownBlock = some g → w.heap.size ≤ g ∧ g ≠ wr0.heap.size := fun g hg => by have := hA.lt g hg; omega
      have hSB : ∀ g, vb.ownBlock = some g → w.heap.size ≤ g ∧ g ≠ wr0.heap.size := fun g hg => by have := hB.lt g hg; omega
      have HSA := Lib.hid hSA; have HSB := Lib.hid hSB
      clear hSA hSB
      go_upto_region 5 with fail
      have hAW := hA.alloc (.cells #[.int .i64 x, .int .i64 y] 77)
      have hBW := hB.alloc (.cells #[.int .i64 x, .int .i64 y] 77)
      have hA := hAW
      have hB := hBW
      have hT := blk_new wr0 (.cells #[.int .i64 x, .int .i64 y] 77)
      have hSW := hS.alloc (.cells #[.int .i64 x, .int .i64 y] 77)
      generalize wr0.alloc (.cells #[.int .i64 x, .int .i64 y] 77) = W at *
      have q0 : Only (fun k => w.heap.size ≤ k ∧ k ≠ wr0.heap.size) W W := Only.refl _ _
      have HT := Lib.hid hT
      have hK : ∀ w', Only (fun k => w.heap.size ≤ k ∧ k ≠ wr0.heap.size) W w' → (w'.cell? ⟨wr0.heap.size, 0, none⟩ = some (.int .i64 x) ∧ w'.cell? ⟨wr0.heap.size, 1, none⟩ = some (.int .i64 y)) := fun w' h => by
        obtain ⟨e0, e1, _, _⟩ := two_facts (h.heap HT.out (fun h => h.2 rfl))
        exact ⟨e0, e1⟩
      have HK := Lib.hid hK
      clear hK hT
      go_region_held3 (fun w' => w'.cell? ⟨wr0.heap.size, 0, none⟩ = some (.int .i64 x) ∧ w'.cell? ⟨wr0.heap.size, 1, none⟩ = some (.int .i64 y))
        (first | exact HK.out _ q0 | exact HK.out _ q0.drew | exact HK.out _ (q0.alloc _) | exact HK.out _ (q0.drew.alloc _) | exact HK.out _ ((q0.alloc _).alloc _) | exact HK.out _ ((q0.drew.alloc _).alloc _))
        (first
          | ((refine step_app (o := ⟨some 24, _, _, _, _, _⟩) (S := fun k => w.heap.size ≤ k ∧ k ≠ wr0.heap.size) _ (by rfl) (.tmp 20) (.tmp 23) 23 (by rfl) w.heap.size 3 (.int .i64 0) 8 Try.underlying23 HINF.out rfl va k _ (by rfl) (by first | exact hA | exact hA.alloc _ | exact (hA.alloc _).alloc _) _ _ _ (by first | exact hB | exact hB.alloc _ | exact (hB.alloc _).alloc _) hD _ (.int .i64 x) (by rfl) (by first | exact blk_new _ _ | exact blk_new1 _ _ _ | exact blk_old _ (blk_new _ _) | exact hN1 | simpa only [World.size_alloc] using hN1) rfl hk63 hk8 (by first | exact base_le hb2 q0 | exact base_le hb2 q0.drew | exact base_le hb2 (q0.alloc _) | exact base_le hb2 (q0.drew.alloc _) | exact base_le hb2 ((q0.alloc _).alloc _) | exact base_le hb2 ((q0.drew.alloc _).alloc _)) HSA.out ?_); intro gn capn wn hA hB hD0 hq hkp; have hD := hD0; (first | (have hN2 : wn.heap[_]? = some (Obj.cells #[.int .i64 y] 3 (0, 0)) := hkp _ _ (by first | exact blk_old _ (blk_new _ _) | exact blk_new _ _) (own_ne hAW (by simp))) | skip); have q0 := Only.same (by first | exact q0 | exact q0.drew | exact q0.alloc _ | exact q0.drew.alloc _ | exact (q0.alloc _).alloc _ | exact (q0.drew.alloc _).alloc _) hq; clear hq hkp hD0)
          | ((refine step_app (o := ⟨some 29, _, _, _, _, _⟩) (S := fun k => w.heap.size ≤ k ∧ k ≠ wr0.heap.size) _ (by rfl) (.tmp 25) (.tmp 28) 23 (by rfl) w.heap.size 3 (.int .i64 0) 8 Try.underlying23 HINF.out rfl vb k _ (by rfl) (by first | exact hB | exact hB.alloc _ | exact (hB.alloc _).alloc _) _ _ _ (by first | exact hA | exact hA.alloc _ | exact (hA.alloc _).alloc _) hD.symm _ (.int .i64 y) (by rfl) (by first | exact blk_new _ _ | exact blk_new1 _ _ _ | exact blk_old _ (blk_new _ _) | exact hN2 | simpa only [World.size_alloc] using hN2) rfl hk63 hk8 (by first | exact base_le hb2 q0 | exact base_le hb2 q0.drew | exact base_le hb2 (q0.alloc _) | exact base_le hb2 (q0.drew.alloc _) | exact base_le hb2 ((q0.alloc _).alloc _) | exact base_le hb2 ((q0.drew.alloc _).alloc _)) HSB.out ?_); intro gn capn wn hB hA hD0 hq hkp; have hD := hD0.symm; (first | (have hN1 : wn.heap[_]? = some (Obj.cells #[.int .i64 x] 3 (0, 0)) := hkp _ _ (by first | exact blk_old _ (blk_new _ _) | exact blk_new _ _) (own_ne hBW (by simp))) | skip); have q0 := Only.same (by first | exact q0 | exact q0.drew | exact q0.alloc _ | exact q0.drew.alloc _ | exact (q0.alloc _).alloc _ | exact (q0.drew.alloc _).alloc _) hq; clear hq hkp hD0))
      all_goals
        go_wp2_with fail
        go_roundw
        case rel =>
          refine ⟨k + 1, _, _, rfl, rfl, by omega, by go_num, hSW.trans q0 (fun g h1 h2 => by omega), ?_, ?_, hD⟩
          · rw [HST1.out, List.map_append]; exact hA
          · rw [HST2.out, List.map_append]; exact hB
        case measure => simp [intOf]; omega
    · obtain rfl : k = l.length := by omega
      rw [List.take_of_length_le (by have := HKL.out; omega)] at hA
      rw [List.take_of_length_le (by have := HWL.out; omega)] at hB
      have hSK := own_sl hA
      have hSV := own_sl hB
      have HS3 := Lib.hid hS
      obtain ⟨rb, hrb, hrbl⟩ := risS_some (docsP l) HRR.out (fun x hx => by have := HDR.out x hx; omega) (by have := HKL.out; omega)
      have hfw := fixS_some 16 (wtsP l) (by omega) (fun x hx => by have := HWR.out x hx; omega)
      have hlw := fixB_len 16 (wtsP l)
      have hkl := HKL.out
      have hwl := HWL.out
      have cr := fun w0 (hS : Same wr0 w0) => ris_any _ (docsP l) w0 (hSK.same hS) (fun x hx => by have := HDR.out x hx; omega) (by omega)
      rw [hrb] at cr
      have cw := fun w0 (hS : Same wr0 w0) => fix_any 16 _ (wtsP l) w0 (hSV.same hS) (fun x hx => by have := HWR.out x hx; omega) (by omega)
      rw [show fixS 16 (wtsP l) = some (fixB 16 (wtsP l)) from hfw] at cw
      have ho : ou = sealOf (str (rb ++ fixB 16 (wtsP l))) := by rw [HOU.out]; unfold printP; rw [hrb]; rfl
      have hz1 := str_size rb; have hz2 := str_size (fixB 16 (wtsP l))
      generalize fixB 16 (wtsP l) = fw at *
      have hzz : (str rb ++ str fw).size + 4 ≤ maxLen := by rw [str_append, str_size, List.length_append]; unfold maxLen; omega
      have cs := fun w0 => seal_any (str rb ++ str fw) w0 hzz
      rw [str_append] at cs
      have hap := str_append rb fw
      have CRS := Lib.hid cr; have CW := Lib.hid cw; have CS := Lib.hid cs; have HO := Lib.hid ho; have HAP := Lib.hid hap
      have hrb1 : rb.length ≤ 20000 := by omega
      have hfw1 : fw.length ≤ 20000 := by omega
      clear cr cw cs ho hrb hfw hlw hkl hwl hrbl hA hB hD hSK hSV hS HKL HWL HDR HWR HRR HOU hap hzz
      go_wp2_with fail
      refine (CRS.out _ (Only.refl _ _)).mono ?_
      rintro e w5 ⟨rfl, hS5⟩
      go_wp2_with fail
      refine (CW.out _ hS5).mono ?_
      rintro e w6 ⟨rfl, hS6⟩
      have HS6 := Lib.hid ((HS3.out.then hS5).then hS6)
      clear hS5 hS6
      go_wp2_with fail
      rw [HAP.out]
      refine (CS.out _).mono ?_
      rintro e w7 ⟨rfl, hS7⟩
      go_wp2_with fail
      go_ret
      rw [HO.out]
      exact ⟨rfl, HS6.out.then hS7⟩
set_option maxRecDepth 100000 in
set_option maxHeartbeats 4000000 in
theorem rprint05_any (v : Value) (l : List (Int × Int)) (w : World) (hv : SlP w v l) (hr : RightP l) (hn : l.length ≤ 1000) :
    Calls Try.prog 39 #[v] w fun e w' => e = .returned (.string (printP l)) ∧ Same w w' := by
  have H2 := Lib.hid hv
  obtain ⟨a1, c1, rfl, hc1, hm1⟩ := hv.lit
  unfold maxLen at hm1
  have HDR := Lib.hid (print_docs l hr); have HWR := Lib.hid (print_wts l hr); have HRR := Lib.hid hr.rises
  have HKL := Lib.hid (docsP_len l); have HWL := Lib.hid (wtsP_len l)
  obtain ⟨ou, hou⟩ : ∃ x, x = printP l := ⟨_, rfl⟩
  rw [← hou]
  have HOU := Lib.hid hou
  have HINF : Hid ((Try.prog.info? 3).map (fun i => (i.zero, i.size, i.bytes)) = some (some (.int .i64 0), 1, 8)) := Lib.hid (by kernel_rfl)
  clear hv hr hou
  go_enter Try.func39, Try.ntmps39
  go_wp2_with fail
  go_loopw [3, 4, 5] (fun ra rb i wr => ∃ (k : Nat) (va vb : Value), va = ra ∧ vb = rb ∧ k ≤ l.length ∧ i = .int .i64 k ∧ Same w wr ∧ wr.ownsRow w.heap.size 3 1 va k (((docsP l).take k).map num) ∧ wr.ownsRow w.heap.size 3 1 vb k (((wtsP l).take k).map num) ∧ Apart va vb) (fun _ _ i _ => l.length - (intOf i).toNat)
  case atStart => exact ⟨0, _, _, rfl, rfl, by omega, rfl, Only.refl _ _, World.ownsRow_nil _ _ _ _, World.ownsRow_nil _ _ _ _, fun g h => by cases h⟩
  case round =>
    obtain ⟨k, va, vb, rfl, rfl, hk, rfl, hS, hA, hB, hD⟩ := hrel
    obtain ⟨wr0, hwr⟩ : ∃ x, x = wr := ⟨_, rfl⟩
    subst hwr
    by_cases hlt : k < l.length
    · obtain ⟨b, off, rfl, hcc⟩ := H2.out.spot (by omega)
      have hck := hS.cell_eq (hcc k hlt).1 (fun h => h)
      have hck2 := hS.cell_eq (hcc k hlt).2 (fun h => h)
      have hbl : b < w.heap.size := by have h1 := World.block_lt_of_cell? w _ (hcc k hlt).1; simp at h1; omega
      have hst1 := docsP_snoc l k hlt
      have hst2 := wtsP_snoc l k hlt
      generalize l[k].1 = x at *
      generalize l[k].2 = y at *
      have HST1 := Lib.hid hst1; have HST2 := Lib.hid hst2
      clear hst1 hst2 hcc
      have hk63 : k + 1 ≤ maxLen := by unfold maxLen; omega
      have hk8 : (k + 1) * 8 ≤ 140737488355328 := by omega
      have hsz := hS.size
      have HA := Lib.hid hA; have HB := Lib.hid hB; have HAP := Lib.hid hD
      clear hA hB hD
      go_wp2_with (first
        | (at_builtin; refine app_two (o := ⟨some 23, _, _, _, _, _⟩) (.int .i64 x) rfl (.tmp 16) (.tmp 22) 23 rfl w.heap.size 3 (.int .i64 0) 8 Try.underlying23 HINF.out rfl _ k _ rfl HA.out _ k _ HB.out HAP.out rfl rfl hk63 hk8 hsz ?_; intro v' w4 hown4 hoth4 hap4 hO4; have hS4 : Same w w4 := hS.trans hO4 (fun g h1 h2 => by omega); have hck4 := hO4.cell_eq hck2 (fun h => by omega); have hsz4 := hS4.size; have HA4 := Lib.hid hown4; have HB4 := Lib.hid hoth4; have HAP4 := Lib.hid hap4.symm; clear hown4 hoth4 hap4 hO4)
        | (at_builtin; refine app_two (o := ⟨some 31, _, _, _, _, _⟩) (.int .i64 y) rfl (.tmp 24) (.tmp 30) 23 rfl w.heap.size 3 (.int .i64 0) 8 Try.underlying23 HINF.out rfl _ k _ rfl HB4.out _ (k + 1) _ HA4.out HAP4.out rfl rfl hk63 hk8 hsz4 ?_; intro v2' w5 hown5 hoth5 hap5 hO5))
      go_roundw
      case rel =>
        refine ⟨k + 1, _, _, rfl, rfl, by omega, by go_num, hS4.trans hO5 (fun g h1 h2 => by omega), ?_, ?_, hap5.symm⟩
        · rw [HST1.out, List.map_append]; exact hoth5
        · rw [HST2.out, List.map_append]; exact hown5
      case measure => simp [intOf]; omega
    · obtain rfl : k = l.length := by omega
      rw [List.take_of_length_le (by have := HKL.out; omega)] at hA
      rw [List.take_of_length_le (by have := HWL.out; omega)] at hB
      have hSK := own_sl hA
      have hSV := own_sl hB
      have HS3 := Lib.hid hS
      obtain ⟨rb, hrb, hrbl⟩ := risS_some (docsP l) HRR.out (fun x hx => by have := HDR.out x hx; omega) (by have := HKL.out; omega)
      have hfw := fixS_some 16 (wtsP l) (by omega) (fun x hx => by have := HWR.out x hx; omega)
      have hlw := fixB_len 16 (wtsP l)
      have hkl := HKL.out
      have hwl := HWL.out
      have cr := fun w0 (hS : Same wr0 w0) => ris2_any _ (docsP l) w0 (hSK.same hS) (fun x hx => by have := HDR.out x hx; omega) (by omega)
      rw [hrb] at cr
      have cw := fun w0 (hS : Same wr0 w0) => fix2_any 16 _ (wtsP l) w0 (hSV.same hS) (fun x hx => by have := HWR.out x hx; omega) (by omega)
      rw [show fixS 16 (wtsP l) = some (fixB 16 (wtsP l)) from hfw] at cw
      have ho : ou = sealOf (str (rb ++ fixB 16 (wtsP l))) := by rw [HOU.out]; unfold printP; rw [hrb]; rfl
      have hz1 := str_size rb; have hz2 := str_size (fixB 16 (wtsP l))
      generalize fixB 16 (wtsP l) = fw at *
      have hzz : (str rb ++ str fw).size + 4 ≤ maxLen := by rw [str_append, str_size, List.length_append]; unfold maxLen; omega
      have cs := fun w0 => rseal_any (str rb ++ str fw) w0 hzz
      rw [str_append, rsealOf_eq] at cs
      have hap := str_append rb fw
      have CRS := Lib.hid cr; have CW := Lib.hid cw; have CS := Lib.hid cs; have HO := Lib.hid ho; have HAP := Lib.hid hap
      have hrb1 : rb.length ≤ 20000 := by omega
      have hfw1 : fw.length ≤ 20000 := by omega
      clear cr cw cs ho hrb hfw hlw hkl hwl hrbl hA hB hD hSK hSV hS HKL HWL HDR HWR HRR HOU hap hzz
      go_wp2_with fail
      refine (CRS.out _ (Only.refl _ _)).mono ?_
      rintro e w5 ⟨rfl, hS5⟩
      go_wp2_with fail
      refine (CW.out _ hS5).mono ?_
      rintro e w6 ⟨rfl, hS6⟩
      have HS6 := Lib.hid ((HS3.out.then hS5).then hS6)
      clear hS5 hS6
      go_wp2_with fail
      rw [HAP.out]
      refine (CS.out _).mono ?_
      rintro e w7 ⟨rfl, hS7⟩
      go_wp2_with fail
      go_ret
      rw [HO.out]
      exact ⟨rfl, HS6.out.then hS7⟩
end Go.Proofs.Ytjegohibpojneaa
