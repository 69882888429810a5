import Derived.Test.YtjegohibpojneaaVdApp
import Derived.Laws.BitsAllLaws
import Derived.Laws.BytesArg
import Derived.Lib.ConvBytes
set_option linter.unusedVariables false
set_option linter.unusedSimpArgs false
namespace Go.Proofs.Ytjegohibpojneaa
open Go.RowKit
attribute [local go_sem ↓] Go.wp_at_zero Go.wp_at_succ

def flipU (x : UInt8) (q : Nat) : UInt8 := UInt8.ofNat (x.toNat ^^^ 2 ^ q)
def flipS (s : ByteArray) (a : Nat) : ByteArray := ⟨(s.data.toList.set (a / 8) (flipU (s.data.toList.getD (a / 8) 0) (a % 8))).toArray⟩
theorem flipU_toNat (x : UInt8) (q : Nat) (hq : q < 8) : (flipU x q).toNat = x.toNat ^^^ 2 ^ q := by
  have h2 : 2 ^ q < 256 := Nat.lt_of_le_of_lt (Nat.pow_le_pow_right (by omega) (show q ≤ 7 by omega)) (by decide)
  have hx := x.toNat_lt
  have := Nat.xor_lt_two_pow (n := 8) (x := x.toNat) (y := 2 ^ q) (by omega) (by omega)
  unfold flipU
  rw [UInt8.toNat_ofNat']
  exact Nat.mod_eq_of_lt this
def flipD (d : Dk) (k : List UInt8) (bit : Int) : Dk × Int :=
  match getS d.F k with
  | none => (d, 4)
  | some f => if bit < 0 ∨ (f.1.size : Int) ≤ bit / 8 then (d, 1) else ({ d with F := putS d.F k (flipS f.1 bit.toNat, f.2) }, 0)
theorem bw_same (w : World) (e : TypeId) (s : ByteArray) : Same w (Lib.bytesWorld w e s) :=
  ⟨rfl, rfl, rfl, by rw [Lib.bytesWorld_size]; omega, fun k hk _ => Lib.bytesWorld_at_old w e s k hk⟩
theorem strNums8 (T : List UInt8) : strOfNums (T.map fun x => (x.toNat : Int)) = ⟨T.toArray⟩ := by
  unfold strOfNums
  congr 2
  rw [List.map_map]
  conv => rhs; rw [← List.map_id T]
  apply List.map_congr_left
  intro x _
  simp
theorem bits_xor8 (a b : Nat) (ha : a < 256) (hb : b < 256) : bits .xor .u8 (a : Int) (b : Int) = ((a ^^^ b : Nat) : Int) := by
  have hp : (2 : Nat) ^ IntKind.u8.bits = 256 := rfl
  have ha' : a % 2 ^ IntKind.u8.bits = a := Nat.mod_eq_of_lt (by omega)
  have hb' : b % 2 ^ IntKind.u8.bits = b := Nat.mod_eq_of_lt (by omega)
  simp only [bits, BitVec.ofInt_natCast, BitVec.toNat_xor, BitVec.toNat_ofNat, ha', hb']
  rw [IntKind.wrap_u8]
  have := Nat.xor_lt_two_pow (n := 8) ha hb
  omega
theorem flipU_val (x : UInt8) (q : Nat) (hq : q < 8) : bits .xor .u8 (x.toNat : Int) ((2 : Int) ^ q % 256) = ((flipU x q).toNat : Int) := by
  have h2 : 2 ^ q < 256 := Nat.lt_of_le_of_lt (Nat.pow_le_pow_right (by omega) (show q ≤ 7 by omega)) (by decide)
  have hx := x.toNat_lt
  have e : ((2 : Int) ^ q % 256) = ((2 ^ q : Nat) : Int) := by
    have : ((2 ^ q : Nat) : Int) = (2 : Int) ^ q := by simp
    rw [← this]
    exact Int.emod_eq_of_lt (Int.natCast_nonneg _) (Int.ofNat_lt.2 h2 : ((2 ^ q : Nat) : Int) < ((256 : Nat) : Int))
  rw [e, bits_xor8 _ _ (by omega) h2, flipU_toNat x q hq]
set_option maxRecDepth 100000 in
set_option maxHeartbeats 8000000 in
theorem vflip_any (b mb : Nat) (d : Dk) (s : ByteArray) (bit : Int) (w : World) (h : DkW w b mb d) (hs : s.size ≤ maxLen) (hd : DOK d) (hbit : -9223372036854775808 ≤ bit ∧ bit ≤ 9223372036854775807) :
    Calls Try.prog 116 #[.pointer (some ⟨b, 0, none⟩), .string s, .int .i64 bit] w fun e w' => e = .returned (.int .i64 (flipD d s.data.toList bit).2) ∧ DkW w' b mb (flipD d s.data.toList bit).1 ∧ Only (fun i => i = b ∨ i = mb) w w' := by
  have hlk := h.2.run_look_ok (t := 186) (e := 190) Try.underlying9 Try.underlying186 (z := .agg #[.string ⟨#[]⟩, .int .i64 0]) (by kernel_rfl) s hs
  have c1 := blk_cells h.1 1
  simp only [List.getElem?_toArray, List.getElem?_cons_succ, List.getElem?_cons_zero] at c1
  have H := Lib.hid h; have HS := Lib.hid hs; have HD := Lib.hid hd; have HZ := Lib.hid (And.intro (heap_lt h.1) h.2.lt)
  cases hof : getS d.F s.data.toList with
  | none =>
    have HE : Hid (flipD d s.data.toList bit = (d, 4)) := Lib.hid (by unfold flipD; rw [hof])
    rw [hof] at hlk
    simp only [Option.map_none, Option.getD_none] at hlk
    have hS1 : Same w (w.alloc (.cells #[.string ⟨#[]⟩, .int .i64 0] 190)) := (Only.refl _ w).alloc _
    have HS1 := Lib.hid hS1
    clear h hs hd hof hS1
    go_enter Try.func116, Try.ntmps116
    go_wp2_with fail
    go_ret
    rw [HE.out]
    exact ⟨rfl, H.out.same HS1.out, HS1.out.mono (fun _ _ h => h.elim)⟩
  | some f =>
  obtain ⟨fs, fn⟩ := f
  rw [hof] at hlk
  simp only [Option.map_some, Option.getD_some, fileV] at hlk
  have hfs := used_mem (has_getS hof)
  have hu := hd.1
  simp only at hfs
  have hS1 : Same w (w.alloc (.cells #[.string fs, .int .i64 fn] 190)) := (Only.refl _ w).alloc _
  have hV := blk_new w (.cells #[.string fs, .int .i64 fn] 190)
  have HFL : Hid (flipD d s.data.toList bit = if bit < 0 ∨ (fs.size : Int) ≤ bit / 8 then (d, 1) else ({ d with F := putS d.F s.data.toList (flipS fs bit.toNat, fn) }, 0)) := Lib.hid (by unfold flipD; rw [hof])
  have HFS : Hid (fs.size ≤ 1099511627776) := Lib.hid (by omega)
  clear h hs hd hof hfs hu
  go_enter Try.func116, Try.ntmps116
  go_upto_region 4 with fail
  generalize w.alloc (.cells #[.string fs, .int .i64 fn] 190) = w1 at *
  have HS1 := Lib.hid hS1; have HV := Lib.hid hV
  clear hlk c1 hS1 hV
  by_cases h0 : bit < 0
  · have hd0 : decide (bit < 0) = true := decide_eq_true h0
    have HE : Hid (flipD d s.data.toList bit = (d, 1)) := Lib.hid (by rw [HFL.out, if_pos (.inl h0)])
    clear h0
    go_wp2_with fail
    go_ret
    rw [HE.out]
    exact ⟨rfl, H.out.same HS1.out, HS1.out.mono (fun _ _ h => h.elim)⟩
  have hd0 : decide (bit < 0) = false := decide_eq_false h0
  obtain ⟨a, rfl⟩ := Int.eq_ofNat_of_zero_le (show 0 ≤ bit by omega)
  obtain ⟨j, hj⟩ : ∃ j, j = a / 8 := ⟨_, rfl⟩
  obtain ⟨r, hr⟩ : ∃ r, r = a % 8 := ⟨_, rfl⟩
  have hq8 : (a : Int) / 8 = (j : Int) := by omega
  have hr8 : (a : Int) % 8 = (r : Int) := by omega
  have hwq : wrap64 (j : Int) = (j : Int) := by unfold wrap64; omega
  have hwr : wrap64 (r : Int) = (r : Int) := by unfold wrap64; omega
  have htm : ((a : Int)).tmod 8 = (r : Int) := by rw [Int.tmod_eq_emod_of_nonneg (by omega)]; omega
  have hr0 : (0 : Int) ≤ (r : Int) := by omega
  have hr7 : (r : Int) < 8 := by omega
  have hwi := wrapS (x := (j : Int)) (by omega)
  have hwi2 := wrapS (x := (r : Int)) (by omega)
  obtain ⟨v0, v1, z0, z1⟩ := two_facts HV.out
  by_cases h1 : fs.size ≤ j
  · have hd1 : decide ((fs.size : Int) ≤ (j : Int)) = true := decide_eq_true (by omega)
    have hd2 : decide (fs.size ≤ j) = true := decide_eq_true h1
    have HE : Hid (flipD d s.data.toList (a : Int) = (d, 1)) := Lib.hid (by rw [HFL.out, if_pos (.inr (by omega))])
    clear h0 h1 hj hr HFL
    go_wp2_with fail
    go_ret
    rw [HE.out]
    exact ⟨rfl, H.out.same HS1.out, HS1.out.mono (fun _ _ h => h.elim)⟩
  have hd1 : decide ((fs.size : Int) ≤ (j : Int)) = false := decide_eq_false (by omega)
  have hd2 : decide (fs.size ≤ j) = false := decide_eq_false h1
  have HE : Hid (flipD d s.data.toList (a : Int) = ({ d with F := putS d.F s.data.toList (flipS fs a, fn) }, 0)) := Lib.hid (by rw [HFL.out, if_neg (by omega)]; rfl)
  have hcv := fun (W : World) => Lib.run_convert_string_bytes (P := Try.prog) W 9 148 5 fs Try.underlying9 Try.underlying148 Try.underlying5
  have HJ := Lib.hid (And.intro hj (And.intro hr hbit))
  clear hj hr h0 HFL
  go_upto_region 7 with fail
  have hbw := bw_same w1 5 fs
  have hr0 : (Lib.bytesWorld w1 5 fs).heap[w1.heap.size]? = _ := Lib.bytesWorld_at_new w1 5 fs
  have hlen0 : fs.data.toList.length = fs.size := by simp
  have hcell0 : ∀ i (h : i < fs.data.toList.length), (Lib.bytesWorld w1 5 fs).cell? ⟨w1.heap.size, i, none⟩ = some (.int .u8 (fs.data.toList[i]).toNat) ∧ (Lib.bytesWorld w1 5 fs).frozen? ⟨w1.heap.size, i, none⟩ = false := by
    intro i h
    refine ⟨by rw [Lib.bytesWorld_cell _ _ _ _ (by omega), show fs.data.toList.getD i 0 = fs.data.toList[i] from by rw [List.getD_eq_getElem?_getD, List.getElem?_eq_getElem h]; rfl], ?_⟩
    unfold World.frozen?
    simp only [hr0]
    have : i < (Lib.bytesCells w1 5 fs).size := by unfold Lib.bytesCells; simp; omega
    simp; omega
  have hjl : j < fs.data.toList.length := by omega
  obtain ⟨k0, k1⟩ := hcell0 j hjl
  obtain ⟨x, hx⟩ : ∃ x, x = fs.data.toList[j] := ⟨_, rfl⟩
  rw [← hx] at k0
  have hr8l : r < 8 := by have := HJ.out; omega
  have hxv := flipU_val x r hr8l
  have HC0 := Lib.hid hcell0; have HX := Lib.hid hx; have HBW := Lib.hid hbw
  have hjI : (j : Int) < (fs.size : Int) := by omega
  have hjN : j < fs.size := by omega
  have hjJ : (0 : Int) ≤ (j : Int) := by omega
  clear hr0 hcell0 hx hbw hcv
  generalize Lib.bytesWorld w1 5 fs = w2 at *
  go_still_tail 10, (by kernel_rfl)
  change wpList _ _ _ _ _ w2.drew
  have k0 : w2.drew.cell? ⟨w1.heap.size, j, none⟩ = some (.int .u8 x.toNat) := k0
  have k1 : w2.drew.frozen? ⟨w1.heap.size, j, none⟩ = false := k1
  have hxv2 : bits .xor .u8 (x.toNat : Int) (IntKind.u8.wrap ((2 : Int) ^ r)) = ((flipU x r).toNat : Int) := by rw [IntKind.wrap_u8]; exact hxv
  go_upto_region 8 with fail
  rw [hxv2]
  have hT : ∀ i (h : i < (fs.data.toList.set j (flipU x r)).length), (w2.setCell ⟨w1.heap.size, j, none⟩ (.int .u8 (flipU x r).toNat)).drew.cell? ⟨w1.heap.size, i, none⟩ = some (.int .u8 ((fs.data.toList.set j (flipU x r))[i]).toNat) := by
    intro i h
    show (w2.setCell ⟨w1.heap.size, j, none⟩ (.int .u8 (flipU x r).toNat)).cell? ⟨w1.heap.size, i, none⟩ = _
    have hil : i < fs.data.toList.length := by simpa using h
    by_cases e : i = j
    · subst e
      rw [World.cell?_setCell_same _ _ _ (show w2.cell? _ = some _ from k0)]
      simp
    · rw [World.cell?_setCell_other _ _ _ _ (by intro h; injection h; omega)]
      rw [(HC0.out i hil).1]
      simp [List.getElem_set, show ¬ j = i by omega]
  have hO3 : Same w (w2.setCell ⟨w1.heap.size, j, none⟩ (.int .u8 (flipU x r).toNat)).drew := ((HS1.out.then HBW.out).setCell (fun h => by have h2 : w1.heap.size < w.heap.size := h; have := HS1.out.size; omega) _).drew
  have hO4 : Only (fun i => i = w1.heap.size) w1 (w2.setCell ⟨w1.heap.size, j, none⟩ (.int .u8 (flipU x r).toNat)).drew := ((HBW.out.mono (S' := fun i => i = w1.heap.size) (fun _ _ h => h.elim)).setCell (fun _ => rfl) _).drew
  have hV4 := hO4.heap HV.out (fun h => by have h1 : w.heap.size = w1.heap.size := h; have := heap_lt HV.out; omega)
  generalize (w2.setCell ⟨w1.heap.size, j, none⟩ (.int .u8 (flipU x r).toNat)).drew = w3 at *
  have hTl : (fs.data.toList.set j (flipU x r)).length = fs.size := by simp
  have hst := run_convert_bytes_arg (P := Try.prog) w3 148 5 Try.underlying148 Try.underlying5 w1.heap.size 0 fs.size (grownCap w1 fs.size 0 5) ((fs.data.toList.set j (flipU x r)).map fun x => (x.toNat : Int)) (by simp) (fun i hi => by
    have hi' : i < (fs.data.toList.set j (flipU x r)).length := by rw [hTl]; exact hi
    rw [Nat.zero_add, hT i hi']
    simp only [List.getD, List.getElem?_map, List.getElem?_eq_getElem hi']
    rfl) 9 Try.underlying9
  rw [strNums8] at hst
  have hfl : (⟨(fs.data.toList.set j (flipU x r)).toArray⟩ : ByteArray) = flipS fs a := by
    have h1 := HJ.out
    have h2 := HX.out
    unfold flipS
    rw [← h1.1, ← h1.2.1, h2]
    congr 3
    rw [List.getD_eq_getElem?_getD, List.getElem?_eq_getElem hjl]; rfl
  rw [hfl] at hst
  obtain ⟨v0, v1, z0, z1⟩ := two_facts (show w3.heap[w.heap.size]? = some (.cells #[.string fs, .int .i64 fn] 190 (0, 0)) from hV4)
  have HV4 := Lib.hid hV4; have HO3 := Lib.hid hO3
  have p1 := blk_cells (hO3.heap H.out.1 (fun h => h)) 1
  simp only [List.getElem?_toArray, List.getElem?_cons_succ, List.getElem?_cons_zero] at p1
  clear hT hO3 hO4 hV4 hTl hfl k0 k1 hxv hxv2 hwq hwr hwi hwi2 htm hq8 hr8 hjI hjN hjJ HX hjl hr8l hlen0
  have hV5 := blk_set (j := 0) (v := .string (flipS fs a)) HV4.out
  have hO5 : Only (fun i => i = w.heap.size) w3 (w3.setCell ⟨w.heap.size, 0, none⟩ (.string (flipS fs a))) := (Only.refl (fun i => i = w.heap.size) w3).setCell (fun _ => rfl) _
  go_upto_region 9 with fail
  generalize w3.setCell ⟨w.heap.size, 0, none⟩ (.string (flipS fs a)) = w4 at *
  obtain ⟨v0, v1, _, _⟩ := two_facts (show w4.heap[w.heap.size]? = some (.cells #[.string (flipS fs a), .int .i64 fn] 190 (0, 0)) from hV5)
  have p1 := hO5.cell_eq p1 (fun h => by have h1 : b = w.heap.size := h; have := HZ.out; omega)
  have HS4 : Hid (Same w w4.drew) := Lib.hid ((HO3.out.trans (S := fun _ => False) hO5 (fun i hi h => by have h1 : i = w.heap.size := h; omega)).drew)
  have HM4 : Hid (MpS fileV Try.prog 9 w4.drew mb d.F) := Lib.hid (H.out.2.same HS4.out)
  have HB4 := Lib.hid (HS4.out.heap H.out.1 (fun h => h))
  clear hV5 hO5 hst z0 z1
  go_still_tail 6, (by kernel_rfl)
  change wpList _ _ _ _ _ w4.drew
  generalize w4.drew = w5 at *
  go_wp2_with (at_mapUpdate; refine mps_put fileV _ rfl (.tmp 52) (.tmp 53) (.tmp 54) 186 rfl 9 190 Try.underlying9 Try.underlying186 mb d.F rfl HM4.out (by have := HD.out.2.1; unfold maxLen; omega) s (flipS fs a, fn) rfl rfl HS.out ?_; intro w6 hm6 hO6)
  go_ret
  rw [HE.out]
  exact ⟨rfl, ⟨hO6.heap HB4.out (fun h => H.out.ne h.symm), hm6⟩, (HS4.out.mono (S' := fun i => i = b ∨ i = mb) (fun _ _ h => h.elim)).trans hO6 (fun _ _ h => .inr h)⟩
end Go.Proofs.Ytjegohibpojneaa
