import Derived.Test.YtjegohibpojneaaPostParse
import Derived.Test.YtjegohibpojneaaPackRefS
set_option linter.unusedVariables false
set_option linter.unusedSimpArgs false
namespace Go.Proofs.Ytjegohibpojneaa
open Go.RowKit
attribute [local go_sem ↓] Go.wp_at_zero Go.wp_at_succ

theorem str_at (r : List UInt8) (i : Nat) (h : i < (str r).size) : (str r)[i].toNat = (r.getD i 0).toNat := by
  have h2 : i < r.length := by rw [str_size] at h; exact h
  rw [List.getD_eq_getElem?_getD, List.getElem?_eq_getElem h2]; rfl
theorem wrap_nat (a : Nat) (h : a < 65536) : IntKind.i64.wrap (a : Int) = (a : Int) := by rw [IntKind.wrap_i64]; omega
theorem wrap16 (a b : Nat) (ha : a < 256) (hb : b < 256) : IntKind.i64.wrap (IntKind.i64.wrap (a : Int) + IntKind.i64.wrap (256 * IntKind.i64.wrap (b : Int))) = ((a + 256 * b : Nat) : Int) := by
  have h1 : ((256 : Int) * (b : Int)) = ((256 * b : Nat) : Int) := by omega
  have h2 : (a : Int) + ((256 * b : Nat) : Int) = ((a + 256 * b : Nat) : Int) := by omega
  rw [wrap_nat a (by omega), wrap_nat b (by omega), h1, wrap_nat (256 * b) (by omega), h2, wrap_nat (a + 256 * b) (by omega)]
set_option maxRecDepth 100000 in
set_option maxHeartbeats 8000000 in
theorem rparse05_any (s : ByteArray) (w : World) (hs : s.size ≤ 60000) :
    Calls Try.prog 41 #[.string s] w fun e w' => ∃ v, Same w w' ∧ e = .returned (.tuple #[v, .int .i64 (parsePs s).2]) ∧ SlP w' v ((parsePs s).1.getD []) := by
  obtain ⟨pp, hpp⟩ : ∃ x, x = parsePs s := ⟨_, rfl⟩
  rw [← hpp]
  have co := fun w0 => ropen_any s w0 (by unfold maxLen; omega)
  rw [ropenOf_eq] at co
  have hol : (openOf s).1.size ≤ 60000 := by
    unfold openOf
    split
    · exact Nat.zero_le _
    · split
      · simp only [ByteArray.size_extract]; omega
      · exact Nat.zero_le _
  unfold parsePs at hpp
  generalize openOf s = oo at *
  obtain ⟨o1, o2⟩ := oo
  obtain ⟨t, rfl⟩ : ∃ t, o1 = str t := ⟨_, (str_of o1).symm⟩
  simp only [str_list] at hpp hol co
  rw [str_size] at hol
  have CO := Lib.hid co
  clear co hs
  by_cases h0 : o2 = 0
  rotate_left
  · rw [if_neg h0] at hpp
    have HP := Lib.hid hpp
    have hb : (o2 != 0) = true := by simpa using h0
    clear hpp h0
    go_enter Try.func41, Try.ntmps41
    go_wp2_with fail
    refine (CO.out _).mono ?_
    rintro e w1 ⟨rfl, hS1⟩
    go_wp2_with fail
    go_ret2
    rw [HP.out]
    exact ⟨_, hS1, rfl, SlP.nil _⟩
  subst h0
  rw [if_pos rfl] at hpp
  have hst := str_size t
  have cr := fun w0 => rtr2_any (some t) t.length w0 (by simp only [Option.getD_some]; omega)
  have hr1 := risR_less (some t) t.length
  have hr2 := risR_len (some t) t.length
  have hr3 := risR_rng (some t) t.length
  have hrf := readPs_ref t (risR (some t) t.length).1 (risR (some t) t.length).2 rfl (by omega)
  simp only [Option.getD_some] at hr1
  generalize readPs t = rp at *
  generalize risR (some t) t.length = ra at *
  obtain ⟨ds, s3⟩ := ra
  simp only at hpp cr hr1 hr2 hr3 hrf
  have HPP := Lib.hid hpp; have CR := Lib.hid cr; have HR3 := Lib.hid hr3; have HRF := Lib.hid hrf
  clear hpp cr hr3 hrf
  go_enter Try.func41, Try.ntmps41
  go_wp2_with fail
  refine (CO.out _).mono ?_
  rintro e w1 ⟨rfl, hS1⟩
  have HS1 := Lib.hid hS1
  clear hS1
  go_upto_region 5 with (go_at_call 93; refine (CR.out _).mono ?_; rintro e w2 ⟨vd, rfl, hO2, hD2⟩; have HD2 := Lib.hid hD2; obtain ⟨ad, cd, rfl, hcd, hmd, _, _⟩ := hD2)
  have hB := blk_new w2 (.cells #[.string (str (s3.getD [])), .bool s3.isNone] 156)
  have hSa : Same w2 (w2.alloc (.cells #[.string (str (s3.getD [])), .bool s3.isNone] 156)) := (Only.refl _ w2).alloc _
  generalize w2.alloc (.cells #[.string (str (s3.getD [])), .bool s3.isNone] 156) = W at *
  have HS2 := Lib.hid ((HS1.out.then hO2).then hSa)
  have HD := Lib.hid (HD2.out.same hSa)
  have HB := Lib.hid hB
  have hBl := heap_lt hB
  unfold maxLen at hmd
  clear hB hSa hO2 HS1 HD2 CO CR
  cases s3 with
  | none =>
    have HP : Hid (pp = (none, 2)) := Lib.hid (by rw [HPP.out, HRF.out.1 rfl])
    have hb : W.heap[w2.heap.size]? = some (.cells #[.string (str []), .bool true] 156 (0, 0)) := HB.out
    obtain ⟨p0, p1, p2, p3⟩ := pair_facts hb
    clear HPP HRF hb
    go_wp2_with fail
    go_ret2
    rw [HP.out]
    exact ⟨_, HS2.out, rfl, SlP.nil _⟩
  | some r =>
    have hb : W.heap[w2.heap.size]? = some (.cells #[.string (str r), .bool false] 156 (0, 0)) := HB.out
    obtain ⟨p0, p1, p2, p3⟩ := pair_facts hb
    have hsr := str_size r
    simp only [Option.getD_some] at hr1
    by_cases hl2 : r.length = 2 * ds.length
    rotate_left
    · have HP : Hid (pp = (none, 2)) := Lib.hid (by rw [HPP.out, HRF.out.2.1 r rfl hl2])
      have hlb : ((r.length : Int) != 2 * (ds.length : Int)) = true := by simp; omega
      clear HPP HRF hb
      go_wp2_with fail
      go_ret2
      rw [HP.out]
      exact ⟨_, HS2.out, rfl, SlP.nil _⟩
    · have hrd := HRF.out.2.2 r rfl hl2
      have hlb : ((r.length : Int) != 2 * (ds.length : Int)) = false := by simp; omega
      have hwl : ((List.range ds.length).map fun i => (((r.getD (2 * i) 0).toNat + 256 * (r.getD (2 * i + 1) 0).toNat : Nat) : Int)).length = ds.length := by simp
      have hwat : ∀ k (h : k < ((List.range ds.length).map fun i => (((r.getD (2 * i) 0).toNat + 256 * (r.getD (2 * i + 1) 0).toNat : Nat) : Int)).length), ((List.range ds.length).map fun i => (((r.getD (2 * i) 0).toNat + 256 * (r.getD (2 * i + 1) 0).toNat : Nat) : Int))[k] = (((r.getD (2 * k) 0).toNat + 256 * (r.getD (2 * k + 1) 0).toNat : Nat) : Int) := by intro k h; simp
      generalize ((List.range ds.length).map fun i => (((r.getD (2 * i) 0).toNat + 256 * (r.getD (2 * i + 1) 0).toNat : Nat) : Int)) = ws at *
      have HP : Hid (pp = if rightB (ds.zip ws) = true then (some (ds.zip ws), 0) else (none, 2)) := Lib.hid (by rw [HPP.out, hrd])
      have hzl : (ds.zip ws).length = ds.length := by rw [List.length_zip]; omega
      have HZL := Lib.hid hzl; have HWL := Lib.hid hwl; have HWA := Lib.hid hwat; have HBB := Lib.hid hb
      have hINF : Hid ((Try.prog.info? 77).map (fun i => (i.zero, i.size, i.bytes)) = some (some (.agg #[.int .i64 0, .int .i64 0]), 2, 16)) := Lib.hid (by kernel_rfl)
      have hn6 : ds.length ≤ 60000 := by omega
      clear HPP HRF hb hrd hwl hwat hzl HB
      go_wp2_with fail
      clear p0 p1 p2 p3 hlb
      go_loopw [8, 9] (fun rv i wr => ∃ (k : Nat) (vv : Value), vv = rv ∧ k ≤ ds.length ∧ i = .int .i64 k ∧ Same W wr ∧ wr.ownsRow W.heap.size 77 2 vv k (cells2 ((ds.zip ws).take k))) (fun _ i _ => ds.length - (intOf i).toNat)
      case atStart => exact ⟨0, _, rfl, by omega, rfl, Only.refl _ _, World.ownsRow_nil _ _ _ _⟩
      case round =>
        obtain ⟨k, vv, rfl, hk, rfl, hS, hV⟩ := hrel
        obtain ⟨wr0, hwr⟩ : ∃ x, x = wr := ⟨_, rfl⟩
        subst hwr
        by_cases hlt : k < ds.length
        · obtain ⟨b1, o1, rfl, hc1⟩ := HD.out.spot (by omega)
          have hb1 := World.block_lt_of_cell? W _ (hc1 k hlt)
          have k1 := hS.cell_eq (hc1 k hlt) (fun h => h)
          obtain ⟨p0, p1, p2, p3⟩ := pair_facts (hS.heap HBB.out (fun h => h))
          have hst := zip_snoc ds ws k hlt (by have := HWL.out; omega)
          rw [HWA.out] at hst
          have hx := HR3.out ds[k] (List.getElem_mem hlt)
          have hj1 : 2 * k < (str r).size := by rw [str_size]; omega
          have hj2 : 2 * k + 1 < (str r).size := by rw [str_size]; omega
          have hs1 := str_at r (2 * k) hj1
          have hs2 := str_at r (2 * k + 1) hj2
          have hx1 := (r.getD (2 * k) 0).toNat_lt
          have hx2 := (r.getD (2 * k + 1) 0).toNat_lt
          generalize ds[k] = x at *
          generalize (r.getD (2 * k) 0).toNat = y1 at *
          generalize (r.getD (2 * k + 1) 0).toNat = y2 at *
          have HST := Lib.hid hst
          have hsz := hS.size
          have hk63 : k + 1 ≤ maxLen := by unfold maxLen; omega
          have hk16 : (k + 1) * 16 ≤ 140737488355328 := by omega
          have q0 : Only (fun g => W.heap.size ≤ g) wr0 wr0 := Only.refl _ _
          have hK : ∀ w', Only (fun g => W.heap.size ≤ g) wr0 w' → (w'.cell? ⟨w2.heap.size, 0, none⟩ = some (.string (str r)) ∧ w'.cell? ⟨b1, o1 + k, none⟩ = some (.int .i64 x)) := fun w' h => ⟨h.cell_eq p0 (fun g => by omega), h.cell_eq k1 (fun g => by simp at hb1; omega)⟩
          have HK := Lib.hid hK
          clear hK hst hc1 p1 p2 p3
          have hi1 : (0 : Int) ≤ 2 * (k : Int) ∧ 2 * (k : Int) < ((str r).size : Int) := by omega
          have hi2 : (0 : Int) ≤ 2 * (k : Int) + 1 ∧ 2 * (k : Int) + 1 < ((str r).size : Int) := by omega
          have hi3 : (2 * (k : Int)).toNat = 2 * k := by omega
          have hi4 : (2 * (k : Int) + 1).toNat = 2 * k + 1 := by omega
          have HSR := Lib.hid hsr; have HL2 := Lib.hid hl2
          clear hsr hl2
          have hq1 : IntKind.i64.wrap (2 * (k : Int)) = 2 * (k : Int) := by rw [IntKind.wrap_i64]; omega
          have hq2 : IntKind.i64.wrap (2 * (k : Int) + 1) = 2 * (k : Int) + 1 := by rw [IntKind.wrap_i64]; omega
          have hzz := wrap16 y1 y2 (by omega) (by omega)
          have HZZ := Lib.hid hzz
          clear hzz
          go_upto_region 11 with fail
          go_region_held3 (fun w' => w'.cell? ⟨w2.heap.size, 0, none⟩ = some (.string (str r)) ∧ w'.cell? ⟨b1, o1 + k, none⟩ = some (.int .i64 x))
            (first | exact HK.out _ q0 | exact HK.out _ q0.drew | exact HK.out _ (q0.alloc _) | exact HK.out _ (q0.drew.alloc _) | exact HK.out _ (q0.alloc _).drew)
            (first | ((refine step_oneP (o := ⟨some 65, _, _, _, _, _⟩) _ (by rfl) (.tmp 43) (.tmp 64) 55 (by rfl) W.heap.size 77 (.agg #[.int .i64 0, .int .i64 0]) 2 16 Try.underlying55 hINF.out rfl (by decide) vv k _ (by rfl) (by first | exact hV | exact hV.alloc _) _ [.int .i64 x, .int .i64 (IntKind.i64.wrap (IntKind.i64.wrap (y1 : Int) + IntKind.i64.wrap (256 * IntKind.i64.wrap (y2 : Int))))] (by rfl) (by first | exact blk_new wr0 _ | exact blk_new wr0.drew _) rfl (by intro u hu; simp at hu; rcases hu with rfl | rfl <;> rfl) hk63 hk16 (by first | exact base_le hsz q0 | exact base_le hsz q0.drew | exact base_le hsz (q0.alloc _) | exact base_le hsz (q0.drew.alloc _) | exact base_le hsz (q0.alloc _).drew) ?_; intro gn capn wn hN hq; have q0 := Only.same (by first | exact q0 | exact q0.drew | exact q0.alloc _ | exact q0.drew.alloc _ | exact (q0.alloc _).drew) hq; clear hq)))
          all_goals
            go_wp2_with fail
            go_roundw
            case rel => exact ⟨k + 1, _, rfl, by omega, by go_num, hS.trans q0 (fun g h1 h2 => by omega), by rw [HST.out, cells2_snoc, ← HZZ.out]; exact hN⟩
            case measure => simp [intOf]; omega
        · obtain rfl : k = ds.length := by omega
          rw [List.take_of_length_le (by rw [HZL.out]; omega)] at hV
          have hsl := own_slp hV
          have cB := fun w0 (h : Same wr0 w0) => rright05_any _ _ w0 (hsl.same h)
          have HS7 := Lib.hid (HS2.out.then hS)
          generalize ds.zip ws = l at *
          have HSL := Lib.hid hsl
          obtain ⟨al, cl, rfl, hcl, hml⟩ := hsl.lit
          obtain ⟨rb, hrb⟩ : ∃ b, b = rightB l := ⟨_, rfl⟩
          rw [← hrb] at cB HP
          have CB := Lib.hid cB; have HRB := Lib.hid hrb
          clear cB hsl hV hS HS2 HD HZL hrb
          cases rb with
          | true =>
            go_wp2_with fail
            refine (CB.out _ (Only.refl _ _)).mono ?_
            rintro e w8 ⟨rfl, hS8⟩
            go_wp2_with fail
            go_ret2
            rw [HP.out]
            exact ⟨_, HS7.out.then hS8, rfl, HSL.out.same hS8⟩
          | false =>
            go_wp2_with fail
            refine (CB.out _ (Only.refl _ _)).mono ?_
            rintro e w8 ⟨rfl, hS8⟩
            go_wp2_with fail
            go_ret2
            rw [HP.out]
            exact ⟨_, HS7.out.then hS8, rfl, SlP.nil _⟩
end Go.Proofs.Ytjegohibpojneaa
