import Derived.Test.YtjegohibpojneaaPackFix
import Derived.Deep.RegionHeld3
set_option linter.unusedVariables false
set_option linter.unusedSimpArgs false
namespace Go.Proofs.Ytjegohibpojneaa
open Go.RowKit

theorem conv1 (x : Nat) (hx : x < 256) (W : World) : (convert 148 9 (.slice (some ⟨W.heap.size, 0, none⟩) 1 1)).run Try.prog (W.alloc (.cells #[.int .u8 x] 5)) =
    .ok (.string (str [UInt8.ofNat x])) (W.alloc (.cells #[.int .u8 x] 5)) := by
  rw [← strOfNums8]
  refine run_convert_bytes_arg _ 148 5 Try.underlying148 Try.underlying5 _ 0 1 1 (nums8 [UInt8.ofNat x]) rfl (fun i hi => ?_) 9 Try.underlying9
  rw [blk_cells (blk_new _ _)]
  obtain rfl : i = 0 := by omega
  simp [nums8]
  omega

set_option maxRecDepth 100000 in
theorem word2_any (n : Nat) (w : World) (hn : n < 18446744073709551616) :
    Calls Try.prog 134 #[.int .u64 n] w fun e w' => e = .returned (.string (str (vint n))) ∧ Same w w' := by
  go_enter Try.func134, Try.ntmps134
  go_wp2_with fail
  go_loopw [0, 3] (fun v b wr => ∃ (k : Nat) (l : List UInt8), k < 18446744073709551616 ∧ v = .int .u64 k ∧ Same w wr ∧ b = .string (str l) ∧ l ++ vint k = vint n) (fun v _ _ => (intOf v).toNat)
  case atStart => exact ⟨n, [], hn, rfl, Only.refl _ _, rfl, rfl⟩
  case round =>
    obtain ⟨k, l, hk, rfl, hS, rfl, hl⟩ := hrel
    have hlen : l.length ≤ 10 := by have := vint_le10 n hn; rw [← hl] at this; simp at this; omega
    have hst := str_size l
    have HL := Lib.hid hl
    clear hl
    by_cases h128 : k < 128
    · have hcv := conv1 k (by omega)
      have hap := str_append l [UInt8.ofNat k]
      have hs1 := str_size [UInt8.ofNat k]
      simp only [List.length_singleton] at hs1
      have hl2 : l ++ [UInt8.ofNat k] = vint n := by rw [← HL.out, vint_small h128]
      rw [hl2] at hap
      clear hl2
      go_wp2_with fail
      go_ret
      exact ⟨rfl, hS.alloc _⟩
    · have hcv := conv1 (k % 128 + 128) (by omega)
      rw [Int.natCast_add, Int.natCast_emod, Int.cast_ofNat_Int] at hcv
      have hl2 : (l ++ [UInt8.ofNat (k % 128 + 128)]) ++ vint (k / 128) = vint n := by rw [← HL.out, vint_more h128, List.append_assoc]; rfl
      generalize UInt8.ofNat (k % 128 + 128) = z at *
      have hap := str_append l [z]
      have hs1 := str_size [z]
      simp only [List.length_singleton] at hs1
      have HL2 := Lib.hid hl2
      clear hl2
      go_wp2_with fail
      exact ⟨⟨k / 128, l ++ [z], by omega, by go_num, hS.alloc _, rfl, HL2.out⟩, by simp [intOf]; omega⟩

theorem varint2_neg (v : Int) (w : World) (h : v < 0) : Calls Try.prog 85 #[.int .i64 v] w fun e w' => e = .returned (.tuple #[.string (str []), .int .i64 1]) ∧ Same w w' := by
  go_enter Try.func85, Try.ntmps85
  go_wp2_with fail
  go_ret2
  exact ⟨rfl, Only.refl _ _⟩
theorem varint2_ok (v : Nat) (w : World) (h : v ≤ 9223372036854775807) : Calls Try.prog 85 #[.int .i64 v] w fun e w' => e = .returned (.tuple #[.string (str (vint v)), .int .i64 0]) ∧ Same w w' := by
  go_enter Try.func85, Try.ntmps85
  go_wp2_with (go_at_call 134; refine (word2_any v _ (by omega)).mono ?_; rintro e w1 ⟨rfl, hS⟩)
  go_ret2
  exact ⟨rfl, hS⟩
set_option maxRecDepth 100000 in
theorem ris2_any (v : Value) (l : List Int) (w : World) (hv : Sl w (.int .i64) v l) (hl : ∀ x ∈ l, -9223372036854775808 ≤ x ∧ x ≤ 9223372036854775807) (hn : l.length ≤ 1000000000000) :
    Calls Try.prog 86 #[v] w fun e w' => e = .returned (.tuple #[.string (str ((risS l).getD [])), .int .i64 (eno (risS l))]) ∧ Same w w' := by
  obtain ⟨ad, cp, rfl, hcp, hmx, hnil, hcell⟩ := hv
  have HC := Lib.hid hcell; have HL := Lib.hid hl
  clear hnil hcell hl hmx
  have hv10 := vint_le10 l.length (by omega)
  go_enter Try.func86, Try.ntmps86
  go_wp2_with (go_at_call 134; refine (word2_any l.length _ (by omega)).mono ?_; rintro e w1 ⟨rfl, hS⟩)
  go_loopw [4, 5] (fun s i wr => ∃ (k : Nat) (t : List UInt8), k ≤ l.length ∧ i = .int .i64 k ∧ s = .string (str t) ∧ t.length ≤ 10 * (k + 1) ∧ Same w wr ∧
    (risb (if k = 0 then -1 else l.getD (k - 1) 0) (l.drop k)).map (t ++ ·) = risS l ∧ (0 < k → 0 ≤ l.getD (k - 1) 0)) (fun _ i _ => l.length - (intOf i).toNat)
  case atStart => exact ⟨0, _, by omega, rfl, rfl, by omega, hS, rfl, by intro h; omega⟩
  case round =>
    obtain ⟨k, t, hk, rfl, rfl, hlen, hS', heq, hnn⟩ := hrel
    by_cases hlt : k < l.length
    · obtain ⟨b, off, rfl, hc⟩ := HC.out (by omega)
      have hck := hS'.cell_eq (hc k hlt) (fun h => h)
      have hr := HL.out l[k] (List.getElem_mem hlt)
      rw [List.drop_eq_getElem_cons hlt, risb] at heq
      have hst := str_size t
      by_cases hk0 : k = 0
      · subst hk0
        rw [if_pos rfl] at heq
        simp only [Nat.add_zero] at hck
        have HCC := Lib.hid hc
        have hx0 : l.getD 0 0 = l[0] := by rw [List.getD_eq_getElem?_getD, List.getElem?_eq_getElem hlt]; rfl
        clear hc
        generalize l[0] = x at *
        have HX := Lib.hid hx0
        clear hx0
        by_cases hneg : x ≤ -1
        · rw [if_pos hneg] at heq
          have e : risS l = none := by rw [← heq]; rfl
          have HE := Lib.hid e
          have hn0 : x < 0 := by omega
          clear heq e hneg
          go_wp2_with fail
          go_quiet (fail)
          rename_i nq
          go_wp2
          go_ret2
          rw [HE.out]
          exact ⟨rfl, hS'.drewN nq⟩
        · rw [if_neg hneg] at heq
          have hgd0 : l.getD 0 0 = x := HX.out
          have hd : decide (x < 0) = false := decide_eq_false (by omega)
          obtain ⟨m, hm⟩ := Int.eq_ofNat_of_zero_le (show 0 ≤ x by omega)
          rw [show (x - -1 - 1).toNat = m by omega] at heq
          have hd10 := vint_le10 m (by omega)
          have hsv := str_size (vint m)
          have hm2 : m < 18446744073709551616 := by omega
          have HE := Lib.hid heq; have HL0 := Lib.hid hlt; have HM := Lib.hid hm
          have HGD := Lib.hid hgd0
          clear heq hneg hgd0 hnn hm
          go_wp2_with fail
          go_quiet (fail)
          rename_i nq
          have hck2 : (wr.drewN nq).cell? ⟨b, off, none⟩ = some (.int .i64 x) := hck
          have he : IntKind.u64.wrap x = (m : Int) := by rw [IntKind.wrap_u64]; have := HM.out; omega
          go_wp2_with fail
          refine (word2_any m _ hm2).mono ?_
          rintro e w2 ⟨rfl, hS2⟩
          go_wp2
          refine ⟨⟨1, t ++ vint m, by omega, rfl, by rw [str_append], by simp; omega, hS'.then ((Only.refl _ wr).drewN nq |>.then hS2), ?_, ?_⟩, by simp [intOf]; omega⟩
          · rw [← HE.out, Option.map_map, if_neg (by decide)]
            show _ = Option.map _ (risb x (List.drop (0 + 1) l))
            rw [show l.getD (1 - 1) 0 = x from HX.out]
            congr 1
            funext y
            simp
          · intro _; rw [show l.getD (1 - 1) 0 = x from HX.out]; have := HM.out; omega
      · have hcp1 := hS'.cell_eq (hc (k - 1) (by omega)) (fun h => h)
        have hr1 := HL.out l[k - 1] (List.getElem_mem (by omega))
        have hgd : l.getD (k - 1) 0 = l[k - 1] := by rw [List.getD_eq_getElem?_getD, List.getElem?_eq_getElem (show k - 1 < l.length by omega)]; rfl
        rw [hgd] at hnn heq
        rw [if_neg hk0] at heq
        have hkk : ((k : Int) - 1) = ((k - 1 : Nat) : Int) := by omega
        have HCC := Lib.hid hc
        have hgk : l.getD (k + 1 - 1) 0 = l[k] := by rw [Nat.add_sub_cancel, List.getD_eq_getElem?_getD, List.getElem?_eq_getElem hlt]; rfl
        clear hc hgd
        generalize l[k - 1] = y at *
        generalize l[k] = x at *
        have hy0 := hnn (by omega)
        have HGK := Lib.hid hgk
        clear hgk hnn
        have hkp : 0 < k := by omega
        have e1 : ((k : Int) - 1).toNat = k - 1 := by omega
        by_cases hle : x ≤ y
        · rw [if_pos hle] at heq
          have e : risS l = none := by rw [← heq]; rfl
          have HE := Lib.hid e
          clear heq e
          by_cases hneg : x < 0
          · go_wp2_with fail
            go_quiet (fail)
            rename_i nq
            go_wp2
            go_ret2
            rw [HE.out]
            exact ⟨rfl, hS'.drewN nq⟩
          · have hd : decide (x < 0) = false := decide_eq_false hneg
            go_wp2_with fail
            go_quiet (fail)
            rename_i nq
            go_wp2
            go_ret2
            rw [HE.out]
            exact ⟨rfl, hS'.drewN nq⟩
        · rw [if_neg hle] at heq
          have hd : decide (x < 0) = false := decide_eq_false (by omega)
          have hd2 : decide (x ≤ y) = false := decide_eq_false hle
          obtain ⟨m, hm⟩ := Int.eq_ofNat_of_zero_le (show 0 ≤ x - y - 1 by omega)
          rw [hm, Int.toNat_natCast] at heq
          have hm2 : m < 18446744073709551616 := by omega
          have hd10 := vint_le10 m hm2
          have hsv := str_size (vint m)
          have HE := Lib.hid heq; have HM := Lib.hid hm; have HLE := Lib.hid hle
          clear heq hm
          go_wp2_with fail
          go_quiet (fail)
          rename_i nq
          have hck2 : (wr.drewN nq).cell? ⟨b, off + k, none⟩ = some (.int .i64 x) := hck
          have hcp2 : (wr.drewN nq).cell? ⟨b, off + (k - 1), none⟩ = some (.int .i64 y) := hcp1
          have hSW : Same w (wr.drewN nq) := hS'.drewN nq
          generalize wr.drewN nq = W at *
          clear hck hcp1
          have hlek : k - 1 < l.length := by omega
          have eB : wrap64 (wrap64 (x - y) - 1) = m := by unfold wrap64; have := HM.out; have := HLE.out; omega
          have eC : IntKind.u64.wrap (m : Int) = m := by rw [IntKind.wrap_u64]; omega
          have hcat : ¬ 9223372036854775807 < t.length + (vint m).length := by omega
          have eK : IntKind.i64.wrap ((k : Int) - 1) = ((k - 1 : Nat) : Int) := by rw [IntKind.wrap_i64]; omega
          have eA : IntKind.i64.wrap (x - y) = x - y := by rw [IntKind.wrap_i64]; have := HLE.out; omega
          have eB2 : IntKind.i64.wrap (x - y - 1) = m := by rw [IntKind.wrap_i64]; have := HM.out; omega
          clear hkk
          go_wp2_with fail
          go_region_held3 (fun w' => Same w w' ∧ w'.cell? ⟨b, off + k, none⟩ = some (.int .i64 x) ∧ w'.cell? ⟨b, off + (k - 1), none⟩ = some (.int .i64 y)) (exact ⟨by first | assumption | exact Only.drew (by assumption), by first | assumption | exact hck2, by first | assumption | exact hcp2⟩)
            (first | (go_at_call 134; refine (word2_any m _ hm2).mono ?_; rintro e w2 ⟨rfl, hS2⟩; have q1 : Same w w2 := Only.then (by first | assumption | exact hSW | exact hSW.drew) hS2; have q2 := hS2.cell_eq (b := b) (j := off + k) (v := .int .i64 x) (by first | assumption | exact hck2) (fun h => h); have q3 := hS2.cell_eq (b := b) (j := off + (k - 1)) (v := .int .i64 y) (by first | assumption | exact hcp2) (fun h => h)))
          go_wp2
          refine ⟨⟨k + 1, t ++ vint m, by omega, by go_num, by rw [str_append], by simp; omega, q1, ?_, ?_⟩, by simp [intOf]; omega⟩
          · rw [← HE.out, Option.map_map, if_neg (by omega), HGK.out]
            congr 1
            funext y
            simp
          · intro _; rw [HGK.out]; have := HM.out; omega
    · rw [List.drop_of_length_le (by omega)] at heq
      have e : risS l = some t := by rw [← heq]; simp [risb]
      have HE := Lib.hid e
      clear heq e
      go_wp2
      go_ret2
      rw [HE.out]
      exact ⟨rfl, hS'⟩
end Go.Proofs.Ytjegohibpojneaa
