import Derived.Test.YtafhgpknffkjmaaCrcBurst
import Derived.Test.YtafhgpknffkjmaaCrcAwake
set_option linter.unusedVariables false
set_option linter.unusedSimpArgs false
namespace Go.Proofs.Ytafhgpknffkjmaa
open Go.RowKit

set_option maxRecDepth 100000 in
theorem crcBursts_walk (s : ByteArray) (at_ turn : Int) (w : World) (hs : s.size ≤ 140737488351232) (hat0 : (Lit.int .i64 at_).wf = true) (ht0 : (Lit.int .u32 turn).wf = true) :
    Calls Try.prog 4 #[.string s, .int .i64 at_, .int .u32 turn] w fun e w' => e = .returned (.bool true) ∧ Same w w' := by
  have hat : at_ ≤ 9223372036854775807 := (bounds_i64 hat0).2
  have ht : 0 ≤ turn ∧ turn < 4294967296 := by have := bounds_u32 ht0; omega
  clear hat0 ht0
  by_cases h3 : 3000 < s.size
  · go_enter Try.func4, Try.ntmps4
    go_wp2_with (go_at_call 11; refine (awake1_any _).mono ?_; rintro e w1 ⟨rfl, hS1⟩)
    go_ret
    exact ⟨rfl, hS1⟩
  · by_cases hneg : at_ < 0
    · go_enter Try.func4, Try.ntmps4
      go_wp2_with (go_at_call 11; refine (awake1_any _).mono ?_; rintro e w1 ⟨rfl, hS1⟩)
      go_ret
      exact ⟨rfl, hS1⟩
    · have hszm : s.size + 4 ≤ maxLen := by unfold maxLen; omega
      have hN : (sealOf s).size = s.size + 4 := by unfold sealOf; simp [ByteArray.size_append, strOfNums_size]
      obtain ⟨a, ha⟩ : ∃ a : Nat, at_ % (8 * ((sealOf s).size : Int)) = a := ⟨(at_ % (8 * ((sealOf s).size : Int))).toNat, by
        have := Int.emod_nonneg at_ (b := 8 * ((sealOf s).size : Int)) (by omega); omega⟩
      have ha2 : a < 8 * (sealOf s).size := by have := Int.emod_lt_of_pos at_ (b := 8 * ((sealOf s).size : Int)) (by omega); omega
      have hcv := fun (W : World) (t : ByteArray) => Lib.run_convert_string_bytes (P := Try.prog) W 9 39 5 t Try.underlying9 Try.underlying39 Try.underlying5
      have hb0 : (1 : Int) ≤ (sealOf s).size := by omega
      have hb1 : ((sealOf s).size : Int) ≤ 3004 := by omega
      have HN := Lib.hid hN
      clear hN
      generalize hU : sealOf s = U at *
      have HU := Lib.hid hU
      clear hU
      go_enter Try.func4, Try.ntmps4
      go_wp2_with (first | (go_at_call 11; refine (awake1_any _).mono ?_; rintro e w1 ⟨rfl, hS1⟩) | (go_at_call 20; refine (seal_any s _ hszm).mono ?_; rw [HU.out]; rintro e w2 ⟨rfl, hS2⟩))
      rw [ha]
      have hbw := bytesWorld_same w2 5 U
      have hr : (Lib.bytesWorld w2 5 U).heap[w2.heap.size]? = _ := Lib.bytesWorld_at_new w2 5 U
      have hS : Same w (Lib.bytesWorld w2 5 U) := (hS1.then hS2).then hbw
      have hlt0 : w2.heap.size < (Lib.bytesWorld w2 5 U).heap.size := by rw [Lib.bytesWorld_size]; omega
      have hw2 : w.heap.size ≤ w2.heap.size := (hS1.then hS2).size
      have hlen0 : U.data.toList.length = U.size := by simp
      have hcell0 : ∀ j (h : j < U.data.toList.length), (Lib.bytesWorld w2 5 U).cell? ⟨w2.heap.size, j, none⟩ = some (.int .u8 (U.data.toList[j]).toNat) ∧ (Lib.bytesWorld w2 5 U).frozen? ⟨w2.heap.size, j, none⟩ = false := by
        intro j h
        refine ⟨by rw [Lib.bytesWorld_cell _ _ _ _ (by omega), show U.data.toList.getD j 0 = U.data.toList[j] from by rw [List.getD_eq_getElem?_getD, List.getElem?_eq_getElem h]; rfl], ?_⟩
        unfold World.frozen?
        simp only [hr]
        have : j < (Lib.bytesCells w2 5 U).size := by unfold Lib.bytesCells; simp; omega
        simp; omega
      clear hr
      generalize Lib.bytesWorld w2 5 U = W2 at *
      go_loopw [8, 9] (fun tb i wr => ∃ (k : Nat) (T : List UInt8) (b : Bool), k ≤ 32 ∧ a + k ≤ 8 * U.size ∧ i = .int .i64 k ∧ tb = .bool b ∧ Same w wr ∧ W2.heap.size ≤ wr.heap.size ∧ T.length = U.size ∧
          (∀ j (h : j < T.length), wr.cell? ⟨w2.heap.size, j, none⟩ = some (.int .u8 T[j].toNat) ∧ wr.frozen? ⟨w2.heap.size, j, none⟩ = false) ∧
          (∀ p, p < 8 * U.size → bitAt T p = (bitAt U.data.toList p ^^ (decide (a ≤ p ∧ p < a + k) && turn.toNat.testBit (p - a)))) ∧
          (b = true → ∃ j, j < k ∧ turn.toNat.testBit j = true) ∧ (b = false → T = U.data.toList)) (fun _ i _ => 32 - (intOf i).toNat)
      case atStart => exact ⟨0, U.data.toList, false, by omega, by omega, rfl, rfl, hS, Nat.le_refl _, hlen0, hcell0, fun p hp => by simp [show ¬ (a ≤ p ∧ p < a) by omega], fun h => (by cases h), fun _ => rfl⟩
      case round =>
        obtain ⟨k, T, b, hk, hak, rfl, rfl, hSr, hWr, hTl, hc, hbits, hb1', hb0'⟩ := hrel
        have HC := Lib.hid hc; have HB := Lib.hid hbits; have H1 := Lib.hid hb1'; have H0 := Lib.hid hb0'; have HT := Lib.hid hTl
        clear hc hbits hb1' hb0' hTl hcell0
        by_cases hin : k < 32 ∧ a + k < 8 * U.size
        · obtain ⟨h32, hlt⟩ := hin
          have htst : ((turn / 2 ^ k).tmod 2 == 1) = turn.toNat.testBit k := by
            obtain ⟨n, rfl⟩ := Int.eq_ofNat_of_zero_le ht.1
            rw [Int.toNat_natCast, Nat.testBit_eq_decide_div_mod_eq]
            have : ((n : Int) / 2 ^ k) = ((n / 2 ^ k : Nat) : Int) := by simp
            rw [this, Int.tmod_eq_emod_of_nonneg (Int.natCast_nonneg _), Bool.eq_iff_iff]
            simp only [beq_iff_eq, decide_eq_true_eq]
            omega
          by_cases hbit : turn.toNat.testBit k = true
          · have hj : (a + k) / 8 < T.length := by rw [HT.out]; omega
            obtain ⟨hcj, hfj⟩ := HC.out _ hj
            rw [hbit] at htst
            have HB2 := Lib.hid hbit
            clear hbit
            go_wp2_with fail
            rw [flip_val _ _ (by omega)]
            have hset : ∀ j (h : j < (T.set ((a + k) / 8) (flip8 T[(a + k) / 8] ((a + k) % 8))).length),
                (wr.setCell ⟨w2.heap.size, (a + k) / 8, none⟩ (.int .u8 (flip8 T[(a + k) / 8] ((a + k) % 8)).toNat)).cell? ⟨w2.heap.size, j, none⟩ = some (.int .u8 ((T.set ((a + k) / 8) (flip8 T[(a + k) / 8] ((a + k) % 8)))[j]).toNat) ∧
                (wr.setCell ⟨w2.heap.size, (a + k) / 8, none⟩ (.int .u8 (flip8 T[(a + k) / 8] ((a + k) % 8)).toNat)).frozen? ⟨w2.heap.size, j, none⟩ = false := by
              intro j h
              have hjl : j < T.length := by simpa using h
              refine ⟨?_, by rw [World.frozen?_setCell]; exact (HC.out j hjl).2⟩
              by_cases e : j = (a + k) / 8
              · subst e
                rw [World.cell?_setCell_same _ _ _ hcj]
                simp
              · rw [World.cell?_setCell_other _ _ _ _ (by intro h; injection h; omega), (HC.out j hjl).1]
                simp [List.getElem_set, show ¬ (a + k) / 8 = j by omega]
            refine ⟨⟨k + 1, T.set ((a + k) / 8) (flip8 T[(a + k) / 8] ((a + k) % 8)), true, by omega, by omega, by go_num, rfl, hSr.setCell (fun h => absurd h (by show ¬ w2.heap.size < w.heap.size; omega)) _, by simpa using hWr, by simpa using HT.out, hset, fun p hp => ?_, fun _ => ⟨k, by omega, HB2.out⟩, fun h => (by cases h)⟩, by simp [intOf]; omega⟩
            rw [flip_bits T (a + k) p hj (by rw [HT.out]; exact hp), HB.out p hp]
            by_cases e : p = a + k
            · subst e
              have := HB2.out
              simp [this]
            · have e2 : decide (a ≤ p ∧ p < a + (k + 1)) = decide (a ≤ p ∧ p < a + k) := by rw [decide_eq_decide]; omega
              rw [e2]
              simp [e]
          · rw [Bool.not_eq_true] at hbit
            rw [hbit] at htst
            have HB2 := Lib.hid hbit
            clear hbit
            go_wp2_with fail
            refine ⟨⟨k + 1, T, b, by omega, by omega, by go_num, rfl, hSr, hWr, HT.out, HC.out, fun p hp => ?_, fun hb => ?_, H0.out⟩, by simp [intOf]; omega⟩
            · rw [HB.out p hp]
              by_cases e : p = a + k
              · subst e
                have := HB2.out
                simp [this]
              · congr 2
                rw [decide_eq_decide]
                omega
            · obtain ⟨j, h1, h2⟩ := H1.out hb
              exact ⟨j, by omega, h2⟩
        · have htest : (decide ((k : Int) < 32) && decide ((a : Int) + k < 8 * U.size)) = false := by
            rw [Bool.and_eq_false_iff, decide_eq_false_iff_not, decide_eq_false_iff_not]; omega
          have hxs : (T.map fun x => (x.toNat : Int)).length = U.size := by simpa using HT.out
          have hst := run_convert_bytes_arg (P := Try.prog) wr 39 5 Try.underlying39 Try.underlying5 w2.heap.size 0 U.size (grownCap w2 U.size 0 5) (T.map fun x => (x.toNat : Int)) hxs (fun i hi => by
            have hi' : i < T.length := by rw [HT.out]; exact hi
            rw [Nat.zero_add, (HC.out i hi').1]
            simp [List.getD, hi']) 9 Try.underlying9
          rw [strOfNums_u8] at hst
          have hop : ((⟨T.toArray⟩ : ByteArray)).size ≤ maxLen := by
            have := HT.out
            simp only [ByteArray.size, List.size_toArray]
            unfold maxLen; omega
          clear hxs hcv
          have hvals : (b = true → openOf ⟨T.toArray⟩ = (⟨#[]⟩, 8)) ∧ (b = false → openOf ⟨T.toArray⟩ = (s, 0)) := by
            have hU := HU.out
            constructor
            · intro hb
              subst hU
              exact openOf_burst s T a k turn.toNat hk (by rw [HT.out]; simp) (by simpa using hak) (fun p hp => HB.out p (by simpa using hp)) (H1.out hb)
            · intro hb
              rw [H0.out hb, ← hU]
              exact openOf_seal s
          have HV := Lib.hid hvals
          clear hvals
          cases b with
          | true =>
            go_wp2_with (go_at_call 17; refine (open_any _ _ hop).mono ?_; rw [HV.out.1 rfl]; rintro e w3 ⟨rfl, hS3⟩)
            all_goals (go_ret; exact ⟨rfl, hSr.then hS3⟩)
          | false =>
            go_wp2_with (go_at_call 17; refine (open_any _ _ hop).mono ?_; rw [HV.out.2 rfl]; rintro e w3 ⟨rfl, hS3⟩)
            all_goals (go_ret; exact ⟨rfl, hSr.then hS3⟩)
end Go.Proofs.Ytafhgpknffkjmaa
