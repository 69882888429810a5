import Derived.Test.YtjegohibpojneaaPostAwake
import Derived.Test.YtjegohibpojneaaPostRow
set_option linter.unusedVariables false
set_option linter.unusedSimpArgs false
namespace Go.Proofs.Ytjegohibpojneaa
open Go.RowKit
attribute [local go_sem ↓] Go.wp_at_zero Go.wp_at_succ

theorem atP_in (l : List (Int × Int)) (a : Nat) (h : a < l.length) : atP l a = l[a] := by
  unfold atP
  rw [List.getD_eq_getElem?_getD, List.getElem?_eq_getElem h]
  rfl
theorem atP_past (l : List (Int × Int)) (a : Nat) (h : l.length ≤ a) : atP l a = (0, 0) := by
  unfold atP
  rw [List.getD_eq_getElem?_getD, List.getElem?_eq_none h]
  rfl
/-- The block of a post that is there. -/
theorem blockP_own (l : List (Int × Int)) (h : RightP l) (k : Nat) (hk : k < l.length) : l[k].2 ≤ (blockP l l[k].1).1 ∧ (blockP l l[k].1).1 ≤ maxP l ∧ l[k].1 ≤ (blockP l l[k].1).2 := by
  have hf : findP l l[k].1 = k / 4 := by
    refine findP_is l _ _ (by unfold nbP; omega) (fun j hj => ?_) (fun _ => ?_)
    · have := docs_lt l h (min (4 * j + 4) l.length - 1) k (by omega) hk
      rw [docsP_get l k hk] at this
      exact this
    · have := docs_le l h k (min (4 * (k / 4) + 4) l.length - 1) (by omega) (by omega)
      rw [docsP_get l k hk] at this
      exact this
  have hb : blockP l l[k].1 = blkP l (k / 4) := by unfold blockP; rw [hf, if_pos (by unfold nbP; omega)]
  rw [hb]
  unfold blkP
  have hlen : k - 4 * (k / 4) < (chunkP l (k / 4)).length := by rw [chunkP_len]; omega
  have hget := chunkP_get l (k / 4) (k - 4 * (k / 4)) hlen
  have hmem : l[k] ∈ chunkP l (k / 4) := by
    have h2 : (chunkP l (k / 4))[k - 4 * (k / 4)] = l[k] := by
      rw [hget]
      congr 1
      omega
    rw [← h2]
    exact List.getElem_mem hlen
  refine ⟨maxP_ge _ _ hmem, ?_, ?_⟩
  · refine maxP_le _ _ (maxP_nonneg l) (fun p hp => maxP_ge l p ?_)
    unfold chunkP at hp
    exact List.mem_of_mem_drop (List.mem_of_mem_take hp)
  · have := docs_le l h k (min (4 * (k / 4) + 4) l.length - 1) (by omega) (by omega)
    rw [docsP_get l k hk] at this
    exact this
set_option maxRecDepth 100000 in
set_option maxHeartbeats 8000000 in
theorem postBounds_walk (v0 : Value) (l : List (Int × Int)) (doc : Int) (w : World) (h0 : SlP w v0 l) (hp : ∀ p ∈ l, (-9223372036854775808 ≤ p.1 ∧ p.1 ≤ 9223372036854775807) ∧ (-9223372036854775808 ≤ p.2 ∧ p.2 ≤ 9223372036854775807))
    (hd : (Lit.int .i64 doc).wf = true) :
    Calls Try.prog 7 #[v0, .int .i64 doc] w fun e w' => e = .returned (.bool true) ∧ Same w w' := by
  have hd2 := bounds_i64 hd
  have H0 := Lib.hid h0
  obtain ⟨ad, cp, rfl, hcp, hmx⟩ := h0.lit
  unfold maxLen at hmx
  clear h0 hp hd
  go_enter Try.func7, Try.ntmps7
  go_wp2_with fail
  refine (pawake_any _).mono ?_
  rintro e w1 ⟨rfl, hS1⟩
  have HS1 := Lib.hid hS1
  clear hS1
  by_cases hl : 300 < l.length
  · have hld : (300 : Int) < (l.length : Int) := by omega
    go_wp2_with fail
    go_ret
    exact ⟨rfl, HS1.out⟩
  have hld : ¬ (300 : Int) < (l.length : Int) := by omega
  go_wp2_with fail
  refine (build_any _ l _ (H0.out.same HS1.out) (by omega)).mono ?_
  rintro e w3 ⟨hS3, ⟨hr, b, rfl, hL⟩ | ⟨hr, rfl⟩⟩
  rotate_left
  · have HS3 := Lib.hid (HS1.out.then hS3)
    clear hS3 hr
    go_wp2_with fail
    go_ret
    exact ⟨rfl, HS3.out⟩
  have HS3 := Lib.hid (HS1.out.then hS3); have HL := Lib.hid hL.low; have HR := Lib.hid ((rightB_iff l).1 hr)
  have hz3 := HS3.out.size
  clear hS3 hL hr HS1
  go_wp2_with fail
  refine (cursor05_any b w3.heap.size l _ HL.out (Nat.le_refl _)).mono ?_
  rintro e w4 ⟨rfl, hS4, hC4⟩
  obtain ⟨c, hc⟩ : ∃ c, c = w3.heap.size := ⟨_, rfl⟩
  rw [← hc] at hC4 ⊢
  have hcw : w.heap.size ≤ c := by omega
  have hlt4 := heap_lt hC4.1
  have HC4 := Lib.hid hC4; have HS4 := Lib.hid (HS3.out.then hS4)
  clear hS4 hC4 hc HS3 HL hz3
  go_wp2_with fail
  refine (cursor05_any b c l _ HC4.out.2.2.2 (by omega)).mono ?_
  rintro e w5 ⟨rfl, hS5, hD5⟩
  obtain ⟨d, hdd⟩ : ∃ c, c = w4.heap.size := ⟨_, rfl⟩
  rw [← hdd] at hD5 ⊢
  have hcd : c < d := by omega
  have HC5 := Lib.hid (HC4.out.same hS5); have HD5 := Lib.hid hD5; have HS5 := Lib.hid (HS4.out.then hS5)
  clear hS5 hD5 hdd HS4 HC4 hlt4
  go_wp2_with fail
  refine (seek05_any c b 0 _ l doc _ HC5.out HR.out (by omega) hd2).mono ?_
  rintro e w6 ⟨rfl, hO6, hC6⟩
  have hD6 : CurAt w6 d b 0 l c := HD5.out.only hO6 (fun k hk => by have h2 : k = c := hk; omega)
  have HC6 := Lib.hid hC6; have HD6 := Lib.hid hD6
  have HF6 := Lib.hid ((HS5.out.mono (S' := fun g => w.heap.size ≤ g) (fun k _ h => h.elim)).same (hO6.mono (S' := fun g => w.heap.size ≤ g) (fun g _ h => by have h2 : g = c := h; omega)))
  obtain ⟨s, hs⟩ : ∃ s, s = seekP l 0 doc := ⟨_, rfl⟩
  rw [← hs] at HC6
  have HS := Lib.hid hs
  have hsl : s ≤ l.length := by have := seekP_le l 0 doc (Nat.zero_le _); omega
  clear hO6 hC6 hD6 HS5 HC5 HD5 hs
  go_wp2_with fail
  go_loopw [9] (fun i wr => ∃ (k a : Nat), k ≤ l.length + 1 ∧ i = .int .i64 k ∧ Only (fun g => w.heap.size ≤ g) w wr ∧ CurAt wr c b s l c ∧ CurAt wr d b a l c ∧ seekP l a doc = s ∧ (a = k ∨ a = s)) (fun i _ => l.length + 1 - (intOf i).toNat)
  case atStart => exact ⟨0, 0, by omega, rfl, HF6.out, HC6.out, HD6.out, HS.out.symm, .inl rfl⟩
  case round =>
    obtain ⟨k, a, hk, rfl, hF, hC, hD, hsa, hak⟩ := hrel
    have HF := Lib.hid hF; have HC := Lib.hid hC; have HD := Lib.hid hD; have HSA := Lib.hid hsa; have HAK := Lib.hid hak
    have hale : a ≤ l.length := hD.2.1
    clear hF hC hD HF6 HC6 HD6 hsa hak HS
    by_cases hkl : k ≤ l.length
    · have hkd : ¬ (l.length : Int) < (k : Int) := by omega
      go_wp2_with fail
      refine (at05_any d b a _ l _ HD.out (by omega)).mono ?_
      rintro e w7 ⟨rfl, hS7⟩
      by_cases hin : a < l.length
      · rw [atP_in l a hin, decide_eq_true hin]
        unfold pairV
        have hB := blk_new w7 (.cells #[.int .i64 l[a].1, .int .i64 l[a].2] 77)
        have hSa : Same w7 (w7.alloc (.cells #[.int .i64 l[a].1, .int .i64 l[a].2] 77)) := (Only.refl _ w7).alloc _
        go_upto_region 14 with fail
        generalize w7.alloc (.cells #[.int .i64 l[a].1, .int .i64 l[a].2] 77) = W7 at *
        have HF7 := Lib.hid ((HF.out.then hS7).then hSa); have HC7 := Lib.hid ((HC.out.same hS7).same hSa); have HD7 := Lib.hid ((HD.out.same hS7).same hSa)
        obtain ⟨m0, m1, _, _⟩ := two_facts hB
        clear hB hSa hS7 HF HC HD
        by_cases hlt : l[a].1 < doc
        · have hst := seekP_step l a doc hin hlt
          have HSA2 := Lib.hid (hst.symm.trans HSA.out)
          have hae : a = k := by
            rcases HAK.out with h | h
            · exact h
            · have := seekP_le l (a + 1) doc (by omega)
              have := HSA2.out
              omega
          have HAE := Lib.hid hae
          have hdt : decide (l[a].1 < doc) = true := decide_eq_true hlt
          generalize l[a].1 = x at *
          clear hst hae
          go_wp2_with fail
          refine (next05_any d b a _ l _ HD7.out (by omega)).mono ?_
          rintro e w8 ⟨rfl, hO8, hD8⟩
          rw [show min (a + 1) l.length = a + 1 by omega] at hD8
          have HD8 := Lib.hid hD8
          have HC8 := Lib.hid (HC7.out.only hO8 (fun g hg => by have h2 : g = d := hg; omega))
          have HF8 := Lib.hid (HF7.out.same (hO8.mono (S' := fun g => w.heap.size ≤ g) (fun g _ h => by have h2 : g = d := h; omega)))
          clear hO8 hD8
          go_wp2_with fail
          go_roundw
          case rel => exact ⟨k + 1, a + 1, by omega, by go_num, HF8.out, HC8.out, HD8.out, HSA2.out, .inl (by have := HAE.out; omega)⟩
          case measure => simp [intOf]; omega
        · have hst := seekP_stop l a doc hin hlt
          have HAS := Lib.hid (hst.symm.trans HSA.out)
          have hdt : decide (l[a].1 < doc) = false := decide_eq_false hlt
          generalize l[a].1 = x at *
          clear hst
          go_wp2_with fail
          go_roundw
          case rel => exact ⟨k + 1, a, by omega, by go_num, HF7.out, HC7.out, HD7.out, HSA.out, .inr HAS.out⟩
          case measure => simp [intOf]; omega
      · rw [atP_past l a (by omega), decide_eq_false hin]
        unfold pairV
        have HAS := Lib.hid ((seekP_end l a doc (by omega)).symm.trans HSA.out)
        have hSa : Same w7 (w7.alloc (.cells #[.int .i64 0, .int .i64 0] 77)) := (Only.refl _ w7).alloc _
        go_upto_region 14 with fail
        generalize w7.alloc (.cells #[.int .i64 0, .int .i64 0] 77) = W7 at *
        have HF7 := Lib.hid ((HF.out.then hS7).then hSa); have HC7 := Lib.hid ((HC.out.same hS7).same hSa); have HD7 := Lib.hid ((HD.out.same hS7).same hSa)
        clear hSa hS7 HF HC HD
        go_wp2_with fail
        go_roundw
        case rel => exact ⟨k + 1, a, by omega, by go_num, HF7.out, HC7.out, HD7.out, HSA.out, .inr HAS.out⟩
        case measure => simp [intOf]; omega
    · have hkd : (l.length : Int) < (k : Int) := by omega
      obtain rfl : a = s := by
        rcases HAK.out with h | h
        · omega
        · exact h
      clear HSA HAK
      go_wp2_with fail
      refine (at05_any c b a _ l _ HC.out (by omega)).mono ?_
      rintro e w7 ⟨rfl, hS7⟩
      obtain ⟨q, hq⟩ : ∃ q, q = atP l a := ⟨_, rfl⟩
      rw [← hq]
      obtain ⟨ok, hok⟩ : ∃ q, q = decide (a < l.length) := ⟨_, rfl⟩
      rw [← hok]
      unfold pairV
      have HQ := Lib.hid hq; have HOK := Lib.hid hok
      clear hq hok
      have hB := blk_new w7 (.cells #[.int .i64 q.1, .int .i64 q.2] 77)
      have hSa : Same w7 (w7.alloc (.cells #[.int .i64 q.1, .int .i64 q.2] 77)) := (Only.refl _ w7).alloc _
      go_upto_region 17 with fail
      generalize w7.alloc (.cells #[.int .i64 q.1, .int .i64 q.2] 77) = W7 at *
      have HF7 := Lib.hid ((HF.out.then hS7).then hSa); have HC7 := Lib.hid ((HC.out.same hS7).same hSa); have HD7 := Lib.hid ((HD.out.same hS7).same hSa); have HB7 := Lib.hid hB
      clear hB hSa hS7 HF HC HD
      go_wp2_with fail
      refine (at05_any d b a _ l _ HD7.out (by omega)).mono ?_
      rintro e w8 ⟨rfl, hS8⟩
      rw [← HQ.out, ← HOK.out]
      unfold pairV
      have hB := blk_new w8 (.cells #[.int .i64 q.1, .int .i64 q.2] 77)
      have hSa : Same w8 (w8.alloc (.cells #[.int .i64 q.1, .int .i64 q.2] 77)) := (Only.refl _ w8).alloc _
      go_upto_region 18 with fail
      generalize w8.alloc (.cells #[.int .i64 q.1, .int .i64 q.2] 77) = W8 at *
      obtain ⟨m0, m1, _, _⟩ := two_facts hB
      obtain ⟨n0, n1, _, _⟩ := two_facts (hSa.heap (hS8.heap HB7.out (fun h => h)) (fun h => h))
      have HF8 := Lib.hid ((HF7.out.then hS8).then hSa); have HC8 := Lib.hid ((HC7.out.same hS8).same hSa)
      clear hB hSa hS8 HF7 HC7 HD7 HB7
      go_wp2_with fail
      clear m0 m1 n0 n1
      go_loopw [16] (fun i wr => ∃ (k : Nat), k ≤ l.length ∧ i = .int .i64 k ∧ Only (fun g => w.heap.size ≤ g) w wr ∧ CurAt wr c b a l c) (fun i _ => l.length - (intOf i).toNat)
      case atStart => exact ⟨0, by omega, rfl, HF8.out, HC8.out⟩
      case round =>
        obtain ⟨j, hj, rfl, hF, hC⟩ := hrel
        have HF := Lib.hid hF; have HC := Lib.hid hC
        clear hF hC HF8 HC8
        by_cases hjl : j < l.length
        · obtain ⟨pb, poff, hpa, hpc⟩ := H0.out.spot (by omega)
          subst hpa
          have hpw : pb < w.heap.size := by have := World.block_lt_of_cell? w _ (hpc j hjl).1; simpa using this
          have j0 := HF.out.cell_eq (hpc j hjl).1 (fun h => by omega)
          obtain ⟨t1, t2, t3⟩ := blockP_own l HR.out j hjl
          have hrg := HR.out.rng l[j] (List.getElem_mem hjl)
          have CB := Lib.hid (fun w0 (hc : CurAt w0 c b a l c) => cblock_any c b a _ l l[j].1 w0 hc HR.out (by omega) (by omega))
          have HPC := Lib.hid (hpc j hjl)
          generalize blockP l l[j].1 = bp at *
          generalize l[j] = p at *
          clear hpc
          have T1 : decide (bp.1 < p.2) = false := decide_eq_false (by omega)
          have T2 : decide (maxP l < bp.1) = false := decide_eq_false (by omega)
          have T3 : decide (bp.2 < p.1) = false := decide_eq_false (by omega)
          go_wp2_with fail
          refine (CB.out _ HC.out).mono ?_
          rintro e w9 ⟨rfl, hS9⟩
          have HF9 := Lib.hid (HF.out.then hS9); have HC9 := Lib.hid (HC.out.same hS9)
          have j1 := HF9.out.cell_eq HPC.out.2 (fun h => by omega)
          clear hS9 HF HC j0 CB
          go_wp2_with fail
          refine (max05_any b l _ HC9.out.2.2.2.list).mono ?_
          rintro e wa ⟨rfl, hSa⟩
          have HFa := Lib.hid (HF9.out.then hSa); have HCa := Lib.hid (HC9.out.same hSa)
          have j2 := HFa.out.cell_eq HPC.out.1 (fun h => by omega)
          clear hSa HF9 HC9 j1
          go_wp2_with fail
          go_roundw
          case rel => exact ⟨j + 1, by omega, by go_num, HFa.out, HCa.out⟩
          case measure => simp [intOf]; omega
        · obtain rfl : j = l.length := by omega
          have HLb := Lib.hid HC.out.2.2.2.list
          have hpl := printP_len l HR.out (by omega)
          have hpr := parsePs_print l HR.out (by omega)
          go_wp2_with fail
          refine (print05_any b l _ HLb.out HR.out (by omega)).mono ?_
          rintro e w9 ⟨rfl, hS9⟩
          generalize printP l = P at *
          have HPR := Lib.hid hpr
          clear hpr
          go_wp2_with fail
          refine (parse05_any P _ (by omega)).mono ?_
          rw [HPR.out]
          rintro e wc ⟨hSc, ⟨hf, _⟩ | ⟨l2, b2, hl2, -, -, rfl, -, hL2⟩⟩
          · cases hf
          obtain rfl : l = l2 := by simpa using hl2
          have HFc := Lib.hid ((HF.out.then hS9).then hSc); have HLc := Lib.hid ((HLb.out.same hS9).same hSc); have HL2 := Lib.hid hL2
          have HV := Lib.hid (SlP.only H0.out HFc.out (fun g h => h))
          clear hS9 hSc hl2 hL2 HF HC HLb
          go_wp2_with fail
          refine (posts05_any b2 l _ HL2.out (by omega)).mono ?_
          rintro e wd ⟨v1, rfl, hSd, hV1⟩
          go_wp2_with fail
          refine (rsame05_any _ _ l l _ hV1 (HV.out.same hSd)).mono ?_
          rintro e we ⟨rfl, hSe⟩
          rw [decide_eq_true (rfl : l = l)]
          have HSe := Lib.hid (hSd.then hSe)
          clear hSd hSe hV1
          go_wp2_with fail
          refine (max05_any b2 l _ (HL2.out.same HSe.out)).mono ?_
          rintro e wf ⟨rfl, hSf⟩
          go_wp2_with fail
          refine (max05_any b l _ ((HLc.out.same HSe.out).same hSf)).mono ?_
          rintro e wg ⟨rfl, hSg⟩
          have HSg := Lib.hid ((HSe.out.then hSf).then hSg)
          clear hSf hSg
          go_wp2_with fail
          refine (blocks05_any b2 l _ (HL2.out.same HSg.out)).mono ?_
          rintro e wh ⟨rfl, hSh⟩
          go_wp2_with fail
          refine (blocks05_any b l _ ((HLc.out.same HSg.out).same hSh)).mono ?_
          rintro e wi ⟨rfl, hSi⟩
          go_wp2_with fail
          go_ret
          exact ⟨rfl, (Only.refl (fun _ => False) w).trans (((HFc.out.then HSg.out).then hSh).then hSi) (fun g h1 h2 => by omega)⟩
end Go.Proofs.Ytjegohibpojneaa
