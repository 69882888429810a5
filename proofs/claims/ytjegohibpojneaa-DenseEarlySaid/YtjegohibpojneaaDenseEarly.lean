import Derived.Test.YtjegohibpojneaaDenseTells
set_option linter.unusedVariables false
set_option linter.unusedSimpArgs false
namespace Go.Proofs.Ytjegohibpojneaa
open Go.RowKit
attribute [local go_sem ↓] Go.wp_at_zero Go.wp_at_succ

theorem bestP_min (k : Int) (l : List (Int × Int)) : (bestP k l).length = min k.toNat l.length := by unfold bestP; rw [List.length_take, sortP_len]
theorem dfind_err (m : Int) (q : List Int) (l : List RowP) (k : Int) (P : Int → Bool) (h : (dfindP m q l k P).2 ≠ 0) : (dfindP m q l k P).1 = [] := by
  unfold dfindP at h ⊢
  split
  · rfl
  · rename_i h1
    rw [if_neg h1] at h
    split
    · rfl
    · rename_i h2
      rw [if_neg h2] at h
      exact absurd rfl h
theorem dfind_ok (m : Int) (q : List Int) (l : List RowP) (k : Int) (P : Int → Bool) (h : (dfindP m q l k P).2 = 0) : (dfindP m q l k P).1 = bestP k (offsP m q P l) ∧ 0 ≤ m ∧ m ≤ 1 ∧ 1 ≤ k ∧ vecB q = true ∧ riseB l l.length = true := by
  unfold dfindP at h ⊢
  split
  · rename_i h1
    rw [if_pos h1] at h
    exact absurd h (by decide)
  · rename_i h1
    rw [if_neg h1] at h
    split
    · rename_i h2
      rw [if_pos h2] at h
      exact absurd h (by decide)
    · rename_i h2
      have h3 : (vecB q && riseB l l.length) = true := by cases hc : (vecB q && riseB l l.length); exact absurd hc h2; rfl
      rw [Bool.and_eq_true] at h3
      exact ⟨rfl, by omega, by omega, by omega, h3.1, h3.2⟩
/-- Each that is found has its score. -/
theorem found_score (m : Int) (q : List Int) (l : List RowP) (k : Int) (P : Int → Bool) (h : (dfindP m q l k P).2 = 0) (i j : Nat) (hi : i < (dfindP m q l k P).1.length) (hj : j < l.length) (he : l[j].1 = (dfindP m q l k P).1[i].1) :
    (scoreP m q l[j].2).1 = (dfindP m q l k P).1[i].2 := by
  obtain ⟨h1, h2, h3, h4, h5, h6⟩ := dfind_ok m q l k P h
  have hmem : (dfindP m q l k P).1[i] ∈ offsP m q P l := by
    have : (dfindP m q l k P).1[i] ∈ bestP k (offsP m q P l) := by rw [← h1]; exact List.getElem_mem hi
    exact (sortP_perm _).mem_iff.1 (List.mem_of_mem_take this)
  unfold offsP at hmem
  obtain ⟨r, hr, e⟩ := List.mem_map.1 hmem
  obtain ⟨j', hj', rfl⟩ := List.mem_iff_getElem.1 (List.mem_filter.1 hr).1
  have e1 : l[j'].1 = l[j].1 := by rw [he, ← e]
  have ej : j' = j := by
    rcases Nat.lt_trichotomy j' j with h | h | h
    · have := rise_lt h6 j' j h hj; rw [getD_row l j' hj', getD_row l j hj] at this; omega
    · exact h
    · have := rise_lt h6 j j' h hj'; rw [getD_row l j' hj', getD_row l j hj] at this; omega
  subst ej
  obtain ⟨_, _, g3, g4⟩ := rise_at h6 j' hj
  have hv := (rise_row _ h6 j' hj).1
  rw [getD_row l j' hj] at hv
  unfold rowB at hv
  simp only [Bool.and_eq_true] at hv
  rw [← e]
  unfold scoreP
  rw [if_neg (by omega), h5, hv.2]
  rfl
set_option maxRecDepth 100000 in
set_option maxHeartbeats 8000000 in
theorem denseEarly_walk (m : Int) (vq : Value) (q : List Int) (vr : Value) (l : List RowP) (k : Int) (vn : Value) (no : List Int) (w : World)
    (hm : (Lit.int .i64 m).wf = true) (hq : Sl w (.int .i64) vq q) (zq : ∀ x ∈ q, i64b x) (hr : SlR w vr l) (zr : ∀ p ∈ l, i64b p.1 ∧ ∀ x ∈ p.2, i64b x) (hk : (Lit.int .i64 k).wf = true) (hn : Sl w (.int .i64) vn no) (zn : ∀ x ∈ no, i64b x) :
    Calls Try.prog 13 #[.int .i64 m, vq, vr, .int .i64 k, vn] w fun e w' => e = .returned (.bool true) ∧ Same w w' := by
  have HQ := Lib.hid hq; have HR := Lib.hid hr; have HN := Lib.hid hn; have ZQ := Lib.hid zq; have ZR := Lib.hid zr
  have CF := Lib.hid (fun w0 (h : Same w w0) => fewr_any vr l w0 (hr.same h))
  obtain ⟨a1, c1, rfl, hc1, hm1, _, _⟩ := hq
  obtain ⟨a3, c3, rfl, hc3, hm3⟩ := hr.lit
  obtain ⟨a4, c4, rfl, hc4, hm4, _, _⟩ := hn
  unfold maxLen at hm1 hm3 hm4
  clear zq zr zn hr
  by_cases h1 : 20 < q.length
  · have hd : decide ((20 : Int) < (q.length : Int)) = true := decide_eq_true (by omega)
    have hd2 : decide (20 < q.length) = true := decide_eq_true h1
    clear h1
    go_enter Try.func13, Try.ntmps13
    go_wp2_with fail
    refine (vawake_any w).mono ?_
    rintro e w1 ⟨rfl, hS1⟩
    go_wp2_with fail
    go_ret
    exact ⟨rfl, hS1⟩
  have hd : decide ((20 : Int) < (q.length : Int)) = false := decide_eq_false (by omega)
  have hd2 : decide (20 < q.length) = false := decide_eq_false h1
  cases hf : decide (fewR l) with
  | false =>
    rw [hf] at CF
    clear h1 hf
    go_enter Try.func13, Try.ntmps13
    go_wp2_with fail
    refine (vawake_any w).mono ?_
    rintro e w1 ⟨rfl, hS1⟩
    go_wp2_with fail
    refine (CF.out _ hS1).mono ?_
    rintro e w2 ⟨rfl, hS2⟩
    go_wp2_with fail
    go_ret
    exact ⟨rfl, hS1.then hS2⟩
  | true =>
  rw [hf] at CF
  have hfw : fewR l := of_decide_eq_true hf
  by_cases h4 : 40 < no.length
  · have hd5 : decide ((40 : Int) < (no.length : Int)) = true := decide_eq_true (by omega)
    have hd6 : decide (40 < no.length) = true := decide_eq_true h4
    clear h1 h4 hf hfw
    go_enter Try.func13, Try.ntmps13
    go_wp2_with fail
    refine (vawake_any w).mono ?_
    rintro e w1 ⟨rfl, hS1⟩
    go_wp2_with fail
    refine (CF.out _ hS1).mono ?_
    rintro e w2 ⟨rfl, hS2⟩
    go_wp2_with fail
    go_ret
    exact ⟨rfl, hS1.then hS2⟩
  have hd5 : decide ((40 : Int) < (no.length : Int)) = false := decide_eq_false (by omega)
  have hd6 : decide (40 < no.length) = false := decide_eq_false h4
  have HFW := Lib.hid hfw
  have hl100 : l.length ≤ 100 := hfw.1
  clear h1 h4 hf hfw
  obtain ⟨P, hP⟩ : ∃ P : Int → Bool, P = fun d => decide (d ∉ no) := ⟨_, rfl⟩
  have HB1 : Hid (∀ (x : Int) (c : Nat) (v : Value) (w0 : World), w0.cell? ⟨c, 0, none⟩ = some v → Sl w0 (.int .i64) v no → Calls Try.prog 126 #[.int .i64 x, .pointer (some ⟨c, 0, none⟩)] w0 fun e w' => e = .returned (.bool (P x)) ∧ Same w0 w') :=
    Lib.hid (fun x c v w0 h1 h2 => by rw [hP]; exact but1_any x c v no w0 h1 h2)
  have HERR := Lib.hid (dfind_err m q l k P); have HOK := Lib.hid (dfind_ok m q l k P); have HFS := Lib.hid (found_score m q l k P)
  obtain ⟨f1, f2, hf⟩ : ∃ a b, dfindP m q l k P = (a, b) := ⟨_, _, rfl⟩
  rw [hf] at HERR HOK HFS
  have HF := Lib.hid hf
  have hb3 : (f2 != f2) = false := by simp
  clear hf hP
  go_enter Try.func13, Try.ntmps13
  go_wp2_with fail
  refine (vawake_any w).mono ?_
  rintro e w1 ⟨rfl, hS1⟩
  go_wp2_with fail
  refine (CF.out _ hS1).mono ?_
  rintro e w2 ⟨rfl, hS2⟩
  have HS2 := Lib.hid (hS1.then hS2)
  clear hS1 hS2
  have hc : CntW (w2.alloc (.cells #[.int .i64 0] 137)) w2.heap.size 0 := blk_new _ _
  have hS3 : Same w2 (w2.alloc (.cells #[.int .i64 0] 137)) := (Only.refl _ w2).alloc _
  go_upto_region 6 with fail
  generalize w2.alloc (.cells #[.int .i64 0] 137) = w3 at *
  have HS3 := Lib.hid (HS2.out.then hS3); have HC := Lib.hid hc
  have hcb : w.heap.size ≤ w2.heap.size := HS2.out.size
  have HCB := Lib.hid hcb
  clear hS3 hc hcb
  go_wp2_with fail
  refine (but_any a4 no.length c4 w3).mono ?_
  rintro e w4 ⟨rfl, hw4⟩
  have hS4 : Same w3 w4 := by rw [hw4]; exact (Only.refl _ w3).alloc _
  have hbx : w4.heap[w3.heap.size]? = some (.cells #[.slice a4 no.length c4] 23 (0, 0)) := by rw [hw4]; exact blk_new _ _
  have HBX := Lib.hid hbx
  have HC4 := Lib.hid (HC.out.only hS4 (fun h => h))
  have hlt := heap_lt HC.out
  have HS4 := Lib.hid (HS3.out.then hS4)
  have hup : ∀ w5, Only (· = w2.heap.size) w4 w5 → Same w w5 := fun w5 h => ((HS4.out.mono (S' := (· = w2.heap.size)) (fun _ _ h => h.elim)).same h).mono (fun i hi h => by have := HCB.out; omega)
  have HUP := Lib.hid hup
  have cf := find_any m k (.slice a1 q.length c1) (.slice a3 l.length c3) 126 #[.pointer (some ⟨w3.heap.size, 0, none⟩)] q l P w2.heap.size 0 w4 (fun w5 h => HQ.out.same (hup w5 h)) (fun w5 h => HR.out.same (hup w5 h)) HC4.out ZQ.out ZR.out
    (fun x w5 h5 => HB1.out x w3.heap.size (.slice a4 no.length c4) w5 (blk_cells (h5.heap HBX.out (by omega)) 0) (HN.out.same (hup w5 h5))) enters_but (by omega) (by omega)
  have CFI := Lib.hid cf
  clear hw4 hS4 hbx cf hup hlt HC HS2 HS3
  go_wp2_with fail
  refine CFI.out.mono ?_
  rintro e w5 ⟨v5, t, rfl, hO5, hsp5, hcn5, ht0, ht1⟩
  rw [HF.out] at hsp5 ht0 ht1 ⊢
  simp only [Int.zero_add] at hcn5
  have HS5 := Lib.hid (HUP.out _ hO5); have HSP5 := Lib.hid hsp5; have HCN5 := Lib.hid hcn5; have HT0 := Lib.hid ht0; have HT1 := Lib.hid ht1
  clear hO5 hsp5 hcn5 ht0 ht1 HUP HBX HC4 HS4 CFI
  go_wp2_with fail
  refine (but_any a4 no.length c4 w5).mono ?_
  rintro e w6 ⟨rfl, hw6⟩
  have hS6 : Same w5 w6 := by rw [hw6]; exact (Only.refl _ w5).alloc _
  have hbx : w6.heap[w5.heap.size]? = some (.cells #[.slice a4 no.length c4] 23 (0, 0)) := by rw [hw6]; exact blk_new _ _
  have HBX := Lib.hid hbx
  have HS6 := Lib.hid (HS5.out.then hS6)
  have cf := dfind_any m k _ _ 126 #[.pointer (some ⟨w5.heap.size, 0, none⟩)] q l P w6 (HQ.out.same HS6.out) (HR.out.same HS6.out) ZQ.out ZR.out
    (fun x w7 h7 => HB1.out x w5.heap.size (.slice a4 no.length c4) w7 (blk_cells (h7.heap HBX.out (fun h => h)) 0) (HN.out.same (HS6.out.then h7))) enters_but (by omega)
  have CFI := Lib.hid cf
  have HS56 := Lib.hid hS6
  clear hw6 hbx cf hS6
  go_wp2_with fail
  refine CFI.out.mono ?_
  rintro e w7 ⟨v7, rfl, hS7, hsp7⟩
  rw [HF.out] at hsp7 ⊢
  have HS57 := Lib.hid (HS56.out.then hS7)
  have HS7 := Lib.hid (HS6.out.then hS7); have HSP7 := Lib.hid hsp7
  have HSQ7 := Lib.hid (HSP5.out.same HS57.out); have HCN7 := Lib.hid (HCN5.out.only HS57.out (fun h => h))
  clear hS7 hsp7 HS56 HS57 CFI HBX HS6 HS5 HSP5 HCN5
  have csm := fun w0 (h : Same w7 w0) => rsame04_any v5 v7 f1 f1 w0 (HSQ7.out.same h) (HSP7.out.same h)
  rw [decide_eq_true rfl] at csm
  have CSM := Lib.hid csm
  obtain ⟨a5, c5, hv5, hc5, hm5⟩ := HSQ7.out.lit
  subst hv5
  unfold maxLen at hm5
  clear csm
  go_wp2_with fail
  refine (CSM.out _ (Only.refl _ _)).mono ?_
  rintro e w8 ⟨rfl, hS8⟩
  have HS8 := Lib.hid (HS7.out.then hS8); have HSP8 := Lib.hid (HSQ7.out.same hS8); have HCN8 := Lib.hid (HCN7.out.only hS8 (fun h => h))
  clear hS8 HS7 HSP7 HSQ7 HCN7 CSM
  have ht8 : t ≤ 800 := by
    by_cases h0 : f2 = 0
    · have := HT1.out h0; have := offs_len m q P l; omega
    · have := HT0.out h0; omega
  have CN := Lib.hid (fun w0 (h : Same w8 w0) => numbers_any w2.heap.size (t : Int) w0 (HCN8.out.only h (fun h => h)) (by omega))
  by_cases h0 : f2 = 0
  rotate_left
  · have hbe : (f2 != 0) = true := by simpa using h0
    obtain rfl : t = 0 := HT0.out h0
    obtain rfl : f1 = [] := HERR.out h0
    clear h0
    go_wp2_with fail
    refine (CN.out _ (Only.refl _ _)).mono ?_
    rintro e w9 ⟨rfl, rfl⟩
    go_wp2_with fail
    go_ret
    exact ⟨rfl, HS8.out⟩
  · have hbe : (f2 != 0) = false := by simpa using h0
    obtain ⟨g1, g2, g3, g4, g5, g6⟩ := HOK.out h0
    obtain ⟨t1, t2⟩ := HT1.out h0
    have hfl : (f1.length : Int) = min k ((offsP m q P l).length : Int) := by
      have h3 := congrArg List.length g1
      rw [bestP_min] at h3
      omega
    have hfs := HFS.out h0
    have HFL := Lib.hid hfl; have HFT := Lib.hid (And.intro t1 t2); have HFX := Lib.hid hfs; have HK1 := Lib.hid g4
    clear g1 g2 g3 g4 g5 g6 t1 t2 hfl hfs HERR HOK HFS HT0 HT1
    go_wp2_with fail
    go_loopw [16, 17] (fun c i wr => ∃ r : Nat, r ≤ l.length ∧ i = .int .i64 r ∧ c = .int .i64 ((offsP m q P (l.take r)).length : Int) ∧ Same w8 wr) (fun _ i _ => l.length - (intOf i).toNat)
    case atStart => exact ⟨0, by omega, rfl, rfl, Only.refl _ _⟩
    case round =>
      obtain ⟨r, hr, rfl, rfl, hS⟩ := hrel
      obtain ⟨w9, hw9⟩ : ∃ x, x = wr := ⟨_, rfl⟩
      subst hw9
      have HS := Lib.hid hS
      clear hS
      by_cases hlt : r < l.length
      · obtain ⟨b1, o1, rfl, hcell⟩ := HR.out.spot (by omega)
        have k1 := (HS8.out.then HS.out).cell_eq (hcell r hlt).1 (fun h => h)
        have hst : l.take (r + 1) = l.take r ++ [l[r]] := (List.take_append_getElem hlt).symm
        have hos := offs_snoc m q P (l.take r) l[r]
        rw [← hst] at hos
        have hol := offs_len m q P (l.take r)
        have hol2 := List.length_take_le r l
        obtain ⟨doc, hdoc⟩ : ∃ d, d = l[r].1 := ⟨_, rfl⟩
        rw [← hdoc] at k1 hos
        have HOS := Lib.hid (congrArg List.length hos)
        have hd7 : decide ((r : Int) < (l.length : Int)) = true := decide_eq_true (by omega)
        have hd8 : decide (r < l.length) = true := decide_eq_true hlt
        have hw6 : IntKind.i64.wrap ((r : Int) + 1) = (r : Int) + 1 := wrapS (by omega)
        have hw7 : IntKind.i64.wrap (((offsP m q P (l.take r)).length : Int) + 1) = ((offsP m q P (l.take r)).length : Int) + 1 := wrapS (by omega)
        generalize hnn : (offsP m q P (l.take r)).length = nn at *
        have hKK : ∀ w', Same w9 w' → w'.cell? ⟨b1, o1 + r * 2, none⟩ = some (.int .i64 doc) := fun w' h => h.cell_eq k1 (fun h => h)
        have HK := Lib.hid hKK
        have q0 : Same w9 w9 := Only.refl _ _
        have HNN := Lib.hid hnn
        clear hcell hst hos hol hol2 hdoc hKK hnn
        go_upto_region 16 with fail
        go_region_held3 (fun w' => w'.cell? ⟨b1, o1 + r * 2, none⟩ = some (.int .i64 doc))
          (first | exact HK.out _ q0 | exact HK.out _ q0.drew)
          (first
            | ((go_at_call 74; refine (but_any a4 no.length c4 _).mono ?_; rintro e w10 ⟨rfl, hw10⟩; have q0 : Same w9 w10 := (by rw [hw10]; first | exact (Only.refl _ _).alloc _ | exact ((Only.refl _ _).drew).alloc _); have HBX : Hid (w10.heap[w9.heap.size]? = some (.cells #[.slice a4 no.length c4] 23 (0, 0))) := Lib.hid (by rw [hw10]; exact blk_new _ _); clear hw10))
            | ((go_at_call 126; refine (HB1.out doc w9.heap.size (.slice a4 no.length c4) _ (blk_cells HBX.out 0) (HN.out.same (HS8.out.then (HS.out.then (by first | exact q0 | exact q0.drew))))).mono ?_; rintro e w11 ⟨rfl, hS11⟩; have q0 := Only.then (by first | exact q0 | exact q0.drew) hS11; clear hS11)))
        all_goals
          have HQ0 := Lib.hid (by first | exact HS.out.then q0 | exact HS.out.then q0.drew)
          cases hP : P doc with
          | false =>
            have HE : Hid ((offsP m q P (l.take (r + 1))).length = nn) := Lib.hid (by rw [HOS.out, hP, ← HNN.out]; simp)
            clear hP
            go_wp2_with fail
            go_roundw
            case rel => exact ⟨r + 1, by omega, by go_num, by rw [HE.out], HQ0.out⟩
            case measure => simp [intOf]; omega
          | true =>
            have HE : Hid ((offsP m q P (l.take (r + 1))).length = nn + 1) := Lib.hid (by rw [HOS.out, hP, ← HNN.out]; simp)
            clear hP
            go_wp2_with fail
            go_roundw
            case rel => exact ⟨r + 1, by omega, by go_num, by rw [HE.out]; go_num, HQ0.out⟩
            case measure => simp [intOf]; omega
      · obtain rfl : r = l.length := by omega
        rw [List.take_length]
        have CN9 := Lib.hid (fun w0 (h : Same w9 w0) => CN.out w0 (HS.out.then h))
        have hl8 := HFT.out
        have hofl := offs_len m q P l
        have HSP9 := Lib.hid (HSP8.out.same HS.out)
        have hmn : (f1.length : Int) = min k ((offsP m q P l).length : Int) := HFL.out
        generalize (offsP m q P l).length = nn at *
        have hw8 : IntKind.i64.wrap (8 * (nn : Int)) = 8 * (nn : Int) := wrapS (by omega)
        have hd1 : decide (8 * (nn : Int) < (t : Int)) = false := decide_eq_false (by omega)
        have hd2 : decide ((t : Int) < (nn : Int)) = false := decide_eq_false (by omega)
        have hd3 : decide (t < nn) = false := decide_eq_false (by omega)
        have hbm : ((f1.length : Int) != min k (nn : Int)) = false := by rw [hmn]; simp
        clear hl8 hofl hmn HFT HFL
        go_wp2_with fail
        refine (CN9.out _ (Only.refl _ _)).mono ?_
        rintro e w10 ⟨rfl, rfl⟩
        go_wp2_with fail
        refine (CN9.out _ (Only.refl _ _)).mono ?_
        rintro e w11 ⟨rfl, rfl⟩
        go_wp2_with fail
        obtain ⟨w12, hw12⟩ : ∃ x, x = w11 := ⟨_, rfl⟩
        subst hw12
        go_loopw [18] (fun i wr => ∃ x : Nat, x ≤ f1.length ∧ i = .int .i64 x ∧ Same w12 wr) (fun i _ => f1.length - (intOf i).toNat)
        case atStart => exact ⟨0, by omega, rfl, Only.refl _ _⟩
        case round =>
          obtain ⟨x, hx, rfl, hSx⟩ := hrel
          obtain ⟨w13, hw13⟩ : ∃ x, x = wr := ⟨_, rfl⟩
          subst hw13
          have HSX := Lib.hid hSx
          clear hSx
          by_cases hlx : x < f1.length
          · have hw14 : IntKind.i64.wrap ((x : Int) + 1) = (x : Int) + 1 := wrapS (by omega)
            obtain ⟨b5, o5, rfl, hc5⟩ := HSP9.out.spot (by omega)
            have HX5 := Lib.hid (hc5 x hlx)
            have hfx := fun j hj => HFX.out x j hlx hj
            obtain ⟨fd, fs, hfe⟩ : ∃ a b, f1[x] = (a, b) := ⟨f1[x].1, f1[x].2, rfl⟩
            rw [hfe] at HX5
            have HFXX : Hid (∀ j (hj : j < l.length), l[j].1 = fd → (scoreP m q l[j].2).1 = fs) := Lib.hid (fun j hj h => by have := hfx j hj (by rw [hfe]; exact h); rw [hfe] at this; exact this)
            have hd5 : decide ((x : Int) < (f1.length : Int)) = true := decide_eq_true (by omega)
            have hd6 : decide (x < f1.length) = true := decide_eq_true hlx
            clear hc5 hfx hfe hd1 hd2 hd3
            go_wp2_with fail
            go_loopw [19] (fun i wr => ∃ y : Nat, y ≤ l.length ∧ i = .int .i64 y ∧ Same w12 wr) (fun i _ => l.length - (intOf i).toNat)
            case atStart => exact ⟨0, by omega, rfl, HSX.out⟩
            case round =>
              obtain ⟨y, hy, rfl, hSy⟩ := hrel
              obtain ⟨w14, hw14'⟩ : ∃ x, x = wr := ⟨_, rfl⟩
              subst hw14'
              have HSY := Lib.hid hSy
              clear hSy
              by_cases hly : y < l.length
              · have hSz := HS8.out.then (HS.out.then HSY.out)
                obtain ⟨b1, o1, rfl, hcell⟩ := (HR.out.same hSz).spot (by omega)
                obtain ⟨k1, u, k2, hsl⟩ := hcell y hly
                have HSPY := Lib.hid (HSP9.out.same HSY.out)
                obtain ⟨k3, k4⟩ := HX5.out
                have k3 := HSY.out.cell_eq k3 (fun h => h)
                have k4 := HSY.out.cell_eq k4 (fun h => h)
                have cs := fun w0 (h : Same w14 w0) => dscore_any m (.slice a1 q.length c1) u q l[y].2 w0 (HQ.out.same (hSz.then h)) (hsl.same h) ZQ.out (ZR.out l[y] (List.getElem_mem hly)).2
                have hfs := HFXX.out y hly
                obtain ⟨ua, uc, hu, _⟩ := hsl
                obtain ⟨doc, hdoc⟩ : ∃ d, d = l[y].1 := ⟨_, rfl⟩
                rw [← hdoc] at k1 hfs
                obtain ⟨z1, z2, hz⟩ : ∃ a b, scoreP m q l[y].2 = (a, b) := ⟨_, _, rfl⟩
                rw [hz] at cs hfs
                have CS := Lib.hid cs
                have hd7 : decide ((y : Int) < (l.length : Int)) = true := decide_eq_true (by omega)
                have hd8 : decide (y < l.length) = true := decide_eq_true hly
                have hw15 : IntKind.i64.wrap ((y : Int) + 1) = (y : Int) + 1 := wrapS (by omega)
                subst hu
                clear hcell cs hdoc hz hSz
                go_wp2_with fail
                refine (CS.out _ (Only.refl _ _)).mono ?_
                rintro e w15 ⟨rfl, hS15⟩
                have k1 := hS15.cell_eq k1 (fun h => h)
                have k3 := hS15.cell_eq k3 (fun h => h)
                have k4 := hS15.cell_eq k4 (fun h => h)
                have HS15 := Lib.hid (HSY.out.then hS15)
                clear k2 hS15 CS
                by_cases hde : doc = fd
                · have hb1 : (doc == fd) = true := by simpa using hde
                  obtain rfl : z1 = fs := hfs hde
                  have hb2 : (z1 != z1) = false := by simp
                  clear hfs hde
                  go_upto_region 27 with fail
                  go_quiet (fail)
                  rename_i nq
                  go_wp2_with fail
                  go_roundw
                  case rel => exact ⟨y + 1, by omega, by go_num, HS15.out.drewN nq⟩
                  case measure => simp [intOf]; omega
                · have hb1 : (doc == fd) = false := by simpa using hde
                  clear hfs hde
                  go_upto_region 27 with fail
                  go_quiet (fail)
                  rename_i nq
                  go_wp2_with fail
                  go_roundw
                  case rel => exact ⟨y + 1, by omega, by go_num, HS15.out.drewN nq⟩
                  case measure => simp [intOf]; omega
              · obtain rfl : y = l.length := by omega
                go_wp2_with fail
                go_roundw
                case rel => exact ⟨x + 1, by omega, by go_num, HSY.out⟩
                case measure => simp [intOf]; omega
          · obtain rfl : x = f1.length := by omega
            go_wp2_with fail
            go_ret
            exact ⟨rfl, HS8.out.then (HS.out.then HSX.out)⟩
end Go.Proofs.Ytjegohibpojneaa
