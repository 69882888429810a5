import Derived.Test.YtjegohibpojneaaPostCur
set_option linter.unusedVariables false
set_option linter.unusedSimpArgs false
namespace Go.Proofs.Ytjegohibpojneaa
open Go.RowKit

theorem find1_any (p : Int × Int) (d : Int) (w : World) (h1 : 0 ≤ p.2 ∧ p.2 ≤ 2147483647) (h2 : 0 ≤ d ∧ d ≤ 2147483648) : Calls Try.prog 149 #[pairV p, .int .i64 d] w fun e w' => e = .returned (.int .i64 (p.2 - d)) ∧ Same w w' := by
  obtain ⟨x, y⟩ := p
  simp only at h1 ⊢
  go_enter Try.func149, Try.ntmps149
  go_wp2_with fail
  go_ret
  exact ⟨rfl, (Only.refl _ w).alloc _⟩
theorem enters_find1 (args : Array Value) (w : World) : (callFunc 149 args).run Try.prog w = .ok (.enter 149 args) w := by kernel_rfl
set_option maxRecDepth 100000 in
set_option maxHeartbeats 2000000 in
theorem bsearch_any (v : Value) (bl : List (Int × Int)) (d : Int) (w : World) (hv : SlP w v bl) (hl : bl.length ≤ 1000000) (hr : ∀ p ∈ bl, 0 ≤ p.2 ∧ p.2 ≤ 2147483647)
    (hs : ∀ i j, i < j → j < bl.length → (bl.getD i (0, 0)).2 < (bl.getD j (0, 0)).2) (hd : 0 ≤ d ∧ d ≤ 2147483648) :
    Calls Try.prog 148 #[v, .int .i64 d, .func (.func 149) #[] #[]] w fun e w' => ∃ (i : Nat) (f : Bool), e = .returned (.tuple #[.int .i64 i, .bool f]) ∧ Same w w' ∧ i ≤ bl.length ∧ (∀ k, k < i → (bl.getD k (0, 0)).2 < d) ∧ (i < bl.length → d ≤ (bl.getD i (0, 0)).2) := by
  have HV := Lib.hid hv; have HR := Lib.hid hr; have HSR := Lib.hid hs
  obtain ⟨ad, cp, rfl, hcp, hmx⟩ := hv.lit
  unfold maxLen at hmx
  have hen := enters_find1
  clear hv hr hs
  go_enter Try.func148, Try.ntmps148
  go_wp2_with fail
  go_loopw [9, 10] (fun vi vj wr => ∃ i j : Nat, i ≤ j ∧ j ≤ bl.length ∧ vi = .int .i64 i ∧ vj = .int .i64 j ∧ Same w wr ∧ (∀ k, k < i → (bl.getD k (0, 0)).2 < d) ∧ ∀ k, j ≤ k → k < bl.length → d ≤ (bl.getD k (0, 0)).2) (fun vi vj _ => (intOf vj).toNat - (intOf vi).toNat)
  case atStart => exact ⟨0, bl.length, by omega, by omega, rfl, rfl, Only.refl _ _, fun k hk => by omega, fun k h1 h2 => by omega⟩
  case round =>
    obtain ⟨i, j, hij, hj, rfl, rfl, hS, hA, hB⟩ := hrel
    have HA := Lib.hid hA; have HB := Lib.hid hB; have HS := Lib.hid hS
    clear hA hB hS
    by_cases hlt : i < j
    · obtain ⟨b, off, rfl, hc⟩ := HV.out.spot (by omega)
      obtain ⟨m, hm⟩ : ∃ m, m = (i + j) / 2 := ⟨_, rfl⟩
      have hmi : ((i : Int) + (j : Int)) / 2 = (m : Int) := by omega
      have hm1 : i ≤ m := by omega
      have hm2 : m < j := by omega
      have hm3 : m < bl.length := by omega
      clear hm
      have hc0 := HS.out.cell_eq (hc m hm3).1 (fun h => h)
      have hc1 := HS.out.cell_eq (hc m hm3).2 (fun h => h)
      have hgd : bl.getD m (0, 0) = bl[m] := by rw [List.getD_eq_getElem?_getD, List.getElem?_eq_getElem hm3]; rfl
      have hrg := HR.out bl[m] (List.getElem_mem hm3)
      have hsm : ∀ k, k < m → (bl.getD k (0, 0)).2 < (bl.getD m (0, 0)).2 := fun k hk => HSR.out k m hk hm3
      have hsn : ∀ k, m < k → k < bl.length → (bl.getD m (0, 0)).2 < (bl.getD k (0, 0)).2 := fun k hk hk2 => HSR.out m k hk hk2
      rw [hgd] at hsm hsn
      generalize bl[m] = p at *
      have HGD := Lib.hid hgd; have HSM := Lib.hid hsm; have HSN := Lib.hid hsn
      clear hgd hsm hsn hc
      have hcm := fun w0 => find1_any p d w0 hrg hd
      have HCM := Lib.hid hcm
      obtain ⟨hrg1, hrg2⟩ := hrg
      obtain ⟨hd1, hd2⟩ := hd
      clear hcm
      by_cases hcmp : p.2 - d < 0
      · go_wp2_with (go_at_fn 149; refine (HCM.out _).mono ?_; rintro e w1 ⟨rfl, hS1⟩)
        have HS1 := Lib.hid (HS.out.then hS1)
        go_roundw
        case rel => exact ⟨m + 1, j, by omega, hj, by go_num, rfl, HS1.out, fun k hk => by
          rcases Nat.lt_or_eq_of_le (Nat.le_of_lt_succ hk) with h | rfl
          · have := HSM.out k h; omega
          · rw [HGD.out]; omega, HB.out⟩
        case measure => simp [intOf]; omega
      · go_wp2_with (go_at_fn 149; refine (HCM.out _).mono ?_; rintro e w1 ⟨rfl, hS1⟩)
        have HS1 := Lib.hid (HS.out.then hS1)
        go_roundw
        case rel => exact ⟨i, m, hm1, by omega, rfl, rfl, HS1.out, HA.out, fun k h1 h2 => by
          rcases Nat.lt_or_eq_of_le h1 with h | rfl
          · have := HSN.out k h h2; omega
          · rw [HGD.out]; omega⟩
        case measure => simp [intOf]; omega
    · obtain rfl : i = j := by omega
      by_cases hin : i < bl.length
      · obtain ⟨b, off, rfl, hc⟩ := HV.out.spot (by omega)
        have hc0 := HS.out.cell_eq (hc i hin).1 (fun h => h)
        have hc1 := HS.out.cell_eq (hc i hin).2 (fun h => h)
        have hrg := HR.out bl[i] (List.getElem_mem hin)
        generalize bl[i] = p at *
        have hcm := fun w0 => find1_any p d w0 hrg hd
        have HCM := Lib.hid hcm
        obtain ⟨hrg1, hrg2⟩ := hrg
        obtain ⟨hd1, hd2⟩ := hd
        clear hcm hc
        obtain ⟨fb, hfb⟩ : ∃ fb, (p.2 - d == 0) = fb := ⟨_, rfl⟩
        go_wp2_with (go_at_fn 149; refine (HCM.out _).mono ?_; rintro e w1 ⟨rfl, hS1⟩)
        go_ret2
        exact ⟨_, _, rfl, HS.out.then hS1, by omega, HA.out, fun h => HB.out i (Nat.le_refl _) h⟩
      · go_wp2_with fail
        go_ret2
        exact ⟨_, _, rfl, HS.out, by omega, HA.out, fun h => absurd h hin⟩
theorem blks_get (l : List (Int × Int)) (k : Nat) (h : k < nbP l) : (blksP l).getD k (0, 0) = blkP l k := by
  unfold blksP
  rw [List.getD_eq_getElem?_getD, List.getElem?_eq_getElem (by simpa using h)]
  simp
theorem blks_mem (l : List (Int × Int)) (hr : RightP l) : ∀ p ∈ blksP l, 0 ≤ p.2 ∧ p.2 ≤ 2147483647 := by
  intro p hp
  unfold blksP at hp
  obtain ⟨k, hk, rfl⟩ := List.mem_map.1 hp
  exact last_rng l hr k (List.mem_range.1 hk)
set_option maxRecDepth 100000 in
theorem find_any (b : Nat) (l : List (Int × Int)) (doc : Int) (w : World) (h : ListAt w b l) (hr : RightP l) (hl : l.length ≤ 1000000) (hd : 0 ≤ doc ∧ doc ≤ 2147483648) :
    Calls Try.prog 106 #[.pointer (some ⟨b, 0, none⟩), .int .i64 doc] w fun e w' => e = .returned (.int .i64 (findP l doc)) ∧ Same w w' := by
  obtain ⟨s1, s2, h1, h2, h3⟩ := h
  obtain ⟨⟨k0, k1, k2⟩, _⟩ := three_facts h1
  have hbl : (blksP l).length ≤ 1000000 := by rw [blksP_len]; unfold nbP; omega
  have cb := bsearch_any s2 (blksP l) doc w h3 hbl (blks_mem l hr) (fun i j hij hj => by
    rw [blksP_len] at hj
    rw [blks_get l i (by omega), blks_get l j hj]
    exact last_lt l hr i j hij hj) hd
  have CB := Lib.hid cb; have HR := Lib.hid hr
  clear cb h1 h2 h3 hr
  go_enter Try.func106, Try.ntmps106
  go_wp2_with fail
  refine CB.out.mono ?_
  rintro e w1 ⟨i, f, rfl, hS, hi, hA, hB⟩
  rw [blksP_len] at hi hB
  have hf : findP l doc = i := findP_is l doc i hi (fun k hk => by have := hA k hk; rw [blks_get l k (by omega)] at this; exact this) (fun hk => by have := hB hk; rw [blks_get l i hk] at this; exact this)
  have HF := Lib.hid hf
  clear hA hB hf
  go_wp2_with fail
  go_ret
  rw [HF.out]
  exact ⟨rfl, hS⟩
theorem ListB.c {w : World} {b B : Nat} {l : List (Int × Int)} (h : ListB w b l B) : ∃ a1 c1 s2, (w.heap[b]? = some (.cells #[.slice a1 l.length c1, s2, .int .i64 (maxP l)] 169 (0, 0)) ∧ SlP w (.slice a1 l.length c1) l ∧ SlP w s2 (blksP l)) ∧ l.length ≤ c1 ∧ c1 ≤ maxLen ∧ b < B := by
  obtain ⟨s1, s2, h1, h2, h3, h4, h5, h6⟩ := h
  obtain ⟨a1, c1, rfl, hc1, hm1⟩ := h2.lit
  exact ⟨a1, c1, s2, ⟨h1, h2, h3⟩, hc1, hm1, h4⟩
set_option maxRecDepth 100000 in
set_option maxHeartbeats 2000000 in
theorem cblock_any (c b a B : Nat) (l : List (Int × Int)) (doc : Int) (w : World) (h : CurAt w c b a l B) (hr : RightP l) (hl : l.length ≤ 1000000) (hd : -9223372036854775808 ≤ doc ∧ doc ≤ 9223372036854775807) :
    Calls Try.prog 47 #[.pointer (some ⟨c, 0, none⟩), .int .i64 doc] w fun e w' => e = .returned (.tuple #[.int .i64 (blockP l doc).1, .int .i64 (blockP l doc).2]) ∧ Same w w' := by
  obtain ⟨hc, ha, hB, hLB⟩ := h
  have cf := fun w0 (hS : Same w w0) => find_any b l (max 0 (min doc 2147483648)) w0 ((hLB.same hS).list) hr hl (by omega)
  rw [findP_clamp l hr doc] at cf
  obtain ⟨s1, s2, h1, h2, h3, h4, h5, h6⟩ := hLB
  have H3 := Lib.hid h3
  obtain ⟨a2, c2, rfl, hc2, hm2⟩ := h3.lit
  rw [blksP_len] at h1 hc2 h3
  unfold maxLen at hm2
  obtain ⟨⟨k0, k1, k2⟩, _⟩ := three_facts h1
  obtain ⟨e0, e1, _, _⟩ := two_facts hc
  obtain ⟨dd, hdd⟩ : ∃ dd, dd = max 0 (min doc 2147483648) := ⟨_, rfl⟩
  rw [← hdd] at cf
  have hcase : (doc ≤ 0 ∧ dd = 0) ∨ ((0 < doc ∧ doc ≤ 2147483648) ∧ dd = doc) ∨ (2147483648 < doc ∧ dd = 2147483648) := by omega
  obtain ⟨f, hf⟩ : ∃ f, f = findP l doc := ⟨_, rfl⟩
  have hfl := (findP_spec l doc).1
  have hbk : blockP l doc = if f < nbP l then blkP l f else (0, -1) := by rw [hf]; rfl
  rw [← hf] at cf hfl
  obtain ⟨r, hr2⟩ : ∃ r, r = blockP l doc := ⟨_, rfl⟩
  rw [← hr2] at hbk
  rw [← hr2]
  have CF := Lib.hid cf; have HBK := Lib.hid hbk; have HN := Lib.hid h1; have HC := Lib.hid hc
  clear cf hdd hf hbk hr2 h1 h2 h3 h5 h6 hc hr
  rcases hcase with ⟨g1, rfl⟩ | ⟨⟨g1, g2⟩, rfl⟩ | ⟨g1, rfl⟩
  all_goals
    go_enter Try.func47, Try.ntmps47
    go_wp2_with fail
    refine (CF.out _ (Only.refl _ _)).mono ?_
    rintro e w1 ⟨rfl, hS1⟩
    obtain ⟨⟨k0, k1, k2⟩, _⟩ := three_facts (hS1.heap HN.out (fun h => h))
    obtain ⟨e0, e1, _, _⟩ := two_facts (hS1.heap HC.out (fun h => h))
    have HS1 := Lib.hid hS1
    clear hS1
    by_cases hlt : f < nbP l
    · obtain ⟨bb, off, rfl, hcell⟩ := H3.out.spot (by rw [blksP_len]; omega)
      have hq : f < (blksP l).length := by rw [blksP_len]; exact hlt
      have d0 := HS1.out.cell_eq (hcell f hq).1 (fun h => h)
      have d1 := HS1.out.cell_eq (hcell f hq).2 (fun h => h)
      have he : (blksP l)[f] = blkP l f := by simp [blksP]
      rw [he] at d0 d1
      have hr3 : r = blkP l f := by rw [HBK.out, if_pos hlt]
      generalize blkP l f = q at *
      subst hr3
      clear hcell he HBK
      go_wp2_with fail
      go_quiet (fail)
      rename_i nq
      go_wp2
      go_ret2
      exact ⟨rfl, HS1.out.drewN nq⟩
    · have hr3 : r = (0, -1) := by rw [HBK.out, if_neg hlt]
      subst hr3
      clear HBK
      go_wp2_with fail
      go_ret2
      exact ⟨rfl, HS1.out⟩
end Go.Proofs.Ytjegohibpojneaa
