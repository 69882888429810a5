import Derived.Test.YtjegohibpojneaaPostFind
set_option linter.unusedVariables false
set_option linter.unusedSimpArgs false
namespace Go.Proofs.Ytjegohibpojneaa
open Go.RowKit

/-- One operation, what follows it as a letter. -/
theorem op_seek {P : Program} {ops : Array Oper} {Q : Exit → Act → World → Prop} {S : World → Prop} {X : Act → World → Prop} {i : Nat} {o : Oper} {a : Act} {w : World} (ho : ops[i]? = some o)
    (h : ∀ K : Act → World → Prop, (∀ a' w', S w' → X a' w' → K a' w') → if Region.wanted o (yielded ops a.tmps) = true then Oper.wp P o a w K Q else K (a.put o.dst undef) w) : wpOp P ops Q i (fun a' w' => S w' ∧ X a' w') a w := by
  unfold wpOp
  simp only [ho]
  have h1 := h (fun a' w' => S w' ∧ X a' w') (fun a' w' h1 h2 => ⟨h1, h2⟩)
  by_cases hw : Region.wanted o (yielded ops a.tmps) = true
  · rw [if_pos hw] at h1 ⊢
    exact .inl h1
  · rw [if_neg hw] at h1 ⊢
    exact h1
set_option maxRecDepth 100000 in
set_option maxHeartbeats 4000000 in
theorem seek05_any (c b a B : Nat) (l : List (Int × Int)) (doc : Int) (w : World) (h : CurAt w c b a l B) (hr : RightP l) (hl : l.length ≤ 1000000) (hd : -9223372036854775808 ≤ doc ∧ doc ≤ 9223372036854775807) :
    Calls Try.prog 44 #[.pointer (some ⟨c, 0, none⟩), .int .i64 doc] w fun e w' => e = .returned (.tuple #[]) ∧ Only (· = c) w w' ∧ CurAt w' c b (seekP l a doc) l B := by
  have H := Lib.hid h
  obtain ⟨hc, ha, hB, hLB⟩ := h
  by_cases hneg : doc < 0
  · rw [seekP_neg l hr a doc hneg]
    clear hc hLB hr
    go_enter Try.func44, Try.ntmps44
    go_wp2_with fail
    refine bodyPost_ret (results_none rfl _ _ _) rfl ?_
    exact ⟨rfl, Only.refl _ _, H.out⟩
  have hHL := Lib.hid hLB
  have cf := fun w0 (hS : Only (· = c) w w0) => find_any b l (min doc 2147483648) w0 ((hHL.out.only hS (fun k hk => by have h2 : k = c := hk; omega)).list) hr hl (by omega)
  have hleap := seekP_leap l hr a doc ha (by omega)
  obtain ⟨a1, c1, s2, ⟨h1, h2, h3⟩, hc1, hm1, hbB⟩ := hLB.c
  have H2 := Lib.hid h2
  unfold maxLen at hm1
  obtain ⟨⟨k0, k1, k2⟩, _⟩ := three_facts h1
  obtain ⟨e0, e1, f0, f1⟩ := two_facts hc
  obtain ⟨dd, hdd⟩ : ∃ dd, dd = min doc 2147483648 := ⟨_, rfl⟩
  rw [← hdd] at cf hleap
  have hif : (if (2147483648 : Int) < doc then (2147483648 : Int) else doc) = dd := by split <;> omega
  have hfl := (findP_spec l dd).1
  unfold nbP at hfl
  have HLP : Hid (seekP l (max a (min (findP l dd * 4) l.length)) doc = seekP l a doc) := Lib.hid hleap
  obtain ⟨f, hf⟩ : ∃ f, f = findP l dd := ⟨_, rfl⟩
  rw [← hf] at cf HLP hfl
  obtain ⟨r, hr2⟩ : ∃ r, r = seekP l a doc := ⟨_, rfl⟩
  rw [← hr2] at HLP
  rw [← hr2]
  have CF := Lib.hid cf
  have hcb : ¬ c = b := by omega
  have hw1 : IntKind.i64.wrap ((f : Int) * 4) = (f : Int) * 4 := IntWalk.i64_in _ (by omega)
  obtain ⟨g, hg⟩ : ∃ g, g = max a (min (f * 4) l.length) := ⟨_, rfl⟩
  rw [← hg] at HLP
  have hg1 : (if (a : Int) < (if (l.length : Int) < (f : Int) * 4 then (l.length : Int) else (f : Int) * 4) then (if (l.length : Int) < (f : Int) * 4 then (l.length : Int) else (f : Int) * 4) else (a : Int)) = (g : Int) := by split <;> split <;> omega
  have hg2 : g ≤ l.length := by omega
  have HG1 := Lib.hid hg1
  clear cf hdd hleap hf hr2 hg hg1 h1 h2 h3 hc hLB hr
  have q0 : Only (· = c) w w := Only.refl _ _
  have HLB := Lib.hid hHL.out
  have HCW0 := Lib.hid H.out.1
  clear hHL
  go_enter Try.func44, Try.ntmps44
  go_wp2_with fail
  go_cut [] from 4 (fun wx => Only (· = c) w wx ∧ wx.heap[c]? = some (.cells #[.pointer (some ⟨b, 0, none⟩), .int .i64 g] 178 (0, 0)))
  case first =>
    have hSd : Same w w.drew := (Only.refl _ _).drew
    have e0 := hSd.cell_eq e0 (fun h => h)
    have e1 := hSd.cell_eq e1 (fun h => h)
    have k0 := hSd.cell_eq k0 (fun h => h)
    have f1 : w.drew.frozen? ⟨c, 1, none⟩ = false := f1
    have hQ0 := q0.then hSd
    have HCW := Lib.hid (hSd.heap HCW0.out (fun h => h))
    clear f0 q0 hSd HCW0
    refine wp_region_held (S := fun w' => w'.cell? ⟨c, 0, none⟩ = some (.pointer (some ⟨b, 0, none⟩)) ∧ w'.cell? ⟨b, 0, none⟩ = some (.slice a1 l.length c1)) (by kernel_rfl) ?_
    change wpAnyH _ _ _ _ _ _ _ _ w.drew
    generalize w.drew = wd at *
    refine wpAnyH_take (i := 0) (v := .pointer (some ⟨c, 0, none⟩)) rfl (by kernel_rfl) (by kernel_rfl) (by kernel_rfl) (fun _ _ _ h => h) (Or.inl ⟨by rfl, fun w9 hS9 => ?_⟩) ⟨e0, k0⟩ ?_
    · obtain ⟨s0, s1⟩ := hS9
      go_simp
    simp only [Act.put, List.setIfInBounds_toArray, List.set_cons_zero, List.set_cons_succ]
    refine wpAnyH_take (i := 1) (v := .pointer (some ⟨c, 0, none⟩)) rfl (by kernel_rfl) (by kernel_rfl) (by kernel_rfl) (fun _ _ _ h => h) (Or.inl ⟨by rfl, fun w9 hS9 => ?_⟩) ⟨e0, k0⟩ ?_
    · obtain ⟨s0, s1⟩ := hS9
      go_simp
    simp only [Act.put, List.setIfInBounds_toArray, List.set_cons_zero, List.set_cons_succ]
    refine wpAnyH_take (i := 2) (v := .pointer (some ⟨c, 0, none⟩)) rfl (by kernel_rfl) (by kernel_rfl) (by kernel_rfl) (fun _ _ _ h => h) (Or.inl ⟨by rfl, fun w9 hS9 => ?_⟩) ⟨e0, k0⟩ ?_
    · obtain ⟨s0, s1⟩ := hS9
      go_simp
    simp only [Act.put, List.setIfInBounds_toArray, List.set_cons_zero, List.set_cons_succ]
    refine wpAnyH_take (i := 3) (v := .pointer (some ⟨c, 1, none⟩)) rfl (by kernel_rfl) (by kernel_rfl) (by kernel_rfl) (fun _ _ _ h => h) (Or.inl ⟨by rfl, fun w9 hS9 => ?_⟩) ⟨e0, k0⟩ ?_
    · obtain ⟨s0, s1⟩ := hS9
      go_simp
    simp only [Act.put, List.setIfInBounds_toArray, List.set_cons_zero, List.set_cons_succ]
    refine wpAnyH_take (i := 5) (v := .pointer (some ⟨c, 0, none⟩)) rfl (by kernel_rfl) (by kernel_rfl) (by kernel_rfl) (fun _ _ _ h => h) (Or.inl ⟨by rfl, fun w9 hS9 => ?_⟩) ⟨e0, k0⟩ ?_
    · obtain ⟨s0, s1⟩ := hS9
      go_simp
    simp only [Act.put, List.setIfInBounds_toArray, List.set_cons_zero, List.set_cons_succ]
    refine wpAnyH_take (i := 6) (v := .pointer (some ⟨c, 0, none⟩)) rfl (by kernel_rfl) (by kernel_rfl) (by kernel_rfl) (fun _ _ _ h => h) (Or.inl ⟨by rfl, fun w9 hS9 => ?_⟩) ⟨e0, k0⟩ ?_
    · obtain ⟨s0, s1⟩ := hS9
      go_simp
    simp only [Act.put, List.setIfInBounds_toArray, List.set_cons_zero, List.set_cons_succ]
    refine wpAnyH_take (i := 7) (v := .pointer (some ⟨c, 0, none⟩)) rfl (by kernel_rfl) (by kernel_rfl) (by kernel_rfl) (fun _ _ _ h => h) (Or.inl ⟨by rfl, fun w9 hS9 => ?_⟩) ⟨e0, k0⟩ ?_
    · obtain ⟨s0, s1⟩ := hS9
      go_simp
    simp only [Act.put, List.setIfInBounds_toArray, List.set_cons_zero, List.set_cons_succ]
    refine wpAnyH_take (i := 8) (v := .pointer (some ⟨b, 0, none⟩)) rfl (by kernel_rfl) (by kernel_rfl) (by kernel_rfl) (fun _ _ _ h => h) (Or.inl ⟨by rfl, fun w9 hS9 => ?_⟩) ⟨e0, k0⟩ ?_
    · obtain ⟨s0, s1⟩ := hS9
      go_simp
    simp only [Act.put, List.setIfInBounds_toArray, List.set_cons_zero, List.set_cons_succ]
    refine wpAnyH_take (i := 9) (v := .int .i64 doc) rfl (by kernel_rfl) (by kernel_rfl) (by kernel_rfl) (fun _ _ _ h => h) (Or.inl ⟨by rfl, fun w9 hS9 => ?_⟩) ⟨e0, k0⟩ ?_
    · obtain ⟨s0, s1⟩ := hS9
      go_simp
    simp only [Act.put, List.setIfInBounds_toArray, List.set_cons_zero, List.set_cons_succ]
    refine wpAnyH_take (i := 10) (v := .int .i64 dd) rfl (by kernel_rfl) (by kernel_rfl) (by kernel_rfl) (fun _ _ _ h => h) (Or.inl ⟨by rfl, fun w9 hS9 => ?_⟩) ⟨e0, k0⟩ ?_
    · obtain ⟨s0, s1⟩ := hS9
      go_simp
    simp only [Act.put, List.setIfInBounds_toArray, List.set_cons_zero, List.set_cons_succ]
    refine wpAnyH_take (i := 13) (v := .pointer (some ⟨c, 0, none⟩)) rfl (by kernel_rfl) (by kernel_rfl) (by kernel_rfl) (fun _ _ _ h => h) (Or.inl ⟨by rfl, fun w9 hS9 => ?_⟩) ⟨e0, k0⟩ ?_
    · obtain ⟨s0, s1⟩ := hS9
      go_simp
    simp only [Act.put, List.setIfInBounds_toArray, List.set_cons_zero, List.set_cons_succ]
    refine wpAnyH_take (i := 14) (v := .pointer (some ⟨c, 0, none⟩)) rfl (by kernel_rfl) (by kernel_rfl) (by kernel_rfl) (fun _ _ _ h => h) (Or.inl ⟨by rfl, fun w9 hS9 => ?_⟩) ⟨e0, k0⟩ ?_
    · obtain ⟨s0, s1⟩ := hS9
      go_simp
    simp only [Act.put, List.setIfInBounds_toArray, List.set_cons_zero, List.set_cons_succ]
    refine wpAnyH_take (i := 15) (v := .pointer (some ⟨c, 0, none⟩)) rfl (by kernel_rfl) (by kernel_rfl) (by kernel_rfl) (fun _ _ _ h => h) (Or.inl ⟨by rfl, fun w9 hS9 => ?_⟩) ⟨e0, k0⟩ ?_
    · obtain ⟨s0, s1⟩ := hS9
      go_simp
    simp only [Act.put, List.setIfInBounds_toArray, List.set_cons_zero, List.set_cons_succ]
    refine wpAnyH_take (i := 16) (v := .pointer (some ⟨b, 0, none⟩)) rfl (by kernel_rfl) (by kernel_rfl) (by kernel_rfl) (fun _ _ _ h => h) (Or.inl ⟨by rfl, fun w9 hS9 => ?_⟩) ⟨e0, k0⟩ ?_
    · obtain ⟨s0, s1⟩ := hS9
      go_simp
    simp only [Act.put, List.setIfInBounds_toArray, List.set_cons_zero, List.set_cons_succ]
    refine wpAnyH_take (i := 17) (v := .pointer (some ⟨b, 0, none⟩)) rfl (by kernel_rfl) (by kernel_rfl) (by kernel_rfl) (fun _ _ _ h => h) (Or.inl ⟨by rfl, fun w9 hS9 => ?_⟩) ⟨e0, k0⟩ ?_
    · obtain ⟨s0, s1⟩ := hS9
      go_simp
    simp only [Act.put, List.setIfInBounds_toArray, List.set_cons_zero, List.set_cons_succ]
    refine wpAnyH_take (i := 18) (v := .pointer (some ⟨b, 0, none⟩)) rfl (by kernel_rfl) (by kernel_rfl) (by kernel_rfl) (fun _ _ _ h => h) (Or.inl ⟨by rfl, fun w9 hS9 => ?_⟩) ⟨e0, k0⟩ ?_
    · obtain ⟨s0, s1⟩ := hS9
      go_simp
    simp only [Act.put, List.setIfInBounds_toArray, List.set_cons_zero, List.set_cons_succ]
    refine wpAnyH_take (i := 19) (v := .slice a1 l.length c1) rfl (by kernel_rfl) (by kernel_rfl) (by kernel_rfl) (fun _ _ _ h => h) (Or.inl ⟨by rfl, fun w9 hS9 => ?_⟩) ⟨e0, k0⟩ ?_
    · obtain ⟨s0, s1⟩ := hS9
      go_simp
    simp only [Act.put, List.setIfInBounds_toArray, List.set_cons_zero, List.set_cons_succ]
    refine wpAnyH_take (i := 20) (v := .int .i64 l.length) rfl (by kernel_rfl) (by kernel_rfl) (by kernel_rfl) (fun _ _ _ h => h) (Or.inl ⟨by rfl, fun w9 hS9 => ?_⟩) ⟨e0, k0⟩ ?_
    · obtain ⟨s0, s1⟩ := hS9
      go_simp
    simp only [Act.put, List.setIfInBounds_toArray, List.set_cons_zero, List.set_cons_succ]
    have hcell1 : ∀ w9, Same wd w9 → w9.cell? ⟨c, 0, none⟩ = some (.pointer (some ⟨b, 0, none⟩)) ∧ w9.cell? ⟨b, 0, none⟩ = some (.slice a1 l.length c1) := fun w9 hS => ⟨hS.cell_eq e0 (fun h => h), hS.cell_eq k0 (fun h => h)⟩
    have HC1 := Lib.hid hcell1
    have hcl : c < wd.heap.size := by simpa using World.block_lt_of_cell? wd _ e1
    clear hcell1
    refine wpAnyH_all (rs := [4, 11]) (by kernel_rfl) (by simp) ?_
    intro i hi
    have hi2 : i = 4 ∨ i = 11 := by simpa using hi
    clear hi
    rcases hi2 with rfl | rfl
    · refine op_seek rfl (fun K hK => ?_)
      go_simp
      refine hK _ _ ⟨e0, k0⟩ ?_
      clear hK K
      refine wpAnyH_all (rs := [11]) (by kernel_rfl) (by simp) ?_
      intro i hi
      have hi2 : i = 11 := by simpa using hi
      clear hi
      subst hi2
      refine op_seek rfl (fun K hK => ?_)
      go_simp
      refine (CF.out _ hQ0).mono ?_
      rintro e wn ⟨rfl, hSn⟩
      refine hK _ _ (HC1.out _ hSn) ?_
      clear hK K
      have e1 := hSn.cell_eq e1 (fun h => h)
      have e0 := hSn.cell_eq e0 (fun h => h)
      have k0 := hSn.cell_eq k0 (fun h => h)
      have f1 : wn.frozen? ⟨c, 1, none⟩ = false := (hSn.frozen (p := ⟨c, 1, none⟩) hcl (fun h => h)).trans f1
      have hQn := hQ0.then hSn
      refine wpAnyH_take (i := 12) (v := .int .i64 ((f : Int) * 4)) rfl (by kernel_rfl) (by kernel_rfl) (by kernel_rfl) (fun _ _ _ h => h) (Or.inl ⟨by rfl, fun w9 hS9 => ?_⟩) ⟨e0, k0⟩ ?_
      · obtain ⟨s0, s1⟩ := hS9
        go_simp
      simp only [Act.put, List.setIfInBounds_toArray, List.set_cons_zero, List.set_cons_succ]
      refine wpAnyH_take (i := 21) (v := .int .i64 (if (l.length : Int) < (f : Int) * 4 then (l.length : Int) else (f : Int) * 4)) rfl (by kernel_rfl) (by kernel_rfl) (by kernel_rfl) (fun _ _ _ h => h) (Or.inl ⟨by rfl, fun w9 hS9 => ?_⟩) ⟨e0, k0⟩ ?_
      · obtain ⟨s0, s1⟩ := hS9
        go_simp
      simp only [Act.put, List.setIfInBounds_toArray, List.set_cons_zero, List.set_cons_succ]
      refine wpAnyH_all (rs := [22]) (by kernel_rfl) (by simp) ?_
      intro i hi
      have hi2 : i = 22 := by simpa using hi
      clear hi
      subst hi2
      refine op_seek rfl (fun K hK => ?_)
      go_simp
      rw [HG1.out]
      refine hK _ _ ⟨e0, k0⟩ ?_
      clear hK K
      refine wpAnyH_all (rs := [23]) (by kernel_rfl) (by simp) ?_
      intro i hi
      have hi2 : i = 23 := by simpa using hi
      clear hi
      subst hi2
      refine op_seek rfl (fun K hK => ?_)
      go_simp
      refine hK _ _ ⟨e0, k0⟩ ?_
      clear hK K
      refine wpAnyH_all (rs := [24]) (by kernel_rfl) (by simp) ?_
      intro i hi
      have hi2 : i = 24 := by simpa using hi
      clear hi
      subst hi2
      refine op_seek rfl (fun K hK => ?_)
      go_simp
      refine hK _ _ ⟨e0, k0⟩ ?_
      clear hK K
      refine wpAnyH_all (rs := [25]) (by kernel_rfl) (by simp) ?_
      intro i hi
      have hi2 : i = 25 := by simpa using hi
      clear hi
      subst hi2
      refine op_seek rfl (fun K hK => ?_)
      go_simp
      have hP : Only (· = c) wn (wn.setCell ⟨c, 1, none⟩ (.int .i64 g)) := (Only.refl (· = c) wn).setCell (fun _ => rfl) _
      refine hK _ _ ⟨by go_simp, by go_simp⟩ ?_
      clear hK K
      refine wpAnyH_done (by kernel_rfl) ?_ _
      have hcn := hSn.heap HCW.out (fun h => h)
      have hcm := blk_set (j := 1) (v := .int .i64 g) hcn
      clear hif hw1 hcb
      generalize (if (l.length : Int) < (f : Int) * 4 then (l.length : Int) else (f : Int) * 4) = mnv at *
      go_wp2
      go_meet
      case rel => exact ⟨hQn.same hP, hcm⟩
    · refine op_seek rfl (fun K hK => ?_)
      go_simp
      refine (CF.out _ hQ0).mono ?_
      rintro e wn ⟨rfl, hSn⟩
      refine hK _ _ (HC1.out _ hSn) ?_
      clear hK K
      have e1 := hSn.cell_eq e1 (fun h => h)
      have e0 := hSn.cell_eq e0 (fun h => h)
      have k0 := hSn.cell_eq k0 (fun h => h)
      have f1 : wn.frozen? ⟨c, 1, none⟩ = false := (hSn.frozen (p := ⟨c, 1, none⟩) hcl (fun h => h)).trans f1
      have hQn := hQ0.then hSn
      refine wpAnyH_take (i := 12) (v := .int .i64 ((f : Int) * 4)) rfl (by kernel_rfl) (by kernel_rfl) (by kernel_rfl) (fun _ _ _ h => h) (Or.inl ⟨by rfl, fun w9 hS9 => ?_⟩) ⟨e0, k0⟩ ?_
      · obtain ⟨s0, s1⟩ := hS9
        go_simp
      simp only [Act.put, List.setIfInBounds_toArray, List.set_cons_zero, List.set_cons_succ]
      refine wpAnyH_take (i := 21) (v := .int .i64 (if (l.length : Int) < (f : Int) * 4 then (l.length : Int) else (f : Int) * 4)) rfl (by kernel_rfl) (by kernel_rfl) (by kernel_rfl) (fun _ _ _ h => h) (Or.inl ⟨by rfl, fun w9 hS9 => ?_⟩) ⟨e0, k0⟩ ?_
      · obtain ⟨s0, s1⟩ := hS9
        go_simp
      simp only [Act.put, List.setIfInBounds_toArray, List.set_cons_zero, List.set_cons_succ]
      refine wpAnyH_all (rs := [4]) (by kernel_rfl) (by simp) ?_
      intro i hi
      have hi2 : i = 4 := by simpa using hi
      clear hi
      subst hi2
      refine op_seek rfl (fun K hK => ?_)
      go_simp
      refine hK _ _ ⟨e0, k0⟩ ?_
      clear hK K
      refine wpAnyH_all (rs := [22]) (by kernel_rfl) (by simp) ?_
      intro i hi
      have hi2 : i = 22 := by simpa using hi
      clear hi
      subst hi2
      refine op_seek rfl (fun K hK => ?_)
      go_simp
      rw [HG1.out]
      refine hK _ _ ⟨e0, k0⟩ ?_
      clear hK K
      refine wpAnyH_all (rs := [23]) (by kernel_rfl) (by simp) ?_
      intro i hi
      have hi2 : i = 23 := by simpa using hi
      clear hi
      subst hi2
      refine op_seek rfl (fun K hK => ?_)
      go_simp
      refine hK _ _ ⟨e0, k0⟩ ?_
      clear hK K
      refine wpAnyH_all (rs := [24]) (by kernel_rfl) (by simp) ?_
      intro i hi
      have hi2 : i = 24 := by simpa using hi
      clear hi
      subst hi2
      refine op_seek rfl (fun K hK => ?_)
      go_simp
      refine hK _ _ ⟨e0, k0⟩ ?_
      clear hK K
      refine wpAnyH_all (rs := [25]) (by kernel_rfl) (by simp) ?_
      intro i hi
      have hi2 : i = 25 := by simpa using hi
      clear hi
      subst hi2
      refine op_seek rfl (fun K hK => ?_)
      go_simp
      have hP : Only (· = c) wn (wn.setCell ⟨c, 1, none⟩ (.int .i64 g)) := (Only.refl (· = c) wn).setCell (fun _ => rfl) _
      refine hK _ _ ⟨by go_simp, by go_simp⟩ ?_
      clear hK K
      refine wpAnyH_done (by kernel_rfl) ?_ _
      have hcn := hSn.heap HCW.out (fun h => h)
      have hcm := blk_set (j := 1) (v := .int .i64 g) hcn
      clear hif hw1 hcb
      generalize (if (l.length : Int) < (f : Int) * 4 then (l.length : Int) else (f : Int) * 4) = mnv at *
      go_wp2
      go_meet
      case rel => exact ⟨hQn.same hP, hcm⟩
  case rest =>
  obtain ⟨hO, hcc⟩ := hcut
  obtain ⟨W1, hw1⟩ : ∃ x, x = wc := ⟨_, rfl⟩
  subst hw1
  have HO := Lib.hid hO; have HCC := Lib.hid hcc
  have HLW := Lib.hid (HLB.out.only hO (fun k hk => by have h2 : k = c := hk; omega))
  clear hO hcc CF HG1
  go_wp2_with fail
  go_loopw [] (fun wr => ∃ k : Nat, k ≤ l.length ∧ Only (· = c) w wr ∧ wr.heap[c]? = some (.cells #[.pointer (some ⟨b, 0, none⟩), .int .i64 k] 178 (0, 0)) ∧ seekP l k doc = r) (fun wr => l.length - (intOf ((wr.cell? ⟨c, 1, none⟩).getD undef)).toNat)
  case atStart => exact ⟨g, hg2, HO.out, HCC.out, HLP.out⟩
  case round =>
    obtain ⟨k, hk, hO, hcc, hs⟩ := hrel
    have HLW2 := Lib.hid (HLB.out.only hO (fun k hk => by have h2 : k = c := hk; omega))
    obtain ⟨a9, c9, s9, ⟨h1, h2, h3⟩, hc9, hm9, hbB9⟩ := HLW2.out.c
    obtain ⟨⟨k0, k1, k2⟩, _⟩ := three_facts h1
    obtain ⟨e0, e1, f0, f1⟩ := two_facts hcc
    unfold maxLen at hm9
    have HH2 := Lib.hid h2; have HCC2 := Lib.hid hcc; have HO2 := Lib.hid hO; have HS2 := Lib.hid hs
    clear h1 h2 h3 hcc hO hs
    by_cases hlt : k < l.length
    · obtain ⟨bb, off, rfl, hcell⟩ := HH2.out.spot (by omega)
      have d0 := (hcell k hlt).1
      by_cases hdl : l[k].1 < doc
      · have HN := Lib.hid (seekP_step l k doc hlt hdl)
        generalize l[k] = p at *
        clear hcell
        have hkd : decide (p.1 < doc) = true := decide_eq_true hdl
        go_wp2_with fail
        go_quiet (fail)
        rename_i nq
        have HCC3 : Hid ((wr.drewN nq).heap[c]? = some (.cells #[.pointer (some ⟨b, 0, none⟩), .int .i64 k] 178 (0, 0))) := Lib.hid HCC2.out
        have e0 : (wr.drewN nq).cell? ⟨c, 0, none⟩ = _ := e0
        have e1 : (wr.drewN nq).cell? ⟨c, 1, none⟩ = _ := e1
        have f1 : (wr.drewN nq).frozen? ⟨c, 1, none⟩ = false := f1
        have HO3 := Lib.hid (HO2.out.drewN nq)
        have hme : (wr.cell? ⟨c, 1, none⟩).getD undef = .int .i64 k := by rw [show wr.cell? ⟨c, 1, none⟩ = _ from blk_cells HCC2.out 1]; rfl
        have HME := Lib.hid hme
        clear hme
        generalize wr.drewN nq = wq at *
        go_wp2_with fail
        go_roundw
        case rel => exact ⟨k + 1, by omega, HO3.out.setCell (fun _ => rfl) _, by have := blk_set (j := 1) (v := .int .i64 ((k + 1 : Nat) : Int)) HCC3.out; simpa using this, by rw [← HN.out]; exact HS2.out⟩
        case measure =>
          have := blk_cells (blk_set (j := 1) (v := .int .i64 ((k : Int) + 1)) HCC3.out) 1
          rw [HME.out, show ((wq.setCell ⟨c, 1, none⟩ (.int .i64 ((k : Int) + 1))).cell? ⟨c, 1, none⟩).getD undef = .int .i64 ((k : Int) + 1) by rw [this]; rfl]
          simp [intOf]
          omega
      · have HN := Lib.hid (seekP_stop l k doc hlt hdl)
        generalize l[k] = p at *
        clear hcell
        have hkd : decide (p.1 < doc) = false := decide_eq_false hdl
        go_wp2_with fail
        go_quiet (fail)
        rename_i nq
        go_wp2_with fail
        go_end0
        have hkr : k = r := by rw [← HS2.out]; exact HN.out.symm
        subst hkr
        exact ⟨rfl, HO2.out.drewN nq, HCC2.out, hk, hB, HLW2.out.only ((Only.refl (fun _ => False) wr).drewN nq) (fun _ h => h.elim)⟩
    · have HN := Lib.hid (seekP_end l k doc (by omega))
      go_wp2_with fail
      go_quiet (fail)
      rename_i nq
      go_wp2_with fail
      go_end0
      have hkr : k = r := by rw [← HS2.out]; exact HN.out.symm
      subst hkr
      exact ⟨rfl, HO2.out.drewN nq, HCC2.out, hk, hB, HLW2.out.only ((Only.refl (fun _ => False) wr).drewN nq) (fun _ h => h.elim)⟩
end Go.Proofs.Ytjegohibpojneaa
