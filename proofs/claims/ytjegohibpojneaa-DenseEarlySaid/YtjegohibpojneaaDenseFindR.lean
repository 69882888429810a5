import Derived.Test.YtjegohibpojneaaDenseFindB
import Derived.Test.YtjegohibpojneaaDenseScoreR
import Derived.Test.YtjegohibpojneaaDenseOf
import Derived.Test.YtjegohibpojneaaTopRBest
set_option linter.unusedVariables false
set_option linter.unusedSimpArgs false
namespace Go.Proofs.Ytjegohibpojneaa
open Go.RowKit
attribute [local go_sem ↓] Go.wp_at_zero Go.wp_at_succ

/-- The row at a place is wrong, or doesn't rise. -/
def badAt (l : List RowP) (k : Nat) (r : RowP) : Bool := !(rowB r && (decide (k = 0) || decide ((l.getD (k - 1) (0, [])).1 < r.1)))
theorem badAt_yes {l : List RowP} {k : Nat} (hk : k < l.length) (h : badAt l k l[k] = true) : riseB l l.length = false := by
  cases hc : riseB l l.length with
  | false => rfl
  | true =>
    have h2 := riseB_mono l (k + 1) l.length (by omega) hc
    rw [riseB_succ, getD_row l k hk] at h2
    unfold badAt at h
    exact ((by decide : ∀ a b : Bool, (a && b) = true → (!b) = true → False) _ _ h2 h).elim
theorem badAt_no {l : List RowP} {k : Nat} (hk : k < l.length) (h0 : riseB l k = true) (h : badAt l k l[k] = false) : riseB l (k + 1) = true ∧ rowB l[k] = true := by
  unfold badAt at h
  simp only [Bool.not_eq_false'] at h
  refine ⟨?_, by simp only [Bool.and_eq_true] at h; exact h.1⟩
  rw [riseB_succ, getD_row l k hk, h0, h]; rfl
theorem notin_snoc {x : Int} {l : List Int} {j : Nat} (h : j < l.length) : decide (x ∉ l.take (j + 1)) = (decide (x ∉ l.take j) && decide (l[j] ≠ x)) := by
  rw [← List.take_append_getElem h, Bool.eq_iff_iff]
  simp only [Bool.and_eq_true, decide_eq_true_eq, List.mem_append, List.mem_singleton]
  constructor
  · intro h1; exact ⟨fun h2 => h1 (.inl h2), fun h2 => h1 (.inr h2.symm)⟩
  · rintro ⟨h1, h2⟩ (h3 | h3)
    · exact h1 h3
    · exact h2 h3.symm
/-- What the document's Find answers. -/
def VFindR (m : Int) (q : List Int) (l : List RowP) (k : Int) (no : List Int) (w : World) (e : Ending) (w' : World) : Prop :=
  ∃ v', e = .returned (.tuple #[v', .int .i64 (dfindP m q l k (fun d => decide (d ∉ no))).2]) ∧ Same w w' ∧ SlP w' v' (dfindP m q l k (fun d => decide (d ∉ no))).1
set_option maxRecDepth 100000 in
set_option maxHeartbeats 8000000 in
theorem vfind_bad (m k : Int) (vq vr vn : Value) (q : List Int) (l : List RowP) (no : List Int) (w : World)
    (hq : Sl w (.int .i64) vq q) (hlq : ∀ x ∈ q, i64b x) (hbad : m < 0 ∨ 1 < m ∨ k < 1 ∨ 1000 < k ∨ vecB q = false) :
    Calls Try.prog 75 #[.int .i64 m, vq, vr, .int .i64 k, vn] w (VFindR m q l k no w) := by
  have hfin : ∀ (c : Int) w', Same w w' → dfindP m q l k (fun d => decide (d ∉ no)) = ([], c) → VFindR m q l k no w (.returned (.tuple #[.slice none 0 0, .int .i64 c])) w' := by
    intro c w' hS he
    exact ⟨_, by rw [he], hS, by rw [he]; exact SlP.nil _⟩
  have HF := Lib.hid hfin
  have CQ := Lib.hid (vright_any vq q w hq hlq)
  obtain ⟨a1, c1, rfl, _⟩ := hq
  clear hfin hlq
  by_cases h0 : m < 0 ∨ 1 < m
  · have hd : (m == 0) = false := by simp; omega
    have hd2 : (m == 1) = false := by simp; omega
    have hd3 : (m != 0) = true := by simp; omega
    have hd4 : (m != 1) = true := by simp; omega
    have hn0 : ¬ m = 0 := by omega
    have hn1 : ¬ m = 1 := by omega
    have HE : Hid (dfindP m q l k (fun d => decide (d ∉ no)) = ([], 1)) := Lib.hid (by unfold dfindP; rw [if_pos (by omega)])
    clear h0 hbad
    go_enter Try.func75, Try.ntmps75
    go_wp2_with fail
    go_ret2
    exact HF.out _ _ (Only.refl _ _) HE.out
  have hm : m = 0 ∨ m = 1 := by omega
  by_cases h3 : k < 1
  · have hd : decide (k < 1) = true := decide_eq_true h3
    have HE : Hid (dfindP m q l k (fun d => decide (d ∉ no)) = ([], 1)) := Lib.hid (by unfold dfindP; rw [if_pos (by omega)])
    clear h0 h3 hbad
    rcases hm with rfl | rfl
    all_goals
      go_enter Try.func75, Try.ntmps75
      go_wp2_with fail
      go_ret2
      exact HF.out _ _ (Only.refl _ _) HE.out
  have hd3 : decide (k < 1) = false := decide_eq_false h3
  by_cases h4 : 1000 < k
  · have hd : decide (1000 < k) = true := decide_eq_true h4
    have HE : Hid (dfindP m q l k (fun d => decide (d ∉ no)) = ([], 1)) := Lib.hid (by unfold dfindP; rw [if_pos (by omega)])
    clear h0 h3 h4 hbad
    rcases hm with rfl | rfl
    all_goals
      go_enter Try.func75, Try.ntmps75
      go_wp2_with fail
      go_ret2
      exact HF.out _ _ (Only.refl _ _) HE.out
  have hd4 : decide (1000 < k) = false := decide_eq_false h4
  have hvq : vecB q = false := by
    rcases hbad with h | h | h | h | h
    · exact absurd (.inl h) h0
    · exact absurd (.inr h) h0
    · exact absurd h h3
    · exact absurd h h4
    · exact h
  have HE : Hid (dfindP m q l k (fun d => decide (d ∉ no)) = ([], 2)) := Lib.hid (by unfold dfindP; rw [if_neg (by omega), hvq]; rfl)
  rw [hvq] at CQ
  clear h0 h3 h4 hbad hvq
  rcases hm with rfl | rfl
  all_goals
    go_enter Try.func75, Try.ntmps75
    go_wp2_with fail
    refine CQ.out.mono ?_
    rintro e w1 ⟨rfl, hS1⟩
    go_wp2_with fail
    go_ret2
    exact HF.out _ _ hS1 HE.out
set_option maxRecDepth 100000 in
set_option maxHeartbeats 8000000 in
theorem vfind_good (m k : Int) (vq vr vn : Value) (q : List Int) (l : List RowP) (no : List Int) (w : World)
    (hq : Sl w (.int .i64) vq q) (hr : SlR w vr l) (hn : Sl w (.int .i64) vn no) (hlq : ∀ x ∈ q, i64b x) (hlr : ∀ r ∈ l, i64b r.1 ∧ ∀ x ∈ r.2, i64b x)
    (hm : m = 0 ∨ m = 1) (hk : 1 ≤ k ∧ k ≤ 1000) (hvq : vecB q = true) (hl : l.length ≤ 1000) :
    Calls Try.prog 75 #[.int .i64 m, vq, vr, .int .i64 k, vn] w (VFindR m q l k no w) := by
  have HQ := Lib.hid hq; have HR := Lib.hid hr; have HNO := Lib.hid hn; have HLQ := Lib.hid hlq; have HLR := Lib.hid hlr; have HK := Lib.hid hk; have HVQ := Lib.hid hvq; have HM := Lib.hid hm
  have cq := vright_any vq q w hq hlq
  rw [hvq] at cq
  have CQ := Lib.hid cq
  have HFB : Hid (riseB l l.length = false → dfindP m q l k (fun d => decide (d ∉ no)) = ([], 2)) := Lib.hid (fun h => by unfold dfindP; rw [if_neg (by omega), hvq, h]; rfl)
  have HFG : Hid (riseB l l.length = true → dfindP m q l k (fun d => decide (d ∉ no)) = (bestP k (offsP m q (fun d => decide (d ∉ no)) l), 0)) := Lib.hid (fun h => by unfold dfindP; rw [if_neg (by omega), hvq, h]; rfl)
  obtain ⟨aq, mq, rfl, _⟩ := hq
  obtain ⟨ar, mr, rfl, _⟩ := hr
  obtain ⟨an, mn, rfl, hmn, hmx, _⟩ := hn
  unfold maxLen at hmx
  have hd3 : decide (k < 1) = false := decide_eq_false (by omega)
  have hd4 : decide (1000 < k) = false := decide_eq_false (by omega)
  clear hlq hlr hk hvq cq
  go_enter Try.func75, Try.ntmps75
  go_upto_region 1 with fail
  go_cut [32] from 19 (fun s32 wx => wx = w ∧ s32 = .bool false)
  case first =>
    rcases hm with rfl | rfl
    all_goals
      go_wp2_with fail
      go_meet
      exact ⟨rfl, rfl⟩
  case rest =>
    obtain ⟨rfl, rfl⟩ := hcut
    obtain ⟨wc0, hwc0⟩ : ∃ x, x = wc := ⟨_, rfl⟩
    subst hwc0
    clear hm hd3 hd4
    go_wp2_with fail
    refine CQ.out.mono ?_
    rintro e w1 ⟨rfl, hS1⟩
    have HS1 := Lib.hid hS1
    clear hS1
    go_wp2_with fail
    go_loopw [12, 13] (fun o i wr => ∃ j : Nat, j ≤ l.length ∧ i = .int .i64 j ∧ Same wc0 wr ∧ riseB l j = true ∧ wr.ownsRow wc0.heap.size 89 2 o (offsP m q (fun d => decide (d ∉ no)) (l.take j)).length (cells2 (offsP m q (fun d => decide (d ∉ no)) (l.take j)))) (fun _ i _ => l.length - (intOf i).toNat)
    case atStart => exact ⟨0, by omega, rfl, HS1.out, rfl, World.ownsRow_nil _ _ _ _⟩
    case round =>
      obtain ⟨j, hj, rfl, hS, hri, hown⟩ := hrel
      obtain ⟨w3, hw3⟩ : ∃ x, x = wr := ⟨_, rfl⟩
      subst hw3
      have HS := Lib.hid hS; have HRI := Lib.hid hri; have HOWN := Lib.hid hown
      clear hS hri hown
      by_cases hlt : j < l.length
      · obtain ⟨b1, o1, rfl, hcell⟩ := HR.out.spot (by omega)
        obtain ⟨k1, u, k2, hsl⟩ := hcell j hlt
        have k1 := HS.out.cell_eq k1 (fun h => h)
        have k2 := HS.out.cell_eq k2 (fun h => h)
        have hsl := hsl.same HS.out
        have HBY := Lib.hid (badAt_yes hlt); have HBN := Lib.hid (badAt_no hlt HRI.out)
        have hst : l.take (j + 1) = l.take j ++ [l[j]] := (List.take_append_getElem hlt).symm
        have hos := offs_snoc m q (fun d => decide (d ∉ no)) (l.take j) l[j]
        rw [← hst] at hos
        have hlri := HLR.out l[j] (List.getElem_mem hlt)
        obtain ⟨bad, hbd⟩ : ∃ b, b = badAt l j l[j] := ⟨_, rfl⟩
        rw [← hbd] at HBY HBN
        obtain ⟨x, vec, hxv⟩ : ∃ x vec, l[j] = (x, vec) := ⟨l[j].1, l[j].2, rfl⟩
        rw [hxv] at k1 hsl hos hbd HBN hlri
        have hsl : Sl w3 (.int .i64) u vec := hsl
        have hsl2 := hsl
        obtain ⟨ua, uc, hu, _⟩ := hsl2
        subst hu
        have HSU := Lib.hid hsl; have HOS := Lib.hid hos; have HBD := Lib.hid hbd
        have hw6 : IntKind.i64.wrap ((j : Int) + 1) = (j : Int) + 1 := wrapS (by omega)
        have hd : decide ((j : Int) < (l.length : Int)) = true := decide_eq_true (by omega)
        have hd2 : decide (j < l.length) = true := decide_eq_true hlt
        have hp := HR.out.spot (by omega)
        have HC : Hid (∀ i (h : i < l.length), w3.cell? ⟨b1, o1 + i * 2, none⟩ = some (.int .i64 l[i].1)) := Lib.hid (fun i h => HS.out.cell_eq (hcell i h).1 (fun h => h))
        clear hcell hst hos hbd hsl hxv hp
        go_upto_region 10 with fail
        have hSa : Same w3 (w3.alloc (.cells #[.int .i64 x, .slice ua vec.length uc] 205)) := (Only.refl _ w3).alloc _
        obtain ⟨p0, p1, _, _⟩ := two_facts (blk_new w3 (.cells #[.int .i64 x, .slice ua vec.length uc] 205))
        have HS4 := Lib.hid (HS.out.then hSa); have HSV := Lib.hid (HSU.out.same hSa); have HSA := Lib.hid hSa
        generalize w3.alloc (.cells #[.int .i64 x, .slice ua vec.length uc] 205) = W at *
        have cr := fun w0 (h : Same W w0) => vright_any (.slice ua vec.length uc) vec w0 (HSV.out.same h) hlri.2
        have CR := Lib.hid cr
        have HP := Lib.hid (And.intro p0 p1)
        have HVI := Lib.hid hlri.2
        clear k1 k2 hSa cr hlri
        go_cut [74] from 36 to 106 (fun s74 wx => s74 = .bool bad ∧ Same W wx)
        case first =>
          have q0 : Same W W := Only.refl _ _
          by_cases hx0 : x < 0
          · have hdx : decide (x < 0) = true := decide_eq_true hx0
            have HB : Hid (bad = true) := Lib.hid (by rw [HBD.out]; unfold badAt rowB; simp; omega)
            clear hx0
            go_quiet (fail)
            rename_i nq
            go_wp2_with fail
            go_meet
            exact ⟨by rw [HB.out], (Only.refl _ _).drewN nq⟩
          by_cases hx1 : 2147483647 < x
          · have hdx : decide (x < 0) = false := decide_eq_false hx0
            have hdy : decide (2147483647 < x) = true := decide_eq_true hx1
            have HB : Hid (bad = true) := Lib.hid (by rw [HBD.out]; unfold badAt rowB; simp; omega)
            clear hx0 hx1
            go_quiet (fail)
            rename_i nq
            go_wp2_with fail
            go_meet
            exact ⟨by rw [HB.out], (Only.refl _ _).drewN nq⟩
          have hdx : decide (x < 0) = false := decide_eq_false hx0
          have hdy : decide (2147483647 < x) = false := decide_eq_false hx1
          have hKK : ∀ w', Same W w' → (w'.cell? ⟨w3.heap.size, 0, none⟩ = some (.int .i64 x) ∧ w'.cell? ⟨w3.heap.size, 1, none⟩ = some (.slice ua vec.length uc)) := fun w' h => ⟨h.cell_eq p0 (fun h => h), h.cell_eq p1 (fun h => h)⟩
          cases hvb : vecB vec with
          | false =>
            have HB : Hid (bad = true) := Lib.hid (by rw [HBD.out]; unfold badAt rowB; rw [hvb]; simp)
            rw [hvb] at CR
            have HK := Lib.hid hKK
            clear hKK hx0 hx1 hvb
            refine wp_region_held_drew (S := (fun w' => w'.cell? ⟨w3.heap.size, 0, none⟩ = some (.int .i64 x) ∧ w'.cell? ⟨w3.heap.size, 1, none⟩ = some (.slice ua vec.length uc))) (by kernel_rfl) ?_ (fun hHeld => ?_)
            focus (first | exact HK.out _ q0 | exact HK.out _ q0.drew)
            refine wpAnyH_take (i := 0) (oi := ⟨some 46, _, _, _, _, _⟩) (v := ?_) rfl (by kernel_rfl) (by kernel_rfl) (by kernel_rfl) (fun _ _ _ h => h) (Or.inl ⟨by rfl, ?_⟩) (by assumption) ?_
            rotate_left
            focus ((intro w hSw; (try dsimp only at hSw); go_simp); try (with_reducible rfl))
            try simp only [Act.put, List.setIfInBounds_toArray, List.set_cons_zero, List.set_cons_succ]
            refine wpAnyH_take (i := 1) (oi := ⟨some 47, _, _, _, _, _⟩) (v := ?_) rfl (by kernel_rfl) (by kernel_rfl) (by kernel_rfl) (fun _ _ _ h => h) (Or.inl ⟨by rfl, ?_⟩) (by assumption) ?_
            rotate_left
            focus ((intro w hSw; (try dsimp only at hSw); go_simp); try (with_reducible rfl))
            try simp only [Act.put, List.setIfInBounds_toArray, List.set_cons_zero, List.set_cons_succ]
            refine wpAnyH_take (i := 2) (oi := ⟨some 48, _, _, _, _, _⟩) (v := ?_) rfl (by kernel_rfl) (by kernel_rfl) (by kernel_rfl) (fun _ _ _ h => h) (Or.inl ⟨by rfl, ?_⟩) (by assumption) ?_
            rotate_left
            focus ((intro w hSw; (try dsimp only at hSw); go_simp); try (with_reducible rfl))
            try simp only [Act.put, List.setIfInBounds_toArray, List.set_cons_zero, List.set_cons_succ]
            refine wpAnyH_take (i := 3) (oi := ⟨some 49, _, _, _, _, _⟩) (v := ?_) rfl (by kernel_rfl) (by kernel_rfl) (by kernel_rfl) (fun _ _ _ h => h) (Or.inl ⟨by rfl, ?_⟩) (by assumption) ?_
            rotate_left
            focus ((intro w hSw; (try dsimp only at hSw); go_simp); try (with_reducible rfl))
            try simp only [Act.put, List.setIfInBounds_toArray, List.set_cons_zero, List.set_cons_succ]
            refine wpAnyH_take (i := 4) (oi := ⟨some 50, _, _, _, _, _⟩) (v := ?_) rfl (by kernel_rfl) (by kernel_rfl) (by kernel_rfl) (fun _ _ _ h => h) (Or.inl ⟨by rfl, ?_⟩) (by assumption) ?_
            rotate_left
            focus ((intro w hSw; (try dsimp only at hSw); go_simp); try (with_reducible rfl))
            try simp only [Act.put, List.setIfInBounds_toArray, List.set_cons_zero, List.set_cons_succ]
            refine wpAnyH_take (i := 5) (oi := ⟨some 51, _, _, _, _, _⟩) (v := ?_) rfl (by kernel_rfl) (by kernel_rfl) (by kernel_rfl) (fun _ _ _ h => h) (Or.inl ⟨by rfl, ?_⟩) (by assumption) ?_
            rotate_left
            focus ((intro w hSw; (try dsimp only at hSw); go_simp); try (with_reducible rfl))
            try simp only [Act.put, List.setIfInBounds_toArray, List.set_cons_zero, List.set_cons_succ]
            refine wpAnyH_take (i := 6) (oi := ⟨some 52, _, _, _, _, _⟩) (v := ?_) rfl (by kernel_rfl) (by kernel_rfl) (by kernel_rfl) (fun _ _ _ h => h) (Or.inl ⟨by rfl, ?_⟩) (by assumption) ?_
            rotate_left
            focus ((intro w hSw; (try dsimp only at hSw); go_simp); try (with_reducible rfl))
            try simp only [Act.put, List.setIfInBounds_toArray, List.set_cons_zero, List.set_cons_succ]
            refine wpAnyH_take (i := 7) (oi := ⟨some 53, _, _, _, _, _⟩) (v := ?_) rfl (by kernel_rfl) (by kernel_rfl) (by kernel_rfl) (fun _ _ _ h => h) (Or.inl ⟨by rfl, ?_⟩) (by assumption) ?_
            rotate_left
            focus ((intro w hSw; (try dsimp only at hSw); go_simp); try (with_reducible rfl))
            try simp only [Act.put, List.setIfInBounds_toArray, List.set_cons_zero, List.set_cons_succ]
            refine wpAnyH_take (i := 8) (oi := ⟨some 54, _, _, _, _, _⟩) (v := ?_) rfl (by kernel_rfl) (by kernel_rfl) (by kernel_rfl) (fun _ _ _ h => h) (Or.inl ⟨by rfl, ?_⟩) (by assumption) ?_
            rotate_left
            focus ((intro w hSw; (try dsimp only at hSw); go_simp); try (with_reducible rfl))
            try simp only [Act.put, List.setIfInBounds_toArray, List.set_cons_zero, List.set_cons_succ]
            refine wpAnyH_take (i := 9) (oi := ⟨some 55, _, _, _, _, _⟩) (v := ?_) rfl (by kernel_rfl) (by kernel_rfl) (by kernel_rfl) (fun _ _ _ h => h) (Or.inl ⟨by rfl, ?_⟩) (by assumption) ?_
            rotate_left
            focus ((intro w hSw; (try dsimp only at hSw); go_simp); try (with_reducible rfl))
            try simp only [Act.put, List.setIfInBounds_toArray, List.set_cons_zero, List.set_cons_succ]
            refine wpAnyH_take (i := 10) (oi := ⟨some 56, _, _, _, _, _⟩) (v := ?_) rfl (by kernel_rfl) (by kernel_rfl) (by kernel_rfl) (fun _ _ _ h => h) (Or.inl ⟨by rfl, ?_⟩) (by assumption) ?_
            rotate_left
            focus ((intro w hSw; (try dsimp only at hSw); go_simp); try (with_reducible rfl))
            try simp only [Act.put, List.setIfInBounds_toArray, List.set_cons_zero, List.set_cons_succ]
            refine wpAnyH_ready (rs := [11]) (by kernel_rfl) (by simp) ?_
            refine AllReadyH.cons (o := ⟨some 57, _, _, _, _, _⟩) rfl (fun K hK => ?_) AllReadyH.nil
            go_simp
            go_at_call 78; (first | refine (CR.out _ q0).mono ?_ | refine (CR.out _ q0.drew).mono ?_); rintro e w8 ⟨rfl, hS8⟩; have q0 := Only.then (by first | exact q0 | exact q0.drew) hS8; clear hS8
            refine hK.out _ _ ?_ (fun hHeld => ?_)
            focus ((try dsimp only); first | exact HK.out _ q0 | exact HK.out _ q0.drew)
            clear hK K
            try simp only [Act.put, List.setIfInBounds_toArray, List.set_cons_zero, List.set_cons_succ]
            refine wpAnyH_take (i := 12) (oi := ⟨some 58, _, _, _, _, _⟩) (v := ?_) rfl (by kernel_rfl) (by kernel_rfl) (by kernel_rfl) (fun _ _ _ h => h) (Or.inl ⟨by rfl, ?_⟩) (by assumption) ?_
            rotate_left
            focus ((intro w hSw; (try dsimp only at hSw); go_simp); try (with_reducible rfl))
            try simp only [Act.put, List.setIfInBounds_toArray, List.set_cons_zero, List.set_cons_succ]
            refine wpAnyH_take (i := 13) (oi := ⟨some 59, _, _, _, _, _⟩) (v := ?_) rfl (by kernel_rfl) (by kernel_rfl) (by kernel_rfl) (fun _ _ _ h => h) (Or.inl ⟨by rfl, ?_⟩) (by assumption) ?_
            rotate_left
            focus ((intro w hSw; (try dsimp only at hSw); go_simp); try (with_reducible rfl))
            try simp only [Act.put, List.setIfInBounds_toArray, List.set_cons_zero, List.set_cons_succ]
            refine wpAnyH_take (i := 14) (oi := ⟨some 60, _, _, _, _, _⟩) (v := ?_) rfl (by kernel_rfl) (by kernel_rfl) (by kernel_rfl) (fun _ _ _ h => h) (Or.inl ⟨by rfl, ?_⟩) (by assumption) ?_
            rotate_left
            focus ((intro w hSw; (try dsimp only at hSw); go_simp); try (with_reducible rfl))
            try simp only [Act.put, List.setIfInBounds_toArray, List.set_cons_zero, List.set_cons_succ]
            refine wpAnyH_take (i := 15) (oi := ⟨some 61, _, _, _, _, _⟩) (v := undef) rfl (by kernel_rfl) (by kernel_rfl) (by kernel_rfl) (fun _ _ _ h => h) (Or.inr ⟨by rfl, rfl⟩) (by assumption) ?_
            try simp only [Act.put, List.setIfInBounds_toArray, List.set_cons_zero, List.set_cons_succ]
            refine wpAnyH_take (i := 16) (oi := ⟨some 62, _, _, _, _, _⟩) (v := undef) rfl (by kernel_rfl) (by kernel_rfl) (by kernel_rfl) (fun _ _ _ h => h) (Or.inr ⟨by rfl, rfl⟩) (by assumption) ?_
            try simp only [Act.put, List.setIfInBounds_toArray, List.set_cons_zero, List.set_cons_succ]
            refine wpAnyH_take (i := 17) (oi := ⟨some 63, _, _, _, _, _⟩) (v := undef) rfl (by kernel_rfl) (by kernel_rfl) (by kernel_rfl) (fun _ _ _ h => h) (Or.inr ⟨by rfl, rfl⟩) (by assumption) ?_
            try simp only [Act.put, List.setIfInBounds_toArray, List.set_cons_zero, List.set_cons_succ]
            refine wpAnyH_take (i := 18) (oi := ⟨some 64, _, _, _, _, _⟩) (v := undef) rfl (by kernel_rfl) (by kernel_rfl) (by kernel_rfl) (fun _ _ _ h => h) (Or.inr ⟨by rfl, rfl⟩) (by assumption) ?_
            try simp only [Act.put, List.setIfInBounds_toArray, List.set_cons_zero, List.set_cons_succ]
            refine wpAnyH_take (i := 19) (oi := ⟨some 65, _, _, _, _, _⟩) (v := undef) rfl (by kernel_rfl) (by kernel_rfl) (by kernel_rfl) (fun _ _ _ h => h) (Or.inr ⟨by rfl, rfl⟩) (by assumption) ?_
            try simp only [Act.put, List.setIfInBounds_toArray, List.set_cons_zero, List.set_cons_succ]
            refine wpAnyH_take (i := 20) (oi := ⟨some 66, _, _, _, _, _⟩) (v := undef) rfl (by kernel_rfl) (by kernel_rfl) (by kernel_rfl) (fun _ _ _ h => h) (Or.inr ⟨by rfl, rfl⟩) (by assumption) ?_
            try simp only [Act.put, List.setIfInBounds_toArray, List.set_cons_zero, List.set_cons_succ]
            refine wpAnyH_take (i := 21) (oi := ⟨some 67, _, _, _, _, _⟩) (v := undef) rfl (by kernel_rfl) (by kernel_rfl) (by kernel_rfl) (fun _ _ _ h => h) (Or.inr ⟨by rfl, rfl⟩) (by assumption) ?_
            try simp only [Act.put, List.setIfInBounds_toArray, List.set_cons_zero, List.set_cons_succ]
            refine wpAnyH_take (i := 22) (oi := ⟨some 68, _, _, _, _, _⟩) (v := undef) rfl (by kernel_rfl) (by kernel_rfl) (by kernel_rfl) (fun _ _ _ h => h) (Or.inr ⟨by rfl, rfl⟩) (by assumption) ?_
            try simp only [Act.put, List.setIfInBounds_toArray, List.set_cons_zero, List.set_cons_succ]
            refine wpAnyH_take (i := 23) (oi := ⟨some 69, _, _, _, _, _⟩) (v := undef) rfl (by kernel_rfl) (by kernel_rfl) (by kernel_rfl) (fun _ _ _ h => h) (Or.inr ⟨by rfl, rfl⟩) (by assumption) ?_
            try simp only [Act.put, List.setIfInBounds_toArray, List.set_cons_zero, List.set_cons_succ]
            refine wpAnyH_take (i := 24) (oi := ⟨some 70, _, _, _, _, _⟩) (v := undef) rfl (by kernel_rfl) (by kernel_rfl) (by kernel_rfl) (fun _ _ _ h => h) (Or.inr ⟨by rfl, rfl⟩) (by assumption) ?_
            try simp only [Act.put, List.setIfInBounds_toArray, List.set_cons_zero, List.set_cons_succ]
            refine wpAnyH_take (i := 25) (oi := ⟨some 71, _, _, _, _, _⟩) (v := undef) rfl (by kernel_rfl) (by kernel_rfl) (by kernel_rfl) (fun _ _ _ h => h) (Or.inr ⟨by rfl, rfl⟩) (by assumption) ?_
            try simp only [Act.put, List.setIfInBounds_toArray, List.set_cons_zero, List.set_cons_succ]
            refine wpAnyH_take (i := 26) (oi := ⟨some 72, _, _, _, _, _⟩) (v := undef) rfl (by kernel_rfl) (by kernel_rfl) (by kernel_rfl) (fun _ _ _ h => h) (Or.inr ⟨by rfl, rfl⟩) (by assumption) ?_
            try simp only [Act.put, List.setIfInBounds_toArray, List.set_cons_zero, List.set_cons_succ]
            refine wpAnyH_take (i := 27) (oi := ⟨some 73, _, _, _, _, _⟩) (v := undef) rfl (by kernel_rfl) (by kernel_rfl) (by kernel_rfl) (fun _ _ _ h => h) (Or.inr ⟨by rfl, rfl⟩) (by assumption) ?_
            try simp only [Act.put, List.setIfInBounds_toArray, List.set_cons_zero, List.set_cons_succ]
            refine wpAnyH_take (i := 28) (oi := ⟨some 74, _, _, _, _, _⟩) (v := ?_) rfl (by kernel_rfl) (by kernel_rfl) (by kernel_rfl) (fun _ _ _ h => h) (Or.inl ⟨by rfl, ?_⟩) (by assumption) ?_
            rotate_left
            focus ((intro w hSw; (try dsimp only at hSw); go_simp); try (with_reducible rfl))
            try simp only [Act.put, List.setIfInBounds_toArray, List.set_cons_zero, List.set_cons_succ]
            refine wpAnyH_done (by kernel_rfl) ?_ _
            go_wp2_with fail
            go_meet
            exact ⟨by rw [HB.out], by first | exact q0 | exact q0.drew⟩
          | true =>
          rw [hvb] at CR
          have hrb : rowB (x, vec) = true := by unfold rowB; rw [hvb]; simp; omega
          by_cases hk0 : j = 0
          · have HB : Hid (bad = false) := Lib.hid (by rw [HBD.out]; unfold badAt; rw [hrb, decide_eq_true hk0]; rfl)
            have hdz : decide (0 < j) = false := decide_eq_false (by omega)
            have HK := Lib.hid hKK
            clear hKK hx0 hx1 hvb hk0 hrb
            refine wp_region_held_drew (S := (fun w' => w'.cell? ⟨w3.heap.size, 0, none⟩ = some (.int .i64 x) ∧ w'.cell? ⟨w3.heap.size, 1, none⟩ = some (.slice ua vec.length uc))) (by kernel_rfl) ?_ (fun hHeld => ?_)
            focus (first | exact HK.out _ q0 | exact HK.out _ q0.drew)
            refine wpAnyH_take (i := 0) (oi := ⟨some 46, _, _, _, _, _⟩) (v := ?_) rfl (by kernel_rfl) (by kernel_rfl) (by kernel_rfl) (fun _ _ _ h => h) (Or.inl ⟨by rfl, ?_⟩) (by assumption) ?_
            rotate_left
            focus ((intro w hSw; (try dsimp only at hSw); go_simp); try (with_reducible rfl))
            try simp only [Act.put, List.setIfInBounds_toArray, List.set_cons_zero, List.set_cons_succ]
            refine wpAnyH_take (i := 1) (oi := ⟨some 47, _, _, _, _, _⟩) (v := ?_) rfl (by kernel_rfl) (by kernel_rfl) (by kernel_rfl) (fun _ _ _ h => h) (Or.inl ⟨by rfl, ?_⟩) (by assumption) ?_
            rotate_left
            focus ((intro w hSw; (try dsimp only at hSw); go_simp); try (with_reducible rfl))
            try simp only [Act.put, List.setIfInBounds_toArray, List.set_cons_zero, List.set_cons_succ]
            refine wpAnyH_take (i := 2) (oi := ⟨some 48, _, _, _, _, _⟩) (v := ?_) rfl (by kernel_rfl) (by kernel_rfl) (by kernel_rfl) (fun _ _ _ h => h) (Or.inl ⟨by rfl, ?_⟩) (by assumption) ?_
            rotate_left
            focus ((intro w hSw; (try dsimp only at hSw); go_simp); try (with_reducible rfl))
            try simp only [Act.put, List.setIfInBounds_toArray, List.set_cons_zero, List.set_cons_succ]
            refine wpAnyH_take (i := 3) (oi := ⟨some 49, _, _, _, _, _⟩) (v := ?_) rfl (by kernel_rfl) (by kernel_rfl) (by kernel_rfl) (fun _ _ _ h => h) (Or.inl ⟨by rfl, ?_⟩) (by assumption) ?_
            rotate_left
            focus ((intro w hSw; (try dsimp only at hSw); go_simp); try (with_reducible rfl))
            try simp only [Act.put, List.setIfInBounds_toArray, List.set_cons_zero, List.set_cons_succ]
            refine wpAnyH_take (i := 4) (oi := ⟨some 50, _, _, _, _, _⟩) (v := ?_) rfl (by kernel_rfl) (by kernel_rfl) (by kernel_rfl) (fun _ _ _ h => h) (Or.inl ⟨by rfl, ?_⟩) (by assumption) ?_
            rotate_left
            focus ((intro w hSw; (try dsimp only at hSw); go_simp); try (with_reducible rfl))
            try simp only [Act.put, List.setIfInBounds_toArray, List.set_cons_zero, List.set_cons_succ]
            refine wpAnyH_take (i := 5) (oi := ⟨some 51, _, _, _, _, _⟩) (v := ?_) rfl (by kernel_rfl) (by kernel_rfl) (by kernel_rfl) (fun _ _ _ h => h) (Or.inl ⟨by rfl, ?_⟩) (by assumption) ?_
            rotate_left
            focus ((intro w hSw; (try dsimp only at hSw); go_simp); try (with_reducible rfl))
            try simp only [Act.put, List.setIfInBounds_toArray, List.set_cons_zero, List.set_cons_succ]
            refine wpAnyH_take (i := 6) (oi := ⟨some 52, _, _, _, _, _⟩) (v := ?_) rfl (by kernel_rfl) (by kernel_rfl) (by kernel_rfl) (fun _ _ _ h => h) (Or.inl ⟨by rfl, ?_⟩) (by assumption) ?_
            rotate_left
            focus ((intro w hSw; (try dsimp only at hSw); go_simp); try (with_reducible rfl))
            try simp only [Act.put, List.setIfInBounds_toArray, List.set_cons_zero, List.set_cons_succ]
            refine wpAnyH_take (i := 7) (oi := ⟨some 53, _, _, _, _, _⟩) (v := ?_) rfl (by kernel_rfl) (by kernel_rfl) (by kernel_rfl) (fun _ _ _ h => h) (Or.inl ⟨by rfl, ?_⟩) (by assumption) ?_
            rotate_left
            focus ((intro w hSw; (try dsimp only at hSw); go_simp); try (with_reducible rfl))
            try simp only [Act.put, List.setIfInBounds_toArray, List.set_cons_zero, List.set_cons_succ]
            refine wpAnyH_take (i := 8) (oi := ⟨some 54, _, _, _, _, _⟩) (v := ?_) rfl (by kernel_rfl) (by kernel_rfl) (by kernel_rfl) (fun _ _ _ h => h) (Or.inl ⟨by rfl, ?_⟩) (by assumption) ?_
            rotate_left
            focus ((intro w hSw; (try dsimp only at hSw); go_simp); try (with_reducible rfl))
            try simp only [Act.put, List.setIfInBounds_toArray, List.set_cons_zero, List.set_cons_succ]
            refine wpAnyH_take (i := 9) (oi := ⟨some 55, _, _, _, _, _⟩) (v := ?_) rfl (by kernel_rfl) (by kernel_rfl) (by kernel_rfl) (fun _ _ _ h => h) (Or.inl ⟨by rfl, ?_⟩) (by assumption) ?_
            rotate_left
            focus ((intro w hSw; (try dsimp only at hSw); go_simp); try (with_reducible rfl))
            try simp only [Act.put, List.setIfInBounds_toArray, List.set_cons_zero, List.set_cons_succ]
            refine wpAnyH_take (i := 10) (oi := ⟨some 56, _, _, _, _, _⟩) (v := ?_) rfl (by kernel_rfl) (by kernel_rfl) (by kernel_rfl) (fun _ _ _ h => h) (Or.inl ⟨by rfl, ?_⟩) (by assumption) ?_
            rotate_left
            focus ((intro w hSw; (try dsimp only at hSw); go_simp); try (with_reducible rfl))
            try simp only [Act.put, List.setIfInBounds_toArray, List.set_cons_zero, List.set_cons_succ]
            refine wpAnyH_ready (rs := [11]) (by kernel_rfl) (by simp) ?_
            refine AllReadyH.cons (o := ⟨some 57, _, _, _, _, _⟩) rfl (fun K hK => ?_) AllReadyH.nil
            go_simp
            go_at_call 78; (first | refine (CR.out _ q0).mono ?_ | refine (CR.out _ q0.drew).mono ?_); rintro e w8 ⟨rfl, hS8⟩; have q0 := Only.then (by first | exact q0 | exact q0.drew) hS8; clear hS8
            refine hK.out _ _ ?_ (fun hHeld => ?_)
            focus ((try dsimp only); first | exact HK.out _ q0 | exact HK.out _ q0.drew)
            clear hK K
            try simp only [Act.put, List.setIfInBounds_toArray, List.set_cons_zero, List.set_cons_succ]
            refine wpAnyH_take (i := 12) (oi := ⟨some 58, _, _, _, _, _⟩) (v := ?_) rfl (by kernel_rfl) (by kernel_rfl) (by kernel_rfl) (fun _ _ _ h => h) (Or.inl ⟨by rfl, ?_⟩) (by assumption) ?_
            rotate_left
            focus ((intro w hSw; (try dsimp only at hSw); go_simp); try (with_reducible rfl))
            try simp only [Act.put, List.setIfInBounds_toArray, List.set_cons_zero, List.set_cons_succ]
            refine wpAnyH_take (i := 13) (oi := ⟨some 59, _, _, _, _, _⟩) (v := ?_) rfl (by kernel_rfl) (by kernel_rfl) (by kernel_rfl) (fun _ _ _ h => h) (Or.inl ⟨by rfl, ?_⟩) (by assumption) ?_
            rotate_left
            focus ((intro w hSw; (try dsimp only at hSw); go_simp); try (with_reducible rfl))
            try simp only [Act.put, List.setIfInBounds_toArray, List.set_cons_zero, List.set_cons_succ]
            refine wpAnyH_take (i := 14) (oi := ⟨some 60, _, _, _, _, _⟩) (v := ?_) rfl (by kernel_rfl) (by kernel_rfl) (by kernel_rfl) (fun _ _ _ h => h) (Or.inl ⟨by rfl, ?_⟩) (by assumption) ?_
            rotate_left
            focus ((intro w hSw; (try dsimp only at hSw); go_simp); try (with_reducible rfl))
            try simp only [Act.put, List.setIfInBounds_toArray, List.set_cons_zero, List.set_cons_succ]
            refine wpAnyH_take (i := 15) (oi := ⟨some 61, _, _, _, _, _⟩) (v := ?_) rfl (by kernel_rfl) (by kernel_rfl) (by kernel_rfl) (fun _ _ _ h => h) (Or.inl ⟨by rfl, ?_⟩) (by assumption) ?_
            rotate_left
            focus ((intro w hSw; (try dsimp only at hSw); go_simp); try (with_reducible rfl))
            try simp only [Act.put, List.setIfInBounds_toArray, List.set_cons_zero, List.set_cons_succ]
            refine wpAnyH_take (i := 16) (oi := ⟨some 62, _, _, _, _, _⟩) (v := ?_) rfl (by kernel_rfl) (by kernel_rfl) (by kernel_rfl) (fun _ _ _ h => h) (Or.inl ⟨by rfl, ?_⟩) (by assumption) ?_
            rotate_left
            focus ((intro w hSw; (try dsimp only at hSw); go_simp); try (with_reducible rfl))
            try simp only [Act.put, List.setIfInBounds_toArray, List.set_cons_zero, List.set_cons_succ]
            refine wpAnyH_take (i := 17) (oi := ⟨some 63, _, _, _, _, _⟩) (v := ?_) rfl (by kernel_rfl) (by kernel_rfl) (by kernel_rfl) (fun _ _ _ h => h) (Or.inl ⟨by rfl, ?_⟩) (by assumption) ?_
            rotate_left
            focus ((intro w hSw; (try dsimp only at hSw); go_simp); try (with_reducible rfl))
            try simp only [Act.put, List.setIfInBounds_toArray, List.set_cons_zero, List.set_cons_succ]
            refine wpAnyH_take (i := 18) (oi := ⟨some 64, _, _, _, _, _⟩) (v := undef) rfl (by kernel_rfl) (by kernel_rfl) (by kernel_rfl) (fun _ _ _ h => h) (Or.inr ⟨by rfl, rfl⟩) (by assumption) ?_
            try simp only [Act.put, List.setIfInBounds_toArray, List.set_cons_zero, List.set_cons_succ]
            refine wpAnyH_take (i := 19) (oi := ⟨some 65, _, _, _, _, _⟩) (v := undef) rfl (by kernel_rfl) (by kernel_rfl) (by kernel_rfl) (fun _ _ _ h => h) (Or.inr ⟨by rfl, rfl⟩) (by assumption) ?_
            try simp only [Act.put, List.setIfInBounds_toArray, List.set_cons_zero, List.set_cons_succ]
            refine wpAnyH_take (i := 20) (oi := ⟨some 66, _, _, _, _, _⟩) (v := undef) rfl (by kernel_rfl) (by kernel_rfl) (by kernel_rfl) (fun _ _ _ h => h) (Or.inr ⟨by rfl, rfl⟩) (by assumption) ?_
            try simp only [Act.put, List.setIfInBounds_toArray, List.set_cons_zero, List.set_cons_succ]
            refine wpAnyH_take (i := 21) (oi := ⟨some 67, _, _, _, _, _⟩) (v := undef) rfl (by kernel_rfl) (by kernel_rfl) (by kernel_rfl) (fun _ _ _ h => h) (Or.inr ⟨by rfl, rfl⟩) (by assumption) ?_
            try simp only [Act.put, List.setIfInBounds_toArray, List.set_cons_zero, List.set_cons_succ]
            refine wpAnyH_take (i := 22) (oi := ⟨some 68, _, _, _, _, _⟩) (v := undef) rfl (by kernel_rfl) (by kernel_rfl) (by kernel_rfl) (fun _ _ _ h => h) (Or.inr ⟨by rfl, rfl⟩) (by assumption) ?_
            try simp only [Act.put, List.setIfInBounds_toArray, List.set_cons_zero, List.set_cons_succ]
            refine wpAnyH_take (i := 23) (oi := ⟨some 69, _, _, _, _, _⟩) (v := undef) rfl (by kernel_rfl) (by kernel_rfl) (by kernel_rfl) (fun _ _ _ h => h) (Or.inr ⟨by rfl, rfl⟩) (by assumption) ?_
            try simp only [Act.put, List.setIfInBounds_toArray, List.set_cons_zero, List.set_cons_succ]
            refine wpAnyH_take (i := 24) (oi := ⟨some 70, _, _, _, _, _⟩) (v := undef) rfl (by kernel_rfl) (by kernel_rfl) (by kernel_rfl) (fun _ _ _ h => h) (Or.inr ⟨by rfl, rfl⟩) (by assumption) ?_
            try simp only [Act.put, List.setIfInBounds_toArray, List.set_cons_zero, List.set_cons_succ]
            refine wpAnyH_take (i := 25) (oi := ⟨some 71, _, _, _, _, _⟩) (v := undef) rfl (by kernel_rfl) (by kernel_rfl) (by kernel_rfl) (fun _ _ _ h => h) (Or.inr ⟨by rfl, rfl⟩) (by assumption) ?_
            try simp only [Act.put, List.setIfInBounds_toArray, List.set_cons_zero, List.set_cons_succ]
            refine wpAnyH_take (i := 26) (oi := ⟨some 72, _, _, _, _, _⟩) (v := undef) rfl (by kernel_rfl) (by kernel_rfl) (by kernel_rfl) (fun _ _ _ h => h) (Or.inr ⟨by rfl, rfl⟩) (by assumption) ?_
            try simp only [Act.put, List.setIfInBounds_toArray, List.set_cons_zero, List.set_cons_succ]
            refine wpAnyH_take (i := 27) (oi := ⟨some 73, _, _, _, _, _⟩) (v := ?_) rfl (by kernel_rfl) (by kernel_rfl) (by kernel_rfl) (fun _ _ _ h => h) (Or.inl ⟨by rfl, ?_⟩) (by assumption) ?_
            rotate_left
            focus ((intro w hSw; (try dsimp only at hSw); go_simp); try (with_reducible rfl))
            try simp only [Act.put, List.setIfInBounds_toArray, List.set_cons_zero, List.set_cons_succ]
            refine wpAnyH_take (i := 28) (oi := ⟨some 74, _, _, _, _, _⟩) (v := ?_) rfl (by kernel_rfl) (by kernel_rfl) (by kernel_rfl) (fun _ _ _ h => h) (Or.inl ⟨by rfl, ?_⟩) (by assumption) ?_
            rotate_left
            focus ((intro w hSw; (try dsimp only at hSw); go_simp); try (with_reducible rfl))
            try simp only [Act.put, List.setIfInBounds_toArray, List.set_cons_zero, List.set_cons_succ]
            refine wpAnyH_done (by kernel_rfl) ?_ _
            go_wp2_with fail
            go_meet
            exact ⟨by rw [HB.out], by first | exact q0 | exact q0.drew⟩
          obtain ⟨p, rfl⟩ : ∃ p, j = p + 1 := ⟨j - 1, by omega⟩
          have hpl : p < l.length := by omega
          have k3 := HSA.out.cell_eq (HC.out p hpl) (fun h => h)
          have hyd : (l.getD p (0, [])).1 = l[p].1 := by rw [List.getD_eq_getElem?_getD, List.getElem?_eq_getElem hpl]; rfl
          obtain ⟨y, hy⟩ : ∃ y, y = l[p].1 := ⟨_, rfl⟩
          rw [← hy] at k3 hyd
          have hdz : decide (0 < p + 1) = true := decide_eq_true (by omega)
          have hdw : decide ((0 : Int) < (p : Int) + 1) = true := decide_eq_true (by omega)
          have hwp := wrapS (x := (p : Int)) (by omega)
          have hKK3 : ∀ w', Same W w' → (w'.cell? ⟨w3.heap.size, 0, none⟩ = some (.int .i64 x) ∧ w'.cell? ⟨w3.heap.size, 1, none⟩ = some (.slice ua vec.length uc) ∧ w'.cell? ⟨b1, o1 + p * 2, none⟩ = some (.int .i64 y)) := fun w' h => ⟨h.cell_eq p0 (fun h => h), h.cell_eq p1 (fun h => h), h.cell_eq k3 (fun h => h)⟩
          have HK := Lib.hid hKK3
          have hbp : badAt l (p + 1) (x, vec) = !(decide (y < x)) := by unfold badAt; rw [hrb, Nat.add_sub_cancel, hyd]; simp
          rw [hbp] at HBD
          clear hKK hKK3 hyd hy k3 hx0 hx1 hvb hrb hk0 hbp
          by_cases hxy : x ≤ y
          · have hd5 : decide (x ≤ y) = true := decide_eq_true hxy
            have HB : Hid (bad = true) := Lib.hid (by rw [HBD.out]; simp; omega)
            clear hxy
            refine wp_region_held_drew (S := (fun w' => w'.cell? ⟨w3.heap.size, 0, none⟩ = some (.int .i64 x) ∧ w'.cell? ⟨w3.heap.size, 1, none⟩ = some (.slice ua vec.length uc) ∧ w'.cell? ⟨b1, o1 + p * 2, none⟩ = some (.int .i64 y))) (by kernel_rfl) ?_ (fun hHeld => ?_)
            focus (first | exact HK.out _ q0 | exact HK.out _ q0.drew)
            refine wpAnyH_take (i := 0) (oi := ⟨some 46, _, _, _, _, _⟩) (v := ?_) rfl (by kernel_rfl) (by kernel_rfl) (by kernel_rfl) (fun _ _ _ h => h) (Or.inl ⟨by rfl, ?_⟩) (by assumption) ?_
            rotate_left
            focus ((intro w hSw; (try dsimp only at hSw); go_simp); try (with_reducible rfl))
            try simp only [Act.put, List.setIfInBounds_toArray, List.set_cons_zero, List.set_cons_succ]
            refine wpAnyH_take (i := 1) (oi := ⟨some 47, _, _, _, _, _⟩) (v := ?_) rfl (by kernel_rfl) (by kernel_rfl) (by kernel_rfl) (fun _ _ _ h => h) (Or.inl ⟨by rfl, ?_⟩) (by assumption) ?_
            rotate_left
            focus ((intro w hSw; (try dsimp only at hSw); go_simp); try (with_reducible rfl))
            try simp only [Act.put, List.setIfInBounds_toArray, List.set_cons_zero, List.set_cons_succ]
            refine wpAnyH_take (i := 2) (oi := ⟨some 48, _, _, _, _, _⟩) (v := ?_) rfl (by kernel_rfl) (by kernel_rfl) (by kernel_rfl) (fun _ _ _ h => h) (Or.inl ⟨by rfl, ?_⟩) (by assumption) ?_
            rotate_left
            focus ((intro w hSw; (try dsimp only at hSw); go_simp); try (with_reducible rfl))
            try simp only [Act.put, List.setIfInBounds_toArray, List.set_cons_zero, List.set_cons_succ]
            refine wpAnyH_take (i := 3) (oi := ⟨some 49, _, _, _, _, _⟩) (v := ?_) rfl (by kernel_rfl) (by kernel_rfl) (by kernel_rfl) (fun _ _ _ h => h) (Or.inl ⟨by rfl, ?_⟩) (by assumption) ?_
            rotate_left
            focus ((intro w hSw; (try dsimp only at hSw); go_simp); try (with_reducible rfl))
            try simp only [Act.put, List.setIfInBounds_toArray, List.set_cons_zero, List.set_cons_succ]
            refine wpAnyH_take (i := 4) (oi := ⟨some 50, _, _, _, _, _⟩) (v := ?_) rfl (by kernel_rfl) (by kernel_rfl) (by kernel_rfl) (fun _ _ _ h => h) (Or.inl ⟨by rfl, ?_⟩) (by assumption) ?_
            rotate_left
            focus ((intro w hSw; (try dsimp only at hSw); go_simp); try (with_reducible rfl))
            try simp only [Act.put, List.setIfInBounds_toArray, List.set_cons_zero, List.set_cons_succ]
            refine wpAnyH_take (i := 5) (oi := ⟨some 51, _, _, _, _, _⟩) (v := ?_) rfl (by kernel_rfl) (by kernel_rfl) (by kernel_rfl) (fun _ _ _ h => h) (Or.inl ⟨by rfl, ?_⟩) (by assumption) ?_
            rotate_left
            focus ((intro w hSw; (try dsimp only at hSw); go_simp); try (with_reducible rfl))
            try simp only [Act.put, List.setIfInBounds_toArray, List.set_cons_zero, List.set_cons_succ]
            refine wpAnyH_take (i := 6) (oi := ⟨some 52, _, _, _, _, _⟩) (v := ?_) rfl (by kernel_rfl) (by kernel_rfl) (by kernel_rfl) (fun _ _ _ h => h) (Or.inl ⟨by rfl, ?_⟩) (by assumption) ?_
            rotate_left
            focus ((intro w hSw; (try dsimp only at hSw); go_simp); try (with_reducible rfl))
            try simp only [Act.put, List.setIfInBounds_toArray, List.set_cons_zero, List.set_cons_succ]
            refine wpAnyH_take (i := 7) (oi := ⟨some 53, _, _, _, _, _⟩) (v := ?_) rfl (by kernel_rfl) (by kernel_rfl) (by kernel_rfl) (fun _ _ _ h => h) (Or.inl ⟨by rfl, ?_⟩) (by assumption) ?_
            rotate_left
            focus ((intro w hSw; (try dsimp only at hSw); go_simp); try (with_reducible rfl))
            try simp only [Act.put, List.setIfInBounds_toArray, List.set_cons_zero, List.set_cons_succ]
            refine wpAnyH_take (i := 8) (oi := ⟨some 54, _, _, _, _, _⟩) (v := ?_) rfl (by kernel_rfl) (by kernel_rfl) (by kernel_rfl) (fun _ _ _ h => h) (Or.inl ⟨by rfl, ?_⟩) (by assumption) ?_
            rotate_left
            focus ((intro w hSw; (try dsimp only at hSw); go_simp); try (with_reducible rfl))
            try simp only [Act.put, List.setIfInBounds_toArray, List.set_cons_zero, List.set_cons_succ]
            refine wpAnyH_take (i := 9) (oi := ⟨some 55, _, _, _, _, _⟩) (v := ?_) rfl (by kernel_rfl) (by kernel_rfl) (by kernel_rfl) (fun _ _ _ h => h) (Or.inl ⟨by rfl, ?_⟩) (by assumption) ?_
            rotate_left
            focus ((intro w hSw; (try dsimp only at hSw); go_simp); try (with_reducible rfl))
            try simp only [Act.put, List.setIfInBounds_toArray, List.set_cons_zero, List.set_cons_succ]
            refine wpAnyH_take (i := 10) (oi := ⟨some 56, _, _, _, _, _⟩) (v := ?_) rfl (by kernel_rfl) (by kernel_rfl) (by kernel_rfl) (fun _ _ _ h => h) (Or.inl ⟨by rfl, ?_⟩) (by assumption) ?_
            rotate_left
            focus ((intro w hSw; (try dsimp only at hSw); go_simp); try (with_reducible rfl))
            try simp only [Act.put, List.setIfInBounds_toArray, List.set_cons_zero, List.set_cons_succ]
            refine wpAnyH_ready (rs := [11]) (by kernel_rfl) (by simp) ?_
            refine AllReadyH.cons (o := ⟨some 57, _, _, _, _, _⟩) rfl (fun K hK => ?_) AllReadyH.nil
            go_simp
            go_at_call 78; (first | refine (CR.out _ q0).mono ?_ | refine (CR.out _ q0.drew).mono ?_); rintro e w8 ⟨rfl, hS8⟩; have q0 := Only.then (by first | exact q0 | exact q0.drew) hS8; clear hS8
            refine hK.out _ _ ?_ (fun hHeld => ?_)
            focus ((try dsimp only); first | exact HK.out _ q0 | exact HK.out _ q0.drew)
            clear hK K
            try simp only [Act.put, List.setIfInBounds_toArray, List.set_cons_zero, List.set_cons_succ]
            refine wpAnyH_take (i := 12) (oi := ⟨some 58, _, _, _, _, _⟩) (v := ?_) rfl (by kernel_rfl) (by kernel_rfl) (by kernel_rfl) (fun _ _ _ h => h) (Or.inl ⟨by rfl, ?_⟩) (by assumption) ?_
            rotate_left
            focus ((intro w hSw; (try dsimp only at hSw); go_simp); try (with_reducible rfl))
            try simp only [Act.put, List.setIfInBounds_toArray, List.set_cons_zero, List.set_cons_succ]
            refine wpAnyH_take (i := 13) (oi := ⟨some 59, _, _, _, _, _⟩) (v := ?_) rfl (by kernel_rfl) (by kernel_rfl) (by kernel_rfl) (fun _ _ _ h => h) (Or.inl ⟨by rfl, ?_⟩) (by assumption) ?_
            rotate_left
            focus ((intro w hSw; (try dsimp only at hSw); go_simp); try (with_reducible rfl))
            try simp only [Act.put, List.setIfInBounds_toArray, List.set_cons_zero, List.set_cons_succ]
            refine wpAnyH_take (i := 14) (oi := ⟨some 60, _, _, _, _, _⟩) (v := ?_) rfl (by kernel_rfl) (by kernel_rfl) (by kernel_rfl) (fun _ _ _ h => h) (Or.inl ⟨by rfl, ?_⟩) (by assumption) ?_
            rotate_left
            focus ((intro w hSw; (try dsimp only at hSw); go_simp); try (with_reducible rfl))
            try simp only [Act.put, List.setIfInBounds_toArray, List.set_cons_zero, List.set_cons_succ]
            refine wpAnyH_take (i := 15) (oi := ⟨some 61, _, _, _, _, _⟩) (v := ?_) rfl (by kernel_rfl) (by kernel_rfl) (by kernel_rfl) (fun _ _ _ h => h) (Or.inl ⟨by rfl, ?_⟩) (by assumption) ?_
            rotate_left
            focus ((intro w hSw; (try dsimp only at hSw); go_simp); try (with_reducible rfl))
            try simp only [Act.put, List.setIfInBounds_toArray, List.set_cons_zero, List.set_cons_succ]
            refine wpAnyH_take (i := 16) (oi := ⟨some 62, _, _, _, _, _⟩) (v := ?_) rfl (by kernel_rfl) (by kernel_rfl) (by kernel_rfl) (fun _ _ _ h => h) (Or.inl ⟨by rfl, ?_⟩) (by assumption) ?_
            rotate_left
            focus ((intro w hSw; (try dsimp only at hSw); go_simp); try (with_reducible rfl))
            try simp only [Act.put, List.setIfInBounds_toArray, List.set_cons_zero, List.set_cons_succ]
            refine wpAnyH_take (i := 17) (oi := ⟨some 63, _, _, _, _, _⟩) (v := ?_) rfl (by kernel_rfl) (by kernel_rfl) (by kernel_rfl) (fun _ _ _ h => h) (Or.inl ⟨by rfl, ?_⟩) (by assumption) ?_
            rotate_left
            focus ((intro w hSw; (try dsimp only at hSw); go_simp); try (with_reducible rfl))
            try simp only [Act.put, List.setIfInBounds_toArray, List.set_cons_zero, List.set_cons_succ]
            refine wpAnyH_take (i := 18) (oi := ⟨some 64, _, _, _, _, _⟩) (v := ?_) rfl (by kernel_rfl) (by kernel_rfl) (by kernel_rfl) (fun _ _ _ h => h) (Or.inl ⟨by rfl, ?_⟩) (by assumption) ?_
            rotate_left
            focus ((intro w hSw; (try dsimp only at hSw); go_simp); try (with_reducible rfl))
            try simp only [Act.put, List.setIfInBounds_toArray, List.set_cons_zero, List.set_cons_succ]
            refine wpAnyH_take (i := 19) (oi := ⟨some 65, _, _, _, _, _⟩) (v := ?_) rfl (by kernel_rfl) (by kernel_rfl) (by kernel_rfl) (fun _ _ _ h => h) (Or.inl ⟨by rfl, ?_⟩) (by assumption) ?_
            rotate_left
            focus ((intro w hSw; (try dsimp only at hSw); go_simp); try (with_reducible rfl))
            try simp only [Act.put, List.setIfInBounds_toArray, List.set_cons_zero, List.set_cons_succ]
            refine wpAnyH_take (i := 20) (oi := ⟨some 66, _, _, _, _, _⟩) (v := ?_) rfl (by kernel_rfl) (by kernel_rfl) (by kernel_rfl) (fun _ _ _ h => h) (Or.inl ⟨by rfl, ?_⟩) (by assumption) ?_
            rotate_left
            focus ((intro w hSw; (try dsimp only at hSw); go_simp); try (with_reducible rfl))
            try simp only [Act.put, List.setIfInBounds_toArray, List.set_cons_zero, List.set_cons_succ]
            refine wpAnyH_take (i := 21) (oi := ⟨some 67, _, _, _, _, _⟩) (v := ?_) rfl (by kernel_rfl) (by kernel_rfl) (by kernel_rfl) (fun _ _ _ h => h) (Or.inl ⟨by rfl, ?_⟩) (by assumption) ?_
            rotate_left
            focus ((intro w hSw; (try dsimp only at hSw); go_simp); try (with_reducible rfl))
            try simp only [Act.put, List.setIfInBounds_toArray, List.set_cons_zero, List.set_cons_succ]
            refine wpAnyH_take (i := 22) (oi := ⟨some 68, _, _, _, _, _⟩) (v := ?_) rfl (by kernel_rfl) (by kernel_rfl) (by kernel_rfl) (fun _ _ _ h => h) (Or.inl ⟨by rfl, ?_⟩) (by assumption) ?_
            rotate_left
            focus ((intro w hSw; (try dsimp only at hSw); go_simp); try (with_reducible rfl))
            try simp only [Act.put, List.setIfInBounds_toArray, List.set_cons_zero, List.set_cons_succ]
            refine wpAnyH_take (i := 23) (oi := ⟨some 69, _, _, _, _, _⟩) (v := ?_) rfl (by kernel_rfl) (by kernel_rfl) (by kernel_rfl) (fun _ _ _ h => h) (Or.inl ⟨by rfl, ?_⟩) (by assumption) ?_
            rotate_left
            focus ((intro w hSw; (try dsimp only at hSw); go_simp); try (with_reducible rfl))
            try simp only [Act.put, List.setIfInBounds_toArray, List.set_cons_zero, List.set_cons_succ]
            refine wpAnyH_take (i := 24) (oi := ⟨some 70, _, _, _, _, _⟩) (v := ?_) rfl (by kernel_rfl) (by kernel_rfl) (by kernel_rfl) (fun _ _ _ h => h) (Or.inl ⟨by rfl, ?_⟩) (by assumption) ?_
            rotate_left
            focus ((intro w hSw; (try dsimp only at hSw); go_simp); try (with_reducible rfl))
            try simp only [Act.put, List.setIfInBounds_toArray, List.set_cons_zero, List.set_cons_succ]
            refine wpAnyH_take (i := 25) (oi := ⟨some 71, _, _, _, _, _⟩) (v := ?_) rfl (by kernel_rfl) (by kernel_rfl) (by kernel_rfl) (fun _ _ _ h => h) (Or.inl ⟨by rfl, ?_⟩) (by assumption) ?_
            rotate_left
            focus ((intro w hSw; (try dsimp only at hSw); go_simp); try (with_reducible rfl))
            try simp only [Act.put, List.setIfInBounds_toArray, List.set_cons_zero, List.set_cons_succ]
            refine wpAnyH_take (i := 26) (oi := ⟨some 72, _, _, _, _, _⟩) (v := ?_) rfl (by kernel_rfl) (by kernel_rfl) (by kernel_rfl) (fun _ _ _ h => h) (Or.inl ⟨by rfl, ?_⟩) (by assumption) ?_
            rotate_left
            focus ((intro w hSw; (try dsimp only at hSw); go_simp); try (with_reducible rfl))
            try simp only [Act.put, List.setIfInBounds_toArray, List.set_cons_zero, List.set_cons_succ]
            refine wpAnyH_take (i := 27) (oi := ⟨some 73, _, _, _, _, _⟩) (v := ?_) rfl (by kernel_rfl) (by kernel_rfl) (by kernel_rfl) (fun _ _ _ h => h) (Or.inl ⟨by rfl, ?_⟩) (by assumption) ?_
            rotate_left
            focus ((intro w hSw; (try dsimp only at hSw); go_simp); try (with_reducible rfl))
            try simp only [Act.put, List.setIfInBounds_toArray, List.set_cons_zero, List.set_cons_succ]
            refine wpAnyH_take (i := 28) (oi := ⟨some 74, _, _, _, _, _⟩) (v := ?_) rfl (by kernel_rfl) (by kernel_rfl) (by kernel_rfl) (fun _ _ _ h => h) (Or.inl ⟨by rfl, ?_⟩) (by assumption) ?_
            rotate_left
            focus ((intro w hSw; (try dsimp only at hSw); go_simp); try (with_reducible rfl))
            try simp only [Act.put, List.setIfInBounds_toArray, List.set_cons_zero, List.set_cons_succ]
            refine wpAnyH_done (by kernel_rfl) ?_ _
            go_wp2_with fail
            go_meet
            exact ⟨by rw [HB.out], by first | exact q0 | exact q0.drew⟩
          · have hd5 : decide (x ≤ y) = false := decide_eq_false hxy
            have HB : Hid (bad = false) := Lib.hid (by rw [HBD.out]; simp; omega)
            clear hxy
            refine wp_region_held_drew (S := (fun w' => w'.cell? ⟨w3.heap.size, 0, none⟩ = some (.int .i64 x) ∧ w'.cell? ⟨w3.heap.size, 1, none⟩ = some (.slice ua vec.length uc) ∧ w'.cell? ⟨b1, o1 + p * 2, none⟩ = some (.int .i64 y))) (by kernel_rfl) ?_ (fun hHeld => ?_)
            focus (first | exact HK.out _ q0 | exact HK.out _ q0.drew)
            refine wpAnyH_take (i := 0) (oi := ⟨some 46, _, _, _, _, _⟩) (v := ?_) rfl (by kernel_rfl) (by kernel_rfl) (by kernel_rfl) (fun _ _ _ h => h) (Or.inl ⟨by rfl, ?_⟩) (by assumption) ?_
            rotate_left
            focus ((intro w hSw; (try dsimp only at hSw); go_simp); try (with_reducible rfl))
            try simp only [Act.put, List.setIfInBounds_toArray, List.set_cons_zero, List.set_cons_succ]
            refine wpAnyH_take (i := 1) (oi := ⟨some 47, _, _, _, _, _⟩) (v := ?_) rfl (by kernel_rfl) (by kernel_rfl) (by kernel_rfl) (fun _ _ _ h => h) (Or.inl ⟨by rfl, ?_⟩) (by assumption) ?_
            rotate_left
            focus ((intro w hSw; (try dsimp only at hSw); go_simp); try (with_reducible rfl))
            try simp only [Act.put, List.setIfInBounds_toArray, List.set_cons_zero, List.set_cons_succ]
            refine wpAnyH_take (i := 2) (oi := ⟨some 48, _, _, _, _, _⟩) (v := ?_) rfl (by kernel_rfl) (by kernel_rfl) (by kernel_rfl) (fun _ _ _ h => h) (Or.inl ⟨by rfl, ?_⟩) (by assumption) ?_
            rotate_left
            focus ((intro w hSw; (try dsimp only at hSw); go_simp); try (with_reducible rfl))
            try simp only [Act.put, List.setIfInBounds_toArray, List.set_cons_zero, List.set_cons_succ]
            refine wpAnyH_take (i := 3) (oi := ⟨some 49, _, _, _, _, _⟩) (v := ?_) rfl (by kernel_rfl) (by kernel_rfl) (by kernel_rfl) (fun _ _ _ h => h) (Or.inl ⟨by rfl, ?_⟩) (by assumption) ?_
            rotate_left
            focus ((intro w hSw; (try dsimp only at hSw); go_simp); try (with_reducible rfl))
            try simp only [Act.put, List.setIfInBounds_toArray, List.set_cons_zero, List.set_cons_succ]
            refine wpAnyH_take (i := 4) (oi := ⟨some 50, _, _, _, _, _⟩) (v := ?_) rfl (by kernel_rfl) (by kernel_rfl) (by kernel_rfl) (fun _ _ _ h => h) (Or.inl ⟨by rfl, ?_⟩) (by assumption) ?_
            rotate_left
            focus ((intro w hSw; (try dsimp only at hSw); go_simp); try (with_reducible rfl))
            try simp only [Act.put, List.setIfInBounds_toArray, List.set_cons_zero, List.set_cons_succ]
            refine wpAnyH_take (i := 5) (oi := ⟨some 51, _, _, _, _, _⟩) (v := ?_) rfl (by kernel_rfl) (by kernel_rfl) (by kernel_rfl) (fun _ _ _ h => h) (Or.inl ⟨by rfl, ?_⟩) (by assumption) ?_
            rotate_left
            focus ((intro w hSw; (try dsimp only at hSw); go_simp); try (with_reducible rfl))
            try simp only [Act.put, List.setIfInBounds_toArray, List.set_cons_zero, List.set_cons_succ]
            refine wpAnyH_take (i := 6) (oi := ⟨some 52, _, _, _, _, _⟩) (v := ?_) rfl (by kernel_rfl) (by kernel_rfl) (by kernel_rfl) (fun _ _ _ h => h) (Or.inl ⟨by rfl, ?_⟩) (by assumption) ?_
            rotate_left
            focus ((intro w hSw; (try dsimp only at hSw); go_simp); try (with_reducible rfl))
            try simp only [Act.put, List.setIfInBounds_toArray, List.set_cons_zero, List.set_cons_succ]
            refine wpAnyH_take (i := 7) (oi := ⟨some 53, _, _, _, _, _⟩) (v := ?_) rfl (by kernel_rfl) (by kernel_rfl) (by kernel_rfl) (fun _ _ _ h => h) (Or.inl ⟨by rfl, ?_⟩) (by assumption) ?_
            rotate_left
            focus ((intro w hSw; (try dsimp only at hSw); go_simp); try (with_reducible rfl))
            try simp only [Act.put, List.setIfInBounds_toArray, List.set_cons_zero, List.set_cons_succ]
            refine wpAnyH_take (i := 8) (oi := ⟨some 54, _, _, _, _, _⟩) (v := ?_) rfl (by kernel_rfl) (by kernel_rfl) (by kernel_rfl) (fun _ _ _ h => h) (Or.inl ⟨by rfl, ?_⟩) (by assumption) ?_
            rotate_left
            focus ((intro w hSw; (try dsimp only at hSw); go_simp); try (with_reducible rfl))
            try simp only [Act.put, List.setIfInBounds_toArray, List.set_cons_zero, List.set_cons_succ]
            refine wpAnyH_take (i := 9) (oi := ⟨some 55, _, _, _, _, _⟩) (v := ?_) rfl (by kernel_rfl) (by kernel_rfl) (by kernel_rfl) (fun _ _ _ h => h) (Or.inl ⟨by rfl, ?_⟩) (by assumption) ?_
            rotate_left
            focus ((intro w hSw; (try dsimp only at hSw); go_simp); try (with_reducible rfl))
            try simp only [Act.put, List.setIfInBounds_toArray, List.set_cons_zero, List.set_cons_succ]
            refine wpAnyH_take (i := 10) (oi := ⟨some 56, _, _, _, _, _⟩) (v := ?_) rfl (by kernel_rfl) (by kernel_rfl) (by kernel_rfl) (fun _ _ _ h => h) (Or.inl ⟨by rfl, ?_⟩) (by assumption) ?_
            rotate_left
            focus ((intro w hSw; (try dsimp only at hSw); go_simp); try (with_reducible rfl))
            try simp only [Act.put, List.setIfInBounds_toArray, List.set_cons_zero, List.set_cons_succ]
            refine wpAnyH_ready (rs := [11]) (by kernel_rfl) (by simp) ?_
            refine AllReadyH.cons (o := ⟨some 57, _, _, _, _, _⟩) rfl (fun K hK => ?_) AllReadyH.nil
            go_simp
            go_at_call 78; (first | refine (CR.out _ q0).mono ?_ | refine (CR.out _ q0.drew).mono ?_); rintro e w8 ⟨rfl, hS8⟩; have q0 := Only.then (by first | exact q0 | exact q0.drew) hS8; clear hS8
            refine hK.out _ _ ?_ (fun hHeld => ?_)
            focus ((try dsimp only); first | exact HK.out _ q0 | exact HK.out _ q0.drew)
            clear hK K
            try simp only [Act.put, List.setIfInBounds_toArray, List.set_cons_zero, List.set_cons_succ]
            refine wpAnyH_take (i := 12) (oi := ⟨some 58, _, _, _, _, _⟩) (v := ?_) rfl (by kernel_rfl) (by kernel_rfl) (by kernel_rfl) (fun _ _ _ h => h) (Or.inl ⟨by rfl, ?_⟩) (by assumption) ?_
            rotate_left
            focus ((intro w hSw; (try dsimp only at hSw); go_simp); try (with_reducible rfl))
            try simp only [Act.put, List.setIfInBounds_toArray, List.set_cons_zero, List.set_cons_succ]
            refine wpAnyH_take (i := 13) (oi := ⟨some 59, _, _, _, _, _⟩) (v := ?_) rfl (by kernel_rfl) (by kernel_rfl) (by kernel_rfl) (fun _ _ _ h => h) (Or.inl ⟨by rfl, ?_⟩) (by assumption) ?_
            rotate_left
            focus ((intro w hSw; (try dsimp only at hSw); go_simp); try (with_reducible rfl))
            try simp only [Act.put, List.setIfInBounds_toArray, List.set_cons_zero, List.set_cons_succ]
            refine wpAnyH_take (i := 14) (oi := ⟨some 60, _, _, _, _, _⟩) (v := ?_) rfl (by kernel_rfl) (by kernel_rfl) (by kernel_rfl) (fun _ _ _ h => h) (Or.inl ⟨by rfl, ?_⟩) (by assumption) ?_
            rotate_left
            focus ((intro w hSw; (try dsimp only at hSw); go_simp); try (with_reducible rfl))
            try simp only [Act.put, List.setIfInBounds_toArray, List.set_cons_zero, List.set_cons_succ]
            refine wpAnyH_take (i := 15) (oi := ⟨some 61, _, _, _, _, _⟩) (v := ?_) rfl (by kernel_rfl) (by kernel_rfl) (by kernel_rfl) (fun _ _ _ h => h) (Or.inl ⟨by rfl, ?_⟩) (by assumption) ?_
            rotate_left
            focus ((intro w hSw; (try dsimp only at hSw); go_simp); try (with_reducible rfl))
            try simp only [Act.put, List.setIfInBounds_toArray, List.set_cons_zero, List.set_cons_succ]
            refine wpAnyH_take (i := 16) (oi := ⟨some 62, _, _, _, _, _⟩) (v := ?_) rfl (by kernel_rfl) (by kernel_rfl) (by kernel_rfl) (fun _ _ _ h => h) (Or.inl ⟨by rfl, ?_⟩) (by assumption) ?_
            rotate_left
            focus ((intro w hSw; (try dsimp only at hSw); go_simp); try (with_reducible rfl))
            try simp only [Act.put, List.setIfInBounds_toArray, List.set_cons_zero, List.set_cons_succ]
            refine wpAnyH_take (i := 17) (oi := ⟨some 63, _, _, _, _, _⟩) (v := ?_) rfl (by kernel_rfl) (by kernel_rfl) (by kernel_rfl) (fun _ _ _ h => h) (Or.inl ⟨by rfl, ?_⟩) (by assumption) ?_
            rotate_left
            focus ((intro w hSw; (try dsimp only at hSw); go_simp); try (with_reducible rfl))
            try simp only [Act.put, List.setIfInBounds_toArray, List.set_cons_zero, List.set_cons_succ]
            refine wpAnyH_take (i := 18) (oi := ⟨some 64, _, _, _, _, _⟩) (v := ?_) rfl (by kernel_rfl) (by kernel_rfl) (by kernel_rfl) (fun _ _ _ h => h) (Or.inl ⟨by rfl, ?_⟩) (by assumption) ?_
            rotate_left
            focus ((intro w hSw; (try dsimp only at hSw); go_simp); try (with_reducible rfl))
            try simp only [Act.put, List.setIfInBounds_toArray, List.set_cons_zero, List.set_cons_succ]
            refine wpAnyH_take (i := 19) (oi := ⟨some 65, _, _, _, _, _⟩) (v := ?_) rfl (by kernel_rfl) (by kernel_rfl) (by kernel_rfl) (fun _ _ _ h => h) (Or.inl ⟨by rfl, ?_⟩) (by assumption) ?_
            rotate_left
            focus ((intro w hSw; (try dsimp only at hSw); go_simp); try (with_reducible rfl))
            try simp only [Act.put, List.setIfInBounds_toArray, List.set_cons_zero, List.set_cons_succ]
            refine wpAnyH_take (i := 20) (oi := ⟨some 66, _, _, _, _, _⟩) (v := ?_) rfl (by kernel_rfl) (by kernel_rfl) (by kernel_rfl) (fun _ _ _ h => h) (Or.inl ⟨by rfl, ?_⟩) (by assumption) ?_
            rotate_left
            focus ((intro w hSw; (try dsimp only at hSw); go_simp); try (with_reducible rfl))
            try simp only [Act.put, List.setIfInBounds_toArray, List.set_cons_zero, List.set_cons_succ]
            refine wpAnyH_take (i := 21) (oi := ⟨some 67, _, _, _, _, _⟩) (v := ?_) rfl (by kernel_rfl) (by kernel_rfl) (by kernel_rfl) (fun _ _ _ h => h) (Or.inl ⟨by rfl, ?_⟩) (by assumption) ?_
            rotate_left
            focus ((intro w hSw; (try dsimp only at hSw); go_simp); try (with_reducible rfl))
            try simp only [Act.put, List.setIfInBounds_toArray, List.set_cons_zero, List.set_cons_succ]
            refine wpAnyH_take (i := 22) (oi := ⟨some 68, _, _, _, _, _⟩) (v := ?_) rfl (by kernel_rfl) (by kernel_rfl) (by kernel_rfl) (fun _ _ _ h => h) (Or.inl ⟨by rfl, ?_⟩) (by assumption) ?_
            rotate_left
            focus ((intro w hSw; (try dsimp only at hSw); go_simp); try (with_reducible rfl))
            try simp only [Act.put, List.setIfInBounds_toArray, List.set_cons_zero, List.set_cons_succ]
            refine wpAnyH_take (i := 23) (oi := ⟨some 69, _, _, _, _, _⟩) (v := ?_) rfl (by kernel_rfl) (by kernel_rfl) (by kernel_rfl) (fun _ _ _ h => h) (Or.inl ⟨by rfl, ?_⟩) (by assumption) ?_
            rotate_left
            focus ((intro w hSw; (try dsimp only at hSw); go_simp); try (with_reducible rfl))
            try simp only [Act.put, List.setIfInBounds_toArray, List.set_cons_zero, List.set_cons_succ]
            refine wpAnyH_take (i := 24) (oi := ⟨some 70, _, _, _, _, _⟩) (v := ?_) rfl (by kernel_rfl) (by kernel_rfl) (by kernel_rfl) (fun _ _ _ h => h) (Or.inl ⟨by rfl, ?_⟩) (by assumption) ?_
            rotate_left
            focus ((intro w hSw; (try dsimp only at hSw); go_simp); try (with_reducible rfl))
            try simp only [Act.put, List.setIfInBounds_toArray, List.set_cons_zero, List.set_cons_succ]
            refine wpAnyH_take (i := 25) (oi := ⟨some 71, _, _, _, _, _⟩) (v := ?_) rfl (by kernel_rfl) (by kernel_rfl) (by kernel_rfl) (fun _ _ _ h => h) (Or.inl ⟨by rfl, ?_⟩) (by assumption) ?_
            rotate_left
            focus ((intro w hSw; (try dsimp only at hSw); go_simp); try (with_reducible rfl))
            try simp only [Act.put, List.setIfInBounds_toArray, List.set_cons_zero, List.set_cons_succ]
            refine wpAnyH_take (i := 26) (oi := ⟨some 72, _, _, _, _, _⟩) (v := ?_) rfl (by kernel_rfl) (by kernel_rfl) (by kernel_rfl) (fun _ _ _ h => h) (Or.inl ⟨by rfl, ?_⟩) (by assumption) ?_
            rotate_left
            focus ((intro w hSw; (try dsimp only at hSw); go_simp); try (with_reducible rfl))
            try simp only [Act.put, List.setIfInBounds_toArray, List.set_cons_zero, List.set_cons_succ]
            refine wpAnyH_take (i := 27) (oi := ⟨some 73, _, _, _, _, _⟩) (v := ?_) rfl (by kernel_rfl) (by kernel_rfl) (by kernel_rfl) (fun _ _ _ h => h) (Or.inl ⟨by rfl, ?_⟩) (by assumption) ?_
            rotate_left
            focus ((intro w hSw; (try dsimp only at hSw); go_simp); try (with_reducible rfl))
            try simp only [Act.put, List.setIfInBounds_toArray, List.set_cons_zero, List.set_cons_succ]
            refine wpAnyH_take (i := 28) (oi := ⟨some 74, _, _, _, _, _⟩) (v := ?_) rfl (by kernel_rfl) (by kernel_rfl) (by kernel_rfl) (fun _ _ _ h => h) (Or.inl ⟨by rfl, ?_⟩) (by assumption) ?_
            rotate_left
            focus ((intro w hSw; (try dsimp only at hSw); go_simp); try (with_reducible rfl))
            try simp only [Act.put, List.setIfInBounds_toArray, List.set_cons_zero, List.set_cons_succ]
            refine wpAnyH_done (by kernel_rfl) ?_ _
            go_wp2_with fail
            go_meet
            exact ⟨by rw [HB.out], by first | exact q0 | exact q0.drew⟩
        case rest =>
          obtain ⟨rfl, hSc⟩ := hcut
          have HSc := Lib.hid hSc
          have p0 := hSc.cell_eq HP.out.1 (fun h => h)
          have p1 := hSc.cell_eq HP.out.2 (fun h => h)
          have HS5 := Lib.hid (HS4.out.then hSc)
          clear hSc
          cases bad with
          | true =>
            have HB := Lib.hid (HFB.out (HBY.out rfl))
            go_wp2_with fail
            go_ret2
            exact ⟨_, by rw [HB.out]; rfl, HS5.out, by rw [HB.out]; exact SlP.nil _⟩
          | false =>
            obtain ⟨hri1, hrow⟩ := HBN.out rfl
            have HRI1 := Lib.hid hri1
            have hvv : vecB vec = true := by unfold rowB at hrow; simp only [Bool.and_eq_true] at hrow; exact hrow.2
            have hscr : scoreP m q vec = (scS m q vec 8, 0) := by unfold scoreP; rw [if_neg (by have := HM.out; omega), HVQ.out, hvv]; rfl
            have cs := fun w0 (h : Same wc w0) => vscore_any m (.slice aq q.length mq) (.slice ua vec.length uc) q vec w0 (HQ.out.same (HS5.out.then h)) (HSV.out.same (HSc.out.then h)) HLQ.out HVI.out
            rw [hscr] at cs
            have CS := Lib.hid cs
            clear hri1 hrow hvv hscr cs
            go_wp2_with fail
            go_loopw [15, 16] (fun b i wr => ∃ r : Nat, r ≤ no.length ∧ i = .int .i64 r ∧ b = .bool (decide (x ∉ no.take r)) ∧ Same wc wr) (fun _ i _ => no.length - (intOf i).toNat)
            case atStart => exact ⟨0, by omega, rfl, by simp, Only.refl _ _⟩
            case round =>
              obtain ⟨r, hr, rfl, rfl, hS6⟩ := hrel
              obtain ⟨w6, hw6⟩ : ∃ x, x = wr := ⟨_, rfl⟩
              subst hw6
              have HS6 := Lib.hid hS6
              have p0 := hS6.cell_eq p0 (fun h => h)
              have p1 := hS6.cell_eq p1 (fun h => h)
              clear hS6
              by_cases hrl : r < no.length
              · obtain ⟨b2, o2, rfl, hcn⟩ := HNO.out.spot (by omega)
                have k3 := (HS5.out.then HS6.out).cell_eq (hcn r hrl) (fun h => h)
                have hsn := notin_snoc (x := x) hrl
                obtain ⟨z, hz⟩ : ∃ z, z = no[r] := ⟨_, rfl⟩
                rw [← hz] at k3 hsn
                have HSN := Lib.hid hsn
                have hd5 : decide ((r : Int) < (no.length : Int)) = true := decide_eq_true (by omega)
                have hd6 : decide (r < no.length) = true := decide_eq_true hrl
                have hw7 : IntKind.i64.wrap ((r : Int) + 1) = (r : Int) + 1 := wrapS (by omega)
                clear hcn hsn hz
                cases hbb : decide (x ∉ no.take r) with
                | false =>
                  have HE : Hid (decide (x ∉ no.take (r + 1)) = false) := Lib.hid (by rw [HSN.out, hbb]; rfl)
                  clear hbb HSN
                  go_upto_region 16 with fail
                  go_quiet (fail)
                  rename_i nq
                  go_wp2_with fail
                  go_roundw
                  case rel => exact ⟨r + 1, by omega, by go_num, by rw [HE.out], HS6.out.drewN nq⟩
                  case measure => simp [intOf]; omega
                | true =>
                  by_cases hzx : z = x
                  · have hbz : (z != x) = false := by simpa using hzx
                    have HE : Hid (decide (x ∉ no.take (r + 1)) = false) := Lib.hid (by rw [HSN.out, hzx]; simp)
                    clear hbb hzx HSN
                    go_upto_region 16 with fail
                    go_quiet (fail)
                    rename_i nq
                    go_wp2_with fail
                    go_roundw
                    case rel => exact ⟨r + 1, by omega, by go_num, by rw [HE.out], HS6.out.drewN nq⟩
                    case measure => simp [intOf]; omega
                  · have hbz : (z != x) = true := by simpa using hzx
                    have HE : Hid (decide (x ∉ no.take (r + 1)) = true) := Lib.hid (by rw [HSN.out, hbb]; simpa using hzx)
                    clear hbb hzx HSN
                    go_upto_region 16 with fail
                    go_quiet (fail)
                    rename_i nq
                    go_wp2_with fail
                    go_roundw
                    case rel => exact ⟨r + 1, by omega, by go_num, by rw [HE.out], HS6.out.drewN nq⟩
                    case measure => simp [intOf]; omega
              · obtain rfl : r = no.length := by omega
                rw [List.take_length]
                go_wp2_with fail
                refine (CS.out _ HS6.out).mono ?_
                rintro e w7 ⟨rfl, hS7⟩
                have p0 := hS7.cell_eq p0 (fun h => h)
                have HS7 := Lib.hid (HS5.out.then (HS6.out.then hS7))
                have HS7b := Lib.hid (HSA.out.then (HSc.out.then (HS6.out.then hS7)))
                clear hS7 p1
                cases hbb : decide (x ∉ no) with
                | false =>
                  have HOF : Hid (offsP m q (fun d => decide (d ∉ no)) (l.take (j + 1)) = offsP m q (fun d => decide (d ∉ no)) (l.take j)) := Lib.hid (by rw [HOS.out, hbb]; simp)
                  clear hbb
                  go_wp2_with fail
                  go_roundw
                  case rel => exact ⟨j + 1, by omega, by go_num, HS7.out, HRI1.out, by rw [HOF.out]; exact own_same HOWN.out HS7b.out⟩
                  case measure => simp [intOf]; omega
                | true =>
                  have HOT : Hid (offsP m q (fun d => decide (d ∉ no)) (l.take (j + 1)) = offsP m q (fun d => decide (d ∉ no)) (l.take j) ++ [(x, scS m q vec 8)]) := Lib.hid (by rw [HOS.out, hbb]; simp)
                  have hol : (offsP m q (fun d => decide (d ∉ no)) (l.take j)).length ≤ 1000 := by have := offs_len m q (fun d => decide (d ∉ no)) (l.take j); have := List.length_take_le j l; omega
                  have hown := own_same HOWN.out HS7b.out
                  have HOW7 := Lib.hid hown
                  have hsz := HS7.out.size
                  have hinf : (Try.prog.info? 89).map (fun i => (i.zero, i.size, i.bytes)) = some (some (.agg #[.int .i64 0, .int .i64 0]), 2, 16) := by kernel_rfl
                  have HINF := Lib.hid hinf
                  generalize offsP m q (fun d => decide (d ∉ no)) (l.take j) = L at *
                  generalize scS m q vec 8 = sc at *
                  clear hbb hown hinf
                  go_wp2_with (at_builtin; refine app_one [.int .i64 x, .int .i64 sc] rfl (.tmp 100) (.tmp 105) 85 rfl wc0.heap.size 89 (.agg #[.int .i64 0, .int .i64 0]) 2 16 Try.underlying85 HINF.out rfl (by decide) _ L.length _ rfl HOW7.out rfl ?_ rfl (by intro u hu; simp at hu; rcases hu with rfl | rfl <;> rfl) (by unfold maxLen; omega) (by omega) hsz; intro v' w8 hown8 hO8)
                  go_roundw
                  case rel => exact ⟨j + 1, by omega, by go_num, HS7.out.trans hO8 (fun i hi h => by have h2 : wc0.heap.size ≤ i := h; omega), HRI1.out, by rw [HOT.out, List.length_append, cells2_append]; exact hown8⟩
                  case measure => simp [intOf]; omega
      · obtain rfl : j = l.length := by omega
        have hL : l.take l.length = l := List.take_length
        rw [hL] at HOWN
        have hol : (offsP m q (fun d => decide (d ∉ no)) l).length ≤ 1000 := by have := offs_len m q (fun d => decide (d ∉ no)) l; omega
        have HE := Lib.hid (HFG.out HRI.out)
        have cb := rbest_any k _ (offsP m q (fun d => decide (d ∉ no)) l) w3 (own_slp HOWN.out) (by omega) (by have := HK.out; omega)
        have CB := Lib.hid cb
        clear hL hol cb
        go_wp2_with fail
        refine CB.out.mono ?_
        rintro e w4 ⟨v', rfl, hS4, hsp, _⟩
        have HS4 := Lib.hid hS4; have HSP := Lib.hid hsp
        clear hS4 hsp
        go_wp2_with fail
        go_ret2
        exact ⟨v', by rw [HE.out]; rfl, HS.out.then HS4.out, by rw [HE.out]; exact HSP.out⟩
end Go.Proofs.Ytjegohibpojneaa
