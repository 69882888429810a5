import Derived.Test.YtjegohibpojneaaPackRow
set_option linter.unusedVariables false
set_option linter.unusedSimpArgs false
namespace Go.Proofs.Ytjegohibpojneaa
open Go.RowKit

/-- One step of a rising row: the reader, the last number. -/
def risStep (s : RS × Int) : Int × (RS × Int) :=
  if 9223372036854775806 - s.2 < (varS s.1).1 then (0, (none, s.2)) else (s.2 + ((varS s.1).1 + 1), ((varS s.1).2, s.2 + ((varS s.1).1 + 1)))
def risR (st : RS) (most : Int) : List Int × RS :=
  let r := rowS Prod.fst risStep (varS st).1 (if most < (varS st).1 then none else (varS st).2, -1)
  (r.1, r.2.1)
def RisI (b bR bL : Nat) (w : World) (s : RS × Int) : Prop :=
  Rd w b s.1 ∧ w.cell? ⟨bR, 0, none⟩ = some (.pointer (some ⟨b, 0, none⟩)) ∧ w.cell? ⟨bL, 0, none⟩ = some (.int .i64 s.2) ∧ w.frozen? ⟨bL, 0, none⟩ = false ∧
    -1 ≤ s.2 ∧ s.2 ≤ 9223372036854775807 ∧ (s.1.getD []).length ≤ 1000000000000

theorem risStep_any (b bR bL : Nat) (s : RS × Int) (w : World) (h : RisI b bR bL w s) (h1 : bR ≠ b) (h2 : bL ≠ b) (h3 : bR ≠ bL) :
    Calls Try.prog 137 #[.pointer (some ⟨bR, 0, none⟩), .pointer (some ⟨bL, 0, none⟩)] w fun e w' => e = .returned (.int .i64 (risStep s).1) ∧ Only (fun k => k = b ∨ k = bL) w w' ∧ RisI b bR bL w' (risStep s).2 := by
  obtain ⟨st, last⟩ := s
  obtain ⟨hr, hcR, hcL, hfL, hlo, hhi, hlen⟩ := h
  simp only at hr hcL hlo hhi hlen
  have hv : risStep (st, last) = if 9223372036854775806 - last < (varS st).1 then (0, (none, last)) else (last + ((varS st).1 + 1), ((varS st).2, last + ((varS st).1 + 1))) := rfl
  have hle := varS_le st
  have hless := varS_less st
  have hc := rvarint_any b st w hr hlen
  have HR := Lib.hid hr
  clear hr
  generalize varS st = p at *
  obtain ⟨d, st'⟩ := p
  simp only at hc hv hle hless
  have HV := Lib.hid hv; have HC := Lib.hid hc; have HN1 := Lib.hid h1; have HN2 := Lib.hid h2; have HN3 := Lib.hid h3
  clear hv hc h1 h2 h3
  have hx1 : bL ≠ b := HN2.out
  by_cases hbig : 9223372036854775806 - last < d
  · have HE : Hid (risStep (st, last) = (0, (none, last))) := Lib.hid (by rw [HV.out, if_pos hbig])
    go_enter Try.func137, Try.ntmps137
    go_wp2_with (first | (go_at_call 88; refine HC.out.mono ?_; rintro e w1 ⟨rfl, hO1, hR1⟩; have hL1 := hO1.cell_eq hcL HN2.out; have hLR1 := hO1.cell_eq hcR HN1.out) | (go_at_call 136; refine (rfail_any b _ _ hR1).mono ?_; rintro e w2 ⟨rfl, hO2, hR2⟩))
    go_ret
    rw [HE.out]
    have hO := hO1.same hO2
    exact ⟨rfl, hO.mono (fun k _ h => Or.inl h), hR2, hO.cell_eq hcR HN1.out, hO.cell_eq hcL HN2.out, (hO.frozen (World.block_lt_of_cell? w _ hcL) HN2.out).trans hfL, hlo, hhi, by simp⟩
  · have HE : Hid (risStep (st, last) = (last + (d + 1), (st', last + (d + 1)))) := Lib.hid (by rw [HV.out, if_neg hbig])
    have hw : wrap64 (last + wrap64 ((d : Int) + 1)) = last + ((d : Int) + 1) := by unfold wrap64; omega
    go_enter Try.func137, Try.ntmps137
    go_wp2_with (go_at_call 88; refine HC.out.mono ?_; rintro e w1 ⟨rfl, hO1, hR1⟩; have hL1 := hO1.cell_eq hcL HN2.out; have hLR1 := hO1.cell_eq hcR HN1.out; have hf1 := (hO1.frozen (World.block_lt_of_cell? w _ hcL) HN2.out).trans hfL)
    go_ret
    rw [HE.out]
    have hS := (Only.refl (· = bL) w1).setCell (p := ⟨bL, 0, none⟩) (fun _ => rfl) (.int .i64 (last + ((d : Int) + 1)))
    exact ⟨rfl, (hO1.mono (fun k _ h => Or.inl h)).trans hS (fun k _ h => Or.inr h), hR1.only hS (fun h => HN2.out h.symm), hS.cell_eq hLR1 HN3.out, World.cell?_setCell_same _ _ _ hL1, (World.frozen?_setCell _ _ _ _).trans hf1, by simp only; omega, by simp only; omega, by simp only; omega⟩

/-- 'row' of a rising row, behind the words 'last := -1' (whose world is W's with one block more). -/
theorem risRow (b bR bL d : Nat) (st : RS) (W : World) (h : Rd W b st) (hR : (W.alloc (.cells #[.int .i64 (-1)] 3)).cell? ⟨bR, 0, none⟩ = some (.pointer (some ⟨b, 0, none⟩))) (hL : bL = W.heap.size) (h1 : bR ≠ b) (h2 : bL ≠ b) (h3 : bR ≠ bL) (hlen : (st.getD []).length ≤ 1000000000000) :
    Calls Try.prog 138 #[.pointer (some ⟨b, 0, none⟩), .int .i64 d, .func (.func 137) #[] #[.pointer (some ⟨bR, 0, none⟩), .pointer (some ⟨bL, 0, none⟩)]] (W.alloc (.cells #[.int .i64 (-1)] 3)) fun e w' => ∃ v, e = .returned v ∧ Only (fun k => k = b ∨ k = bL) (W.alloc (.cells #[.int .i64 (-1)] 3)) w' ∧
      Rd w' b (rowS Prod.fst risStep d (st, -1)).2.1 ∧ SlF w' W.heap.size v (rowS Prod.fst risStep d (st, -1)).1 := by
  have hE : ∀ (args : Array Value) (w : World), (callFunc 137 args).run Try.prog w = .ok (.enter 137 args) w := enters_of Try.func137 (by kernel_rfl) rfl
  have hlt := h.lt
  have hbR := World.block_lt_of_cell? _ _ hR
  rw [World.size_alloc] at hbR
  simp only at hbR
  refine (row_any b d 137 _ (fun k => k = b ∨ k = bL) (fun k w s => RisI b bR bL w s ∧ ∀ l, s.1 = some l → k + l.length ≤ 1000000000000) Prod.fst risStep (st, -1) _ hE (fun k w1 s h => h.1.1) ?_ (fun k w1 s l _ h hs => (risStep_any b bR bL s w1 h.1 h1 h2 h3).mono ?_) ?_ ?_ ?_).mono ?_
  · rintro k w1 w2 s ⟨⟨a1, a2, a3, a4, a5⟩, a6⟩ ho
    rw [World.size_alloc] at ho
    refine ⟨⟨a1.only ho (by omega), ho.cell_eq a2 (by omega), ho.cell_eq a3 (by omega), (ho.frozen (World.block_lt_of_cell? _ _ a3) (by simp only; omega)).trans a4, a5⟩, a6⟩
  · rintro e w' ⟨rfl, hO, hI⟩
    refine ⟨rfl, hO, hI, ?_⟩
    obtain ⟨s, x⟩ := s
    intro l' hs'
    have h6 := h.2 l hs
    simp only at hs hs'
    subst hs
    unfold risStep at hs'
    simp only at hs'
    by_cases hb : 9223372036854775806 - x < ↑(varS (some l)).1
    · rw [if_pos hb] at hs'; cases hs'
    · rw [if_neg hb] at hs'
      have := varS_one l l' hs'
      omega
  · rw [World.size_alloc]; omega
  · intro k w1 s l _ h hs
    have := h.2 l hs
    omega
  · subst hL
    refine ⟨⟨h.same ((Only.refl _ W).alloc _), hR, blk_cells (blk_new _ _) 0, blk_frozen (blk_new _ _) 0, by simp, by simp, hlen⟩, ?_⟩
    intro l hl
    simp only at hl
    subst hl
    simpa using hlen
  · rintro e w' ⟨v, k, rfl, hO, hI, hS⟩
    exact ⟨v, rfl, hO, hI.1.1, hS.lo (by simp)⟩

set_option maxRecDepth 100000 in
theorem rrising_fr (b : Nat) (st : RS) (most : Int) (w : World) (h : Rd w b st) (hlen : (st.getD []).length ≤ 1000000000000) :
    Calls Try.prog 89 #[.pointer (some ⟨b, 0, none⟩), .int .i64 most] w fun e w' => ∃ v, e = .returned v ∧ Only (· = b) w w' ∧ Rd w' b (risR st most).2 ∧ SlF w' w.heap.size v (risR st most).1 := by
  have hlt := h.lt
  have hv : risR st most = ((rowS Prod.fst risStep (varS st).1 (if most < (varS st).1 then none else (varS st).2, -1)).1, (rowS Prod.fst risStep (varS st).1 (if most < (varS st).1 then none else (varS st).2, -1)).2.1) := rfl
  have hless := varS_less st
  have H0 := Lib.hid h
  clear h
  have hc := fun w0 hr => rvarint_any b st w0 hr hlen
  generalize varS st = p at *
  obtain ⟨d, st'⟩ := p
  simp only at hc hv hless
  have HV := Lib.hid hv; have HC := Lib.hid hc
  clear hv hc
  have hE : ∀ (args : Array Value) (w : World), (callFunc 137 args).run Try.prog w = .ok (.enter 137 args) w := enters_of Try.func137 (by kernel_rfl) rfl
  have hmf := @run_makeFunc Try.prog
  have hrd := H0.out.same ((Only.refl _ w).alloc (.cells #[.pointer (some ⟨b, 0, none⟩)] 42))
  have hbR : (w.alloc (.cells #[.pointer (some ⟨b, 0, none⟩)] 42)).cell? ⟨w.heap.size, 0, none⟩ = some (.pointer (some ⟨b, 0, none⟩)) := blk_cells (blk_new _ _) 0
  have HRD := Lib.hid hrd; have HBR := Lib.hid hbR
  clear hrd hbR
  go_enter Try.func89, Try.ntmps89
  by_cases hbig : most < d
  · rw [if_pos hbig] at HV
    go_wp2_with (first | (go_at_call 88; refine (HC.out _ HRD.out).mono ?_; rintro e w1 ⟨rfl, hO1, hR1⟩; have hbR1 := hO1.cell_eq HBR.out (by omega); have hs1 := hO1.size; rw [World.size_alloc] at hs1) | (go_at_call 136; refine (rfail_any b _ _ hR1).mono ?_; rintro e w2 ⟨rfl, hO2, hR2⟩; have hbR2 := fun o => ((Only.refl (fun _ => False) w2).alloc o).cell_eq (hO2.cell_eq hbR1 (by omega)) (fun h => h); have hs2 := hO2.size) | (go_at_call 138; refine (risRow b w.heap.size w2.heap.size d none _ hR2 (hbR2 _) rfl (by omega) (by omega) (by omega) (by simp)).mono ?_; rintro e w3 ⟨v, rfl, hO3, hR3, hSl⟩))
    go_ret
    rw [HV.out]
    refine ⟨_, rfl, ?_, hR3, hSl.lo (by omega)⟩
    exact (((((Only.refl (· = b) w).alloc _).same hO1).same hO2).alloc _).trans hO3 (fun k hk h => by rcases h with h | h; exact h; omega)
  · rw [if_neg hbig] at HV
    go_wp2_with (first | (go_at_call 88; refine (HC.out _ HRD.out).mono ?_; rintro e w1 ⟨rfl, hO1, hR1⟩; have hbR2 := fun o => ((Only.refl (fun _ => False) w1).alloc o).cell_eq (hO1.cell_eq HBR.out (by omega)) (fun h => h); have hs1 := hO1.size; rw [World.size_alloc] at hs1) | (go_at_call 138; refine (risRow b w.heap.size w1.heap.size d st' _ hR1 (hbR2 _) rfl (by omega) (by omega) (by omega) (by omega)).mono ?_; rintro e w3 ⟨v, rfl, hO3, hR3, hSl⟩))
    go_ret
    rw [HV.out]
    refine ⟨_, rfl, ?_, hR3, hSl.lo (by omega)⟩
    exact ((((Only.refl (· = b) w).alloc _).same hO1).alloc _).trans hO3 (fun k hk h => by rcases h with h | h; exact h; omega)
theorem rrising_any (b : Nat) (st : RS) (most : Int) (w : World) (h : Rd w b st) (hlen : (st.getD []).length ≤ 1000000000000) :
    Calls Try.prog 89 #[.pointer (some ⟨b, 0, none⟩), .int .i64 most] w fun e w' => ∃ v, e = .returned v ∧ Only (· = b) w w' ∧ Rd w' b (risR st most).2 ∧ Sl w' num v (risR st most).1 :=
  (rrising_fr b st most w h hlen).mono fun e w' ⟨v, h1, h2, h3, h4⟩ => ⟨v, h1, h2, h3, h4.1⟩
end Go.Proofs.Ytjegohibpojneaa
