import Derived.Test.YtjegohibpojneaaPostBuild
import Derived.Deep.RegionLaw
import Derived.Deep.RegionHeld3
set_option linter.unusedVariables false
set_option linter.unusedSimpArgs false
namespace Go.Proofs.Ytjegohibpojneaa
open Go.RowKit

/-- A list whose blocks all lie below B. -/
def ListB (w : World) (b : Nat) (l : List (Int × Int)) (B : Nat) : Prop := ∃ s1 s2, w.heap[b]? = some (.cells #[s1, s2, .int .i64 (maxP l)] 169 (0, 0)) ∧ SlP w s1 l ∧ SlP w s2 (blksP l) ∧ b < B ∧
  (∀ g off sp n c, 0 < l.length → s1 = .slice (some ⟨g, off, sp⟩) n c → g < B) ∧ ∀ g off sp n c, 0 < (blksP l).length → s2 = .slice (some ⟨g, off, sp⟩) n c → g < B
theorem ListAt.low {w : World} {b : Nat} {l : List (Int × Int)} (h : ListAt w b l) : ListB w b l w.heap.size := by
  obtain ⟨s1, s2, h1, h2, h3⟩ := h
  exact ⟨s1, s2, h1, h2, h3, heap_lt h1, fun g off sp n c h0 e => h2.old h0 e, fun g off sp n c h0 e => h3.old h0 e⟩
theorem ListB.list {w : World} {b B : Nat} {l : List (Int × Int)} (h : ListB w b l B) : ListAt w b l := by
  obtain ⟨s1, s2, h1, h2, h3, _⟩ := h; exact ⟨s1, s2, h1, h2, h3⟩
theorem ListB.only {S : Nat → Prop} {w w' : World} {b B : Nat} {l : List (Int × Int)} (h : ListB w b l B) (ho : Only S w w') (hS : ∀ k, S k → B ≤ k) : ListB w' b l B := by
  obtain ⟨s1, s2, h1, h2, h3, h4, h5, h6⟩ := h
  exact ⟨s1, s2, ho.heap h1 (fun hb => by have := hS b hb; omega), h2.keep ho (fun g off sp n c h0 e hg => by have := h5 g off sp n c h0 e; have := hS g hg; omega), h3.keep ho (fun g off sp n c h0 e hg => by have := h6 g off sp n c h0 e; have := hS g hg; omega), h4, h5, h6⟩
theorem ListB.same {w w' : World} {b B : Nat} {l : List (Int × Int)} (h : ListB w b l B) (hS : Same w w') : ListB w' b l B := h.only hS (fun _ h => h.elim)
/-- A cursor. -/
def CurAt (w : World) (c b a : Nat) (l : List (Int × Int)) (B : Nat) : Prop := w.heap[c]? = some (.cells #[.pointer (some ⟨b, 0, none⟩), .int .i64 a] 178 (0, 0)) ∧ a ≤ l.length ∧ B ≤ c ∧ ListB w b l B
theorem CurAt.only {S : Nat → Prop} {w w' : World} {c b a B : Nat} {l : List (Int × Int)} (h : CurAt w c b a l B) (ho : Only S w w') (hS : ∀ k, S k → B ≤ k ∧ k ≠ c) : CurAt w' c b a l B :=
  ⟨ho.heap h.1 (fun hc => (hS c hc).2 rfl), h.2.1, h.2.2.1, h.2.2.2.only ho (fun k hk => (hS k hk).1)⟩
theorem CurAt.same {w w' : World} {c b a B : Nat} {l : List (Int × Int)} (h : CurAt w c b a l B) (hS : Same w w') : CurAt w' c b a l B := h.only hS (fun _ h => h.elim)

theorem len05_any (b : Nat) (l : List (Int × Int)) (w : World) (h : ListAt w b l) : Calls Try.prog 32 #[.pointer (some ⟨b, 0, none⟩)] w fun e w' => e = .returned (.int .i64 l.length) ∧ Same w w' := by
  obtain ⟨s1, s2, h1, h2, h3⟩ := h
  obtain ⟨a1, c1, rfl, hc1, hm1⟩ := h2.lit
  unfold maxLen at hm1
  obtain ⟨⟨k0, k1, k2⟩, _⟩ := three_facts h1
  clear h1 h2 h3
  go_enter Try.func32, Try.ntmps32
  go_wp2_with fail
  go_ret
  exact ⟨rfl, Only.refl _ _⟩
theorem max05_any (b : Nat) (l : List (Int × Int)) (w : World) (h : ListAt w b l) : Calls Try.prog 33 #[.pointer (some ⟨b, 0, none⟩)] w fun e w' => e = .returned (.int .i64 (maxP l)) ∧ Same w w' := by
  obtain ⟨s1, s2, h1, h2, h3⟩ := h
  obtain ⟨⟨k0, k1, k2⟩, _⟩ := three_facts h1
  clear h1 h2 h3
  go_enter Try.func33, Try.ntmps33
  go_wp2_with fail
  go_ret
  exact ⟨rfl, Only.refl _ _⟩
theorem blocks05_any (b : Nat) (l : List (Int × Int)) (w : World) (h : ListAt w b l) : Calls Try.prog 35 #[.pointer (some ⟨b, 0, none⟩)] w fun e w' => e = .returned (.int .i64 (nbP l)) ∧ Same w w' := by
  obtain ⟨s1, s2, h1, h2, h3⟩ := h
  obtain ⟨a1, c1, rfl, hc1, hm1⟩ := h3.lit
  unfold maxLen at hm1
  obtain ⟨⟨k0, k1, k2⟩, _⟩ := three_facts h1
  rw [blksP_len] at k1 hc1
  clear h1 h2 h3
  go_enter Try.func35, Try.ntmps35
  go_wp2_with fail
  go_ret
  exact ⟨rfl, Only.refl _ _⟩
theorem posts05_any (b : Nat) (l : List (Int × Int)) (w : World) (h : ListAt w b l) (hl : l.length ≤ 1000000) : Calls Try.prog 37 #[.pointer (some ⟨b, 0, none⟩)] w fun e w' => ∃ v, e = .returned v ∧ Same w w' ∧ SlP w' v l := by
  obtain ⟨s1, s2, h1, h2, h3⟩ := h
  have H2 := Lib.hid h2
  obtain ⟨a1, c1, rfl, hc1, hm1⟩ := h2.lit
  obtain ⟨⟨k0, k1, k2⟩, _⟩ := three_facts h1
  clear h1 h2 h3
  go_enter Try.func37, Try.ntmps37
  go_wp2_with fail
  refine (pclone_any _ l _ H2.out hl).mono ?_
  rintro e w1 ⟨v, rfl, hS, hv, -⟩
  go_wp2_with fail
  go_ret
  exact ⟨_, rfl, hS, hv⟩
theorem cursor05_any (b B : Nat) (l : List (Int × Int)) (w : World) (h : ListB w b l B) (hB : B ≤ w.heap.size) : Calls Try.prog 42 #[.pointer (some ⟨b, 0, none⟩)] w fun e w' => e = .returned (.pointer (some ⟨w.heap.size, 0, none⟩)) ∧ Same w w' ∧ CurAt w' w.heap.size b 0 l B := by
  have H := Lib.hid h
  clear h
  go_enter Try.func42, Try.ntmps42
  go_wp2_with fail
  go_ret
  have hS : Same w (w.alloc (.cells #[.pointer (some ⟨b, 0, none⟩), .int .i64 0] 178)) := (Only.refl _ w).alloc _
  exact ⟨rfl, hS, blk_new _ _, by omega, hB, H.out.same hS⟩
set_option maxHeartbeats 1000000 in
theorem next05_any (c b a B : Nat) (l : List (Int × Int)) (w : World) (h : CurAt w c b a l B) (hl : l.length ≤ 1000000) : Calls Try.prog 43 #[.pointer (some ⟨c, 0, none⟩)] w fun e w' => e = .returned (.tuple #[]) ∧ Only (· = c) w w' ∧ CurAt w' c b (min (a + 1) l.length) l B := by
  have H := Lib.hid h
  obtain ⟨hc, ha, hB, s1, s2, h1, h2, h3, h4, h5, h6⟩ := h
  obtain ⟨a1, c1, rfl, hc1, hm1⟩ := h2.lit
  unfold maxLen at hm1
  obtain ⟨⟨k0, k1, k2⟩, _⟩ := three_facts h1
  obtain ⟨e0, e1, f0, f1⟩ := two_facts hc
  have hw : IntKind.i64.wrap ((a : Int) + 1) = (a : Int) + 1 := IntWalk.i64_in _ (by omega)
  clear hc h1 h2 h3 h5 h6
  go_enter Try.func43, Try.ntmps43
  go_region
  all_goals
    go_end0
    have hm : (if (l.length : Int) < (a : Int) + 1 then (l.length : Int) else (a : Int) + 1) = ((min (a + 1) l.length : Nat) : Int) := by split <;> omega
    rw [hm]
    have hO : Only (· = c) w (w.setCell ⟨c, 1, none⟩ (.int .i64 ((min (a + 1) l.length : Nat) : Int))).drew := ((Only.refl (· = c) w).setCell (fun _ => rfl) _).drew
    exact ⟨rfl, hO, blk_set H.out.1, by omega, hB, H.out.2.2.2.only hO (fun k hk => by have h2 : k = c := hk; omega)⟩
theorem results_ctb {P : Program} {fn : Func} {p u : Tmp} {ty : TypeId} (h : fn.results = #[.cell p ty, .tmp u]) (tmps : Array Value) (w : World) (g : Nat) (t : TypeId) (cs : Array Value) (fr : Nat × Nat) (d : TypeDesc)
    (hp : tmps.getD p undef = .pointer (some ⟨g, 0, none⟩)) (hg : w.heap[g]? = some (.cells cs t fr))
    (hu : P.underlying ty = some d) (hd : (match d with | .struct _ | .array _ _ => true | _ => false) = true) (hi : (P.info? ty).map (·.size) = some cs.size) :
    (results fn tmps).run P w = .ok (.tuple #[.agg cs, tmps.getD u undef]) w := by
  have hp' : tmps[p]?.getD undef = .pointer (some ⟨g, 0, none⟩) := by simpa using hp
  simp [results, h, hp', asAddr, run_loadVar_row w g t ty cs fr d hg hu hd hi, Result.andThen]
/-- What At tells. -/
def atP (l : List (Int × Int)) (a : Nat) : Int × Int := l.getD a (0, 0)
set_option maxHeartbeats 1000000 in
theorem at05_any (c b a B : Nat) (l : List (Int × Int)) (w : World) (h : CurAt w c b a l B) (hl : l.length ≤ 1000000) : Calls Try.prog 46 #[.pointer (some ⟨c, 0, none⟩)] w fun e w' => e = .returned (.tuple #[pairV (atP l a), .bool (decide (a < l.length))]) ∧ Same w w' := by
  obtain ⟨hc, ha, hB, s1, s2, h1, h2, h3, h4, h5, h6⟩ := h
  have H2 := Lib.hid h2
  obtain ⟨a1, c1, rfl, hc1, hm1⟩ := h2.lit
  unfold maxLen at hm1
  have hA0 := blk_new w (.cells #[.int .i64 0, .int .i64 0] 77)
  have hS0 : Same w (w.alloc (.cells #[.int .i64 0, .int .i64 0] 77)) := (Only.refl _ w).alloc _
  obtain ⟨⟨k0, k1, k2⟩, _⟩ := three_facts (hS0.heap h1 (fun h => h))
  obtain ⟨e0, e1, f0, f1⟩ := two_facts (hS0.heap hc (fun h => h))
  have HA0 := Lib.hid hA0; have HS0 := Lib.hid hS0; have HN := Lib.hid h1; have HC := Lib.hid hc
  clear hc h1 h2 h3 h5 h6
  by_cases hlt : a < l.length
  · rw [decide_eq_true hlt]
    have hge : decide ((l.length : Int) ≤ (a : Int)) = false := by simp; omega
    obtain ⟨bb, off, rfl, hcell⟩ := H2.out.spot (by omega)
    have d0 := hS0.cell_eq (hcell a hlt).1 (fun h => h)
    have d1 := hS0.cell_eq (hcell a hlt).2 (fun h => h)
    have hat : atP l a = l[a] := by unfold atP; rw [List.getD_eq_getElem?_getD, List.getElem?_eq_getElem hlt]; rfl
    rw [hat]
    generalize l[a] = p at *
    clear hcell hA0 hS0
    go_enter Try.func46, Try.ntmps46
    go_upto_region 1 with fail
    generalize w.alloc (.cells #[.int .i64 0, .int .i64 0] 77) = W0 at *
    go_quiet (fail)
    rename_i nq
    have HS1 := Lib.hid (HS0.out.then ((Only.refl (fun _ => False) W0).drewN nq))
    have HA1 : Hid ((W0.drewN nq).heap[w.heap.size]? = some (.cells #[.int .i64 0, .int .i64 0] 77 (0, 0))) := Lib.hid HA0.out
    have e0 : (W0.drewN nq).cell? ⟨c, 0, none⟩ = _ := e0
    have e1 : (W0.drewN nq).cell? ⟨c, 1, none⟩ = _ := e1
    have k0 : (W0.drewN nq).cell? ⟨b, 0, none⟩ = _ := k0
    have d0 : (W0.drewN nq).cell? ⟨bb, off + a * 2, none⟩ = _ := d0
    have d1 : (W0.drewN nq).cell? ⟨bb, off + a * 2 + 1, none⟩ = _ := d1
    generalize W0.drewN nq = W1 at *
    obtain ⟨_, _, z0, z1⟩ := two_facts HA1.out
    go_wp2
    go_region
    all_goals
      go_wp2
      refine bodyPost_ret (results_ctb rfl _ _ _ _ _ _ _ rfl (blk_set (j := 1) (blk_set (j := 0) HA1.out)) Try.underlying77 rfl (by kernel_rfl)) rfl ?_
      exact ⟨rfl, by first | exact (((HS1.out.setCell (fun h => by have h2 : w.heap.size < w.heap.size := h; omega) _).setCell (fun h => by have h2 : w.heap.size < w.heap.size := h; omega) _).drew) | exact ((HS1.out.drew.setCell (fun h => by have h2 : w.heap.size < w.heap.size := h; omega) _).setCell (fun h => by have h2 : w.heap.size < w.heap.size := h; omega) _)⟩
  · rw [decide_eq_false hlt]
    have hge : decide ((l.length : Int) ≤ (a : Int)) = true := by simp; omega
    have hat : atP l a = (0, 0) := by unfold atP; rw [List.getD_eq_getElem?_getD, List.getElem?_eq_none (by omega)]; rfl
    rw [hat]
    clear hA0 hS0
    go_enter Try.func46, Try.ntmps46
    go_upto_region 1 with fail
    generalize w.alloc (.cells #[.int .i64 0, .int .i64 0] 77) = W0 at *
    go_quiet (fail)
    rename_i nq
    have HS1 := Lib.hid (HS0.out.then ((Only.refl (fun _ => False) W0).drewN nq))
    have HA1 : Hid ((W0.drewN nq).heap[w.heap.size]? = some (.cells #[.int .i64 0, .int .i64 0] 77 (0, 0))) := Lib.hid HA0.out
    generalize W0.drewN nq = W1 at *
    obtain ⟨_, _, z0, z1⟩ := two_facts HA1.out
    go_wp2
    refine bodyPost_ret (results_ctb rfl _ _ _ _ _ _ _ rfl (blk_set (j := 1) (blk_set (j := 0) HA1.out)) Try.underlying77 rfl (by kernel_rfl)) rfl ?_
    exact ⟨rfl, (HS1.out.setCell (fun h => by have h2 : w.heap.size < w.heap.size := h; omega) _).setCell (fun h => by have h2 : w.heap.size < w.heap.size := h; omega) _⟩
end Go.Proofs.Ytjegohibpojneaa
