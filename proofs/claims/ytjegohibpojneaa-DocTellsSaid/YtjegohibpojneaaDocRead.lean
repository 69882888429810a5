import Derived.Test.YtjegohibpojneaaDocPrint
import Derived.Test.YtjegohibpojneaaDocReadP
import Derived.Laws.ResultCell
set_option linter.unusedVariables false
set_option linter.unusedSimpArgs false
namespace Go.Proofs.Ytjegohibpojneaa
open Go.RowKit

theorem results_ct2 {P : Program} {fn : Func} {p u : Tmp} {ty : TypeId} (h : fn.results = #[.cell p ty, .tmp u]) (tmps : Array Value) (w : World) (g : Nat) (t : TypeId) (cs : Array Value) (fr : Nat × Nat) (d : TypeDesc)
    (hp : tmps.getD p undef = .pointer (some ⟨g, 0, none⟩)) (hg : w.heap[g]? = some (.cells cs t fr))
    (hu : P.underlying ty = some d) (hd : (match d with | .struct _ | .array _ _ => true | _ => false) = true) (hi : (P.info? ty).map (·.size) = some cs.size) :
    (results fn tmps).run P w = .ok (.tuple #[.agg cs, tmps.getD u undef]) w := by
  rw [results_cell_tmp h, hp]
  simp [asAddr, run_loadVar_row w g t ty cs fr d hg hu hd hi, Result.andThen]
theorem five_facts {w : World} {b : Nat} {u0 u1 u2 u3 u4 : Value} {t : TypeId} (h : w.heap[b]? = some (.cells #[u0, u1, u2, u3, u4] t (0, 0))) :
    (w.cell? ⟨b, 0, none⟩ = some u0 ∧ w.cell? ⟨b, 1, none⟩ = some u1 ∧ w.cell? ⟨b, 2, none⟩ = some u2 ∧ w.cell? ⟨b, 3, none⟩ = some u3 ∧ w.cell? ⟨b, 4, none⟩ = some u4) ∧
    (w.frozen? ⟨b, 0, none⟩ = false ∧ w.frozen? ⟨b, 1, none⟩ = false ∧ w.frozen? ⟨b, 2, none⟩ = false ∧ w.frozen? ⟨b, 3, none⟩ = false ∧ w.frozen? ⟨b, 4, none⟩ = false) :=
  ⟨⟨blk_cells h 0, blk_cells h 1, blk_cells h 2, blk_cells h 3, blk_cells h 4⟩, blk_frozen h 0, blk_frozen h 1, blk_frozen h 2, blk_frozen h 3, blk_frozen h 4⟩
abbrev zCells : Array Value := #[.int .i64 0, .slice none 0 0, .slice none 0 0, .int .i64 0, .bool false]
/-- A change whose rows lie in no block below the mark. -/
def ChgF (w : World) (base : Nat) (v : Value) (c : Chg) : Prop :=
  ∃ s1 s2, v = .agg #[.int .i64 c.doc, s1, s2, .int .i64 c.tags, .bool c.gone] ∧ SlP w s1 c.terms ∧ Sl w (.int .i64) s2 c.v ∧ Fr base s1 ∧ Fr base s2
theorem ChgF.chg {w : World} {base : Nat} {v : Value} {c : Chg} (h : ChgF w base v c) : ChgV w v c := by
  obtain ⟨s1, s2, e, h1, h2, _, _⟩ := h; exact ⟨s1, s2, e, h1, h2⟩
theorem ChgF.mono {w : World} {a b : Nat} {v : Value} {c : Chg} (h : ChgF w b v c) (hab : a ≤ b) : ChgF w a v c := by
  obtain ⟨s1, s2, e, h1, h2, h3, h4⟩ := h; exact ⟨s1, s2, e, h1, h2, h3.mono hab, h4.mono hab⟩
theorem ChgF.same {w w' : World} {base : Nat} {v : Value} {c : Chg} (h : ChgF w base v c) (hS : Same w w') : ChgF w' base v c := by
  obtain ⟨s1, s2, e, h1, h2, h3, h4⟩ := h; exact ⟨s1, s2, e, h1.same hS, h2.same hS, h3, h4⟩
theorem ChgF.only {S : Nat → Prop} {w w' : World} {base : Nat} {v : Value} {c : Chg} (h : ChgF w base v c) (ho : Only S w w') (hS : ∀ b, S b → b < base) : ChgF w' base v c := by
  obtain ⟨s1, s2, e, h1, h2, h3, h4⟩ := h
  exact ⟨s1, s2, e, h1.keep ho (fun b off sp n c _ e hb => by have := h3 b off sp n c e; have := hS b hb; omega), h2.keep ho (fun b off sp n c e hb => by have := h4 b off sp n c e; have := hS b hb; omega), h3, h4⟩
/-- What a Read hands back. -/
def ReadV (w : World) (base : Nat) (v : Value) (c : Option Chg) : Prop := ∃ u, v = .tuple #[u, .bool c.isSome] ∧ ChgF w base u (c.getD zChg)
theorem chg_zero (w : World) (base : Nat) : ChgF w base (.agg zCells) zChg := ⟨_, _, rfl, SlP.nil w, ⟨none, 0, rfl, by simp [zChg], by simp, fun _ => rfl, fun h => absurd h (by simp [zChg])⟩, Fr.nil _ _ _, Fr.nil _ _ _⟩

theorem five_set {w : World} {b : Nat} {u0 u1 u2 u3 u4 : Value} {t : TypeId} (h : w.heap[b]? = some (.cells #[u0, u1, u2, u3, u4] t (0, 0))) (x0 x1 x2 x3 x4 : Value) :
    (((((w.setCell ⟨b, 0, none⟩ x0).setCell ⟨b, 1, none⟩ x1).setCell ⟨b, 2, none⟩ x2).setCell ⟨b, 3, none⟩ x3).setCell ⟨b, 4, none⟩ x4).heap[b]? = some (.cells #[x0, x1, x2, x3, x4] t (0, 0)) :=
  blk_set (blk_set (blk_set (blk_set (blk_set h))))
theorem Only.put5 {S : Nat → Prop} {a w : World} (h : Only S a w) {b : Nat} (hb : b < a.heap.size → S b) (x0 x1 x2 x3 x4 : Value) :
    Only S a (((((w.setCell ⟨b, 0, none⟩ x0).setCell ⟨b, 1, none⟩ x1).setCell ⟨b, 2, none⟩ x2).setCell ⟨b, 3, none⟩ x3).setCell ⟨b, 4, none⟩ x4) :=
  ((((h.setCell hb _).setCell hb _).setCell hb _).setCell hb _).setCell hb _
theorem neq0 {r : Int} (h : r ≠ 0) : (r != 0) = true := by simpa using h
theorem okC_none {c : Chg} (h : rightD c ≠ 0) : okC c = none := by unfold okC; rw [if_neg h]
theorem okC_some {c : Chg} (h : rightD c = 0) : okC c = some c := by unfold okC; rw [if_pos h]
set_option maxRecDepth 100000 in
set_option maxHeartbeats 4000000 in
theorem read_gone (b : Nat) (st : RS) (w : World) (h : Rd w b st) (hlen : (st.getD []).length ≤ 1000000) (hg : (varS (varS st).2).1 ≠ 0) :
    Calls Try.prog 22 #[.pointer (some ⟨b, 0, none⟩)] w fun e w' => ∃ v, e = .returned v ∧ Only (· = b) w w' ∧ Rd w' b (readD st).2 ∧ ReadV w' w.heap.size v (readD st).1 := by
  have hrd : readD st = if 1 < (varS (varS st).2).1 then (none, (varS (varS st).2).2) else (okC (readG (varS st).1 (varS (varS st).2).1), (varS (varS st).2).2) := by unfold readD; rw [if_neg hg]
  have hbl := h.lt
  have H := Lib.hid h
  have hl1 := varS_less st
  have hl2 := varS_less (varS st).2
  have hm := varS_le st
  have hm2 := varS_le (varS st).2
  have hnb : (varS (varS st).2).2.isNone = false := by cases hx : (varS (varS st).2).2 with
    | none => exact absurd (varS_bad _ hx) hg
    | some _ => rfl
  have hc1 : Same w (w.alloc (.cells zCells 27)) := (Only.refl _ w).alloc _
  have hA0 := blk_new w (.cells zCells 27)
  obtain ⟨rr, hrr⟩ : ∃ r, r = readD st := ⟨_, rfl⟩
  rw [← hrr] at hrd ⊢
  have cv1 := fun w0 (hR : Rd w0 b st) => rvarint_any b st w0 hR (by omega)
  have cv2 := fun w0 (hR : Rd w0 b (varS st).2) => rvarint_any b (varS st).2 w0 hR (by omega)
  have cb := fun w0 (hR : Rd w0 b (varS (varS st).2).2) => rbad_any b (varS (varS st).2).2 w0 hR
  rw [hnb] at cb
  have hi0 : varS st = ((varS st).1, (varS st).2) := rfl
  generalize (varS (varS st).2).2 = s2 at *
  generalize (varS (varS st).2).1 = g at *
  generalize (varS st).1 = d at *
  generalize (varS st).2 = s1 at *
  have HRR := Lib.hid hrd; have CV1 := Lib.hid cv1; have CV2 := Lib.hid cv2; have CB := Lib.hid cb
  clear hrr hrd h cv1 cv2 cb hnb hi0
  go_enter Try.func22, Try.ntmps22
  go_upto_region 1 with fail
  have hb0 : b < (w.alloc (.cells zCells 27)).heap.size := by simp; omega
  generalize hW0 : w.alloc (.cells zCells 27) = W0 at *
  have HC1 := Lib.hid hc1; have HA0 := Lib.hid hA0
  have HR0 := Lib.hid (H.out.same hc1)
  clear hc1 hA0 hW0
  go_wp2_with fail
  refine (CV1.out _ HR0.out).mono ?_
  rintro e w1 ⟨rfl, hO1, hR1⟩
  have hA1 := hO1.heap HA0.out (fun h => by omega)
  have hC1 := blk_new w1 (.cells #[.int .i64 d, .slice none 0 0, .slice none 0 0, .int .i64 0, .bool false] 27)
  have hs1 : Same w1 (w1.alloc (.cells #[.int .i64 d, .slice none 0 0, .slice none 0 0, .int .i64 0, .bool false] 27)) := (Only.refl _ w1).alloc _
  have hlt1 := heap_lt hA1
  have hr1 := hR1.lt
  go_upto_region 2 with fail
  generalize hW1 : w1.alloc (.cells #[.int .i64 d, .slice none 0 0, .slice none 0 0, .int .i64 0, .bool false] 27) = W1 at *
  have HO1 := Lib.hid (((HC1.out.mono (S' := (· = b)) (fun _ _ h => h.elim)).same hO1).then hs1)
  have HA1 := Lib.hid (hs1.heap hA1 (fun h => h)); have HCB := Lib.hid hC1; have HR1 := Lib.hid (hR1.same hs1)
  clear hO1 hA1 hC1 hs1 hR1 HA0 HC1 HR0 hW1
  go_wp2_with fail
  refine (CV2.out _ HR1.out).mono ?_
  rintro e w2 ⟨rfl, hO2, hR2⟩
  have hA2 := hO2.heap HA1.out (fun h => by omega)
  have hC2 := hO2.heap HCB.out (fun h => by omega)
  have HO2 := Lib.hid (HO1.out.same hO2)
  have hr2 := hR2.lt
  have hlt2 := heap_lt hA2
  have hltc := heap_lt hC2
  have HA2 := Lib.hid hA2; have HC2 := Lib.hid hC2; have HR2 := Lib.hid hR2
  clear hO2 hA2 hC2 hR2 HO1 HA1 HCB HR1 H
  obtain ⟨⟨k0, k1, k2, k3, k4⟩, f0, f1, f2, f3, f4⟩ := five_facts HC2.out
  have hg0 : ((g : Int) == 0) = false := by simpa using hg
  obtain ⟨gb, hgb⟩ : ∃ b, ((g : Int) == 1) = b := ⟨_, rfl⟩
  go_upto_region 4 with fail
  have hC4 := blk_set (j := 4) (v := .bool gb) HC2.out
  have hO4 := HO2.out.setCell (p := ⟨w1.heap.size, 4, none⟩) (fun h => by simp only at h; omega) (.bool gb)
  have hA4 : (w2.setCell ⟨w1.heap.size, 4, none⟩ (.bool gb)).heap[w.heap.size]? = _ := ((Only.refl (· = w1.heap.size) w2).setCell (fun _ => rfl) _).heap HA2.out (by omega)
  have hR4 : Rd (w2.setCell ⟨w1.heap.size, 4, none⟩ (.bool gb)) b s2 := HR2.out.only ((Only.refl (· = w1.heap.size) w2).setCell (fun _ => rfl) _) (by omega)
  have hz4 : (w2.setCell ⟨w1.heap.size, 4, none⟩ (.bool gb)).heap.size = w2.heap.size := by simp
  generalize w2.setCell ⟨w1.heap.size, 4, none⟩ (.bool gb) = w4 at *
  have HC4 : Hid (w4.heap[w1.heap.size]? = some (.cells #[.int .i64 d, .slice none 0 0, .slice none 0 0, .int .i64 0, .bool gb] 27 (0, 0))) := Lib.hid hC4
  have HO4 := Lib.hid hO4; have HA4 := Lib.hid hA4; have HR4 := Lib.hid hR4
  clear hC4 hO4 hA4 hR4 HC2 HO2 HA2 HR2 k0 k1 k2 k3 k4 f0 f1 f2 f3 f4
  by_cases h2 : 1 < g
  · have HRZ : Hid (rr = (none, s2)) := Lib.hid (by rw [HRR.out, if_pos h2])
    clear hg HRR hgb
    go_wp2_with fail
    refine (CB.out _ HR4.out).mono ?_
    rintro e w3 ⟨rfl, hS3⟩
    have HA3 := Lib.hid (hS3.heap HA4.out (fun h => h)); have HR3 := Lib.hid (HR4.out.same hS3)
    have HO3 := Lib.hid (HO4.out.then hS3)
    clear hS3 HA4 HC4 HR4 HO4
    obtain ⟨⟨k0, k1, k2, k3, k4⟩, f0, f1, f2, f3, f4⟩ := five_facts HA3.out
    go_wp2_with fail
    refine bodyPost_ret (results_ct2 rfl _ _ _ _ _ _ _ rfl (five_set HA3.out _ _ _ _ _) Try.underlying27 rfl (by kernel_rfl)) rfl ?_
    refine ⟨_, rfl, HO3.out.put5 (fun h => by omega) _ _ _ _ _, ?_, ?_⟩
    · rw [HRZ.out]; exact HR3.out.only ((Only.refl (· = w.heap.size) w3).put5 (fun _ => rfl) _ _ _ _ _) (by omega)
    · rw [HRZ.out]; exact ⟨_, rfl, chg_zero _ _⟩
  · obtain rfl : g = 1 := by omega
    obtain rfl : gb = true := hgb.symm
    have hci : ChgI (readG d 1) := by
      unfold ChgI readG i64b
      simp
      omega
    have cr := fun w0 => right_any (.agg #[.int .i64 d, .slice none 0 0, .slice none 0 0, .int .i64 0, .bool true]) (readG d 1) w0 ⟨_, _, rfl, SlP.nil w0, ⟨none, 0, rfl, by simp [readG], by simp, fun _ => rfl, fun h => absurd h (by simp [readG])⟩⟩ hci
    obtain ⟨r0, hr0⟩ : ∃ r, r = rightD (readG d 1) := ⟨_, rfl⟩
    rw [← hr0] at cr
    have CR := Lib.hid cr; have HR0 := Lib.hid hr0
    have HRZ : Hid (rr = (okC (readG d 1), s2)) := Lib.hid (by rw [HRR.out, if_neg (by omega)])
    obtain ⟨⟨k0, k1, k2, k3, k4⟩, f0, f1, f2, f3, f4⟩ := five_facts HC4.out
    clear cr hr0 hci hg HRR h2 hgb
    go_wp2_with fail
    refine (CB.out _ HR4.out).mono ?_
    rintro e w5 ⟨rfl, hS5⟩
    have HC5 := Lib.hid (hS5.heap HC4.out (fun h => h)); have HA5 := Lib.hid (hS5.heap HA4.out (fun h => h)); have HR5 := Lib.hid (HR4.out.same hS5)
    have HO5 := Lib.hid (HO4.out.then hS5)
    clear hS5 HA4 HC4 HR4 HO4 k0 k1 k2 k3 k4 f0 f1 f2 f3 f4
    obtain ⟨⟨k0, k1, k2, k3, k4⟩, f0, f1, f2, f3, f4⟩ := five_facts HC5.out
    go_wp2_with fail
    refine (CR.out _).mono ?_
    rintro e w6 ⟨rfl, hS6⟩
    have HC6 := Lib.hid (hS6.heap HC5.out (fun h => h)); have HA6 := Lib.hid (hS6.heap HA5.out (fun h => h)); have HR6 := Lib.hid (HR5.out.same hS6)
    have HO6 := Lib.hid (HO5.out.then hS6)
    clear hS6 HA5 HC5 HR5 HO5 k0 k1 k2 k3 k4 f0 f1 f2 f3 f4
    obtain ⟨⟨k0, k1, k2, k3, k4⟩, f0, f1, f2, f3, f4⟩ := five_facts HC6.out
    obtain ⟨⟨l0, l1, l2, l3, l4⟩, e0, e1, e2, e3, e4⟩ := five_facts HA6.out
    by_cases h0 : r0 = 0
    · subst h0
      have hk : okC (readG d 1) = some (readG d 1) := okC_some HR0.out.symm
      have HK := Lib.hid hk
      clear hk
      go_wp2_with fail
      refine bodyPost_ret (results_ct2 rfl _ _ _ _ _ _ _ rfl (five_set HA6.out _ _ _ _ _) Try.underlying27 rfl (by kernel_rfl)) rfl ?_
      refine ⟨_, rfl, HO6.out.put5 (fun h => by omega) _ _ _ _ _, ?_, ?_⟩
      · rw [HRZ.out]; exact HR6.out.only ((Only.refl (· = w.heap.size) w6).put5 (fun _ => rfl) _ _ _ _ _) (by omega)
      · rw [HRZ.out, HK.out]
        exact ⟨_, rfl, _, _, rfl, SlP.nil _, ⟨none, 0, rfl, by simp [readG], by simp, fun _ => rfl, fun h => absurd h (by simp [readG])⟩, Fr.nil _ _ _, Fr.nil _ _ _⟩
    · have hk : okC (readG d 1) = none := okC_none (by rw [← HR0.out]; exact h0)
      have HK := Lib.hid hk
      have hn := neq0 h0
      clear hk h0
      go_wp2_with fail
      refine bodyPost_ret (results_ct2 rfl _ _ _ _ _ _ _ rfl (five_set HA6.out _ _ _ _ _) Try.underlying27 rfl (by kernel_rfl)) rfl ?_
      refine ⟨_, rfl, HO6.out.put5 (fun h => by omega) _ _ _ _ _, ?_, ?_⟩
      · rw [HRZ.out]; exact HR6.out.only ((Only.refl (· = w.heap.size) w6).put5 (fun _ => rfl) _ _ _ _ _) (by omega)
      · rw [HRZ.out, HK.out]; exact ⟨_, rfl, chg_zero _ _⟩
end Go.Proofs.Ytjegohibpojneaa
