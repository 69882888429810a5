import Derived.Test.YtjegohibpojneaaDocRightR
import Derived.Test.YtjegohibpojneaaDocPlain
import Derived.Test.YtjegohibpojneaaPackW
import Derived.Test.YtjegohibpojneaaPackRow
import Derived.Deep.AppendLies
import Derived.Deep.RegionHeld3
import Derived.Deep.DrawnRows
set_option linter.unusedVariables false
set_option linter.unusedSimpArgs false
namespace Go.Proofs.Ytjegohibpojneaa
open Go.RowKit
attribute [local go_sem ↓] Go.wp_at_zero Go.wp_at_succ

/-- Two rows of the call's own, in no block together. -/
def Apart (v1 v2 : Value) : Prop := ∀ g, v1.ownBlock = some g → v2.ownBlock = some g → False
theorem Apart.symm {v1 v2 : Value} (h : Apart v1 v2) : Apart v2 v1 := fun g a b => h g b a
theorem Apart.grown {w : World} {base : Nat} {e : TypeId} {size n m g cap H : Nat} {v1 v2 : Value} {ys : List Value} (h : Apart v1 v2) (hB : w.ownsRow base e size v2 m ys) (hH : w.heap.size = H) (hl : v1.ownBlock = some g ∨ g = H) : Apart (.slice (some ⟨g, 0, none⟩) n cap) v2 := by
  intro k h1 h2
  have hk : g = k := by simpa [Value.ownBlock] using h1
  subst hk
  rcases hl with h' | h'
  · exact h g h' h2
  · have := (hB.lt g h2).2; omega
theorem own_grown {w w' : World} {base : Nat} {e : TypeId} {size m : Nat} {v1 v2 : Value} {ys : List Value} (hB : w.ownsRow base e size v2 m ys) (hg : w.grownBy w' v1.ownBlock) (h : Apart v1 v2) : w'.ownsRow base e size v2 m ys :=
  own_keep (S := fun k => v1.ownBlock = some k) hB ⟨hg.os, hg.tape, hg.output, hg.size, fun k hk hS => hg.block k hk (fun e => hS e.symm)⟩ (fun k hk hS => h k hS hk)
theorem blk_grown {w w' : World} {g : Nat} {o : Obj} {v1 : Value} (hb : w.heap[g]? = some o) (hg : w.grownBy w' v1.ownBlock) (h : v1.ownBlock ≠ some g) : w'.heap[g]? = some o := (hg.block g (heap_lt hb) (fun e => h e.symm)).trans hb
theorem own_ne {w : World} {base : Nat} {e : TypeId} {size n : Nat} {v : Value} {xs : List Value} (h : w.ownsRow base e size v n xs) {g : Nat} (hg : w.heap.size ≤ g) : v.ownBlock ≠ some g := fun e => by have := (h.lt g e).2; omega
theorem blk_new1 (w : World) (o o' : Obj) : ((w.alloc o).alloc o').heap[w.heap.size + 1]? = some o' := by have := blk_new (w.alloc o) o'; rwa [World.size_alloc] at this
theorem base_le {S : Nat → Prop} {w w' : World} {base : Nat} (h : base ≤ w.heap.size) (ho : Only S w w') : base ≤ w'.heap.size := Nat.le_trans h ho.size
/-- One more on one of two rows, at a step of a region that draws. -/
theorem step_app {P : Program} {S : Nat → Prop} (w : World) {ops : Array Oper} {o : Oper} {a : Act} {K : Act → World → Prop} {Q : Exit → Act → World → Prop} {E : Prop} (hgd : o.guard = none) (s x : Operand) (t : TypeId)
    (ho : o.op = .call { callee := .builtin .append, args := #[s, x], argTypes := #[t, t] })
    (base : Nat) (e : TypeId) (z : Value) (bytes : Nat) (ht : P.underlying t = some (.slice e)) (hinfo : (P.info? e).map (fun i => (i.zero, i.size, i.bytes)) = some (some z, 1, bytes)) (hzs : z.cells.size = 1)
    (v : Value) (n : Nat) (xs : List Value) (hs : a.eval s = v) (hown : w.ownsRow base e 1 v n xs) (v2 : Value) (m : Nat) (ys : List Value) (hown2 : w.ownsRow base e 1 v2 m ys) (hap : Apart v v2)
    (B : Nat) (u : Value) (hx : a.eval x = .slice (some ⟨B, 0, none⟩) 1 1) (hB : w.heap[B]? = some (.cells #[u] e (0, 0))) (h1 : u.oneCell' = true)
    (h63 : n + 1 ≤ maxLen) (hbytes : (n + 1) * bytes ≤ 140737488355328) (hbase : base ≤ w.heap.size) (hS : ∀ k, v.ownBlock = some k → S k)
    (h : ∀ g cap w', w'.ownsRow base e 1 (.slice (some ⟨g, 0, none⟩) (n + 1) cap) (n + 1) (xs ++ [u]) → w'.ownsRow base e 1 v2 m ys → Apart (.slice (some ⟨g, 0, none⟩) (n + 1) cap) v2 → Only S w w' →
      (∀ b o, w.heap[b]? = some o → v.ownBlock ≠ some b → w'.heap[b]? = some o) → K (a.put o.dst (.slice (some ⟨g, 0, none⟩) (n + 1) cap)) w') :
    if Region.wanted o (yielded ops a.tmps) = true then Oper.wp P o a w K Q else E := by
  obtain ⟨i, hi, hz0, hz1, hz2⟩ := info_parts hinfo
  refine step_append_lies w hgd s x t ho base e i z 1 bytes ht hi hz0 hz1 hz2 hzs (by omega) v n xs hs hown ⟨B, 0, none⟩ 1 1 [u] hx rfl (World.news_of_block hB) (by intro y hy; simp at hy; subst hy; exact h1) (by omega) h63 hbytes hbase w.heap.size rfl ?_
  intro g cap w' h2 hg hl _
  exact h g cap w' h2 (own_grown hown2 hg hap) (hap.grown hown2 rfl hl) ((Only.refl _ w).grown hg (fun k hk _ => hS k hk)) (fun b o hb hne => blk_grown hb hg hne)
theorem chg_box (w : World) (c : Chg) (s1 s2 : Value) (t : TypeId) (o : Obj) (ho : o = .cells #[.int .i64 c.doc, s1, s2, .int .i64 c.tags, .bool c.gone] t) : Same w (w.alloc o) ∧ (w.alloc o).heap[w.heap.size]? = some (.cells #[.int .i64 c.doc, s1, s2, .int .i64 c.tags, .bool c.gone] t (0, 0)) := by
  subst ho
  exact ⟨(Only.refl _ w).alloc _, blk_new _ _⟩
theorem chg_cells {w : World} {b : Nat} {c : Chg} {s1 s2 : Value} {t : TypeId} (h : w.heap[b]? = some (.cells #[.int .i64 c.doc, s1, s2, .int .i64 c.tags, .bool c.gone] t (0, 0))) :
    w.cell? ⟨b, 0, none⟩ = some (.int .i64 c.doc) ∧ w.cell? ⟨b, 1, none⟩ = some s1 ∧ w.cell? ⟨b, 2, none⟩ = some s2 ∧ w.cell? ⟨b, 3, none⟩ = some (.int .i64 c.tags) ∧ w.cell? ⟨b, 4, none⟩ = some (.bool c.gone) :=
  ⟨blk_cells h 0, blk_cells h 1, blk_cells h 2, blk_cells h 3, blk_cells h 4⟩

set_option maxRecDepth 100000 in
set_option maxHeartbeats 4000000 in
theorem print_any (v : Value) (c : Chg) (w : World) (hv : ChgV w v c) (hi : ChgI c) :
    Calls Try.prog 16 #[v] w fun e w' => e = .returned (.tuple #[.string (str ((docS c).getD [])), .int .i64 (rightD c)]) ∧ Same w w' := by
  have HV := Lib.hid hv
  obtain ⟨s1, s2, rfl, h1, h2⟩ := hv
  have H1 := Lib.hid h1; have H2 := Lib.hid h2; have HI := Lib.hid hi
  obtain ⟨a1, c1, rfl, hc1, hm1⟩ := h1.lit
  obtain ⟨a2, c2, rfl, hc2, hm2, _, _⟩ := h2
  clear h1 hi
  unfold maxLen at hm1 hm2
  obtain ⟨hS0, hB0⟩ := chg_box w c (.slice a1 c.terms.length c1) (.slice a2 c.v.length c2) 27 _ rfl
  obtain ⟨rd, hrd⟩ : ∃ r, r = rightD c := ⟨_, rfl⟩
  rw [← hrd]
  have hds : docS c = if rd = 0 then some (docBytes c) else none := by rw [hrd]; rfl
  have cr := fun w0 (hS : Same w w0) => right_any _ c w0 (HV.out.same hS) HI.out
  rw [← hrd] at cr
  have CR := Lib.hid cr; have HDS := Lib.hid hds; have HRD := Lib.hid hrd
  clear cr hds hrd
  go_enter Try.func16, Try.ntmps16
  go_upto_region 1 with fail
  generalize w.alloc (.cells #[.int .i64 c.doc, .slice a1 c.terms.length c1, .slice a2 c.v.length c2, .int .i64 c.tags, .bool c.gone] 27) = W0 at *
  have HS0 := Lib.hid hS0; have HB0 := Lib.hid hB0
  obtain ⟨q0, q1, q2, q3, q4⟩ := chg_cells hB0
  clear hS0 hB0
  go_wp2_with fail
  refine (CR.out _ HS0.out).mono ?_
  rintro e w1 ⟨rfl, hS1⟩
  have HS1 := Lib.hid (HS0.out.then hS1)
  have HB1 := Lib.hid (hS1.heap HB0.out (fun h => h))
  obtain ⟨p0, p1, p2, p3, p4⟩ := chg_cells HB1.out
  clear q0 q1 q2 q3 q4 HB0 HS0 hS1 CR
  by_cases h0 : rd = 0
  rotate_left
  · have hd : docS c = none := by rw [HDS.out, if_neg h0]
    have HD := Lib.hid hd
    have hz : (rd != 0) = true := by simpa using h0
    clear h0 hd
    go_wp2_with fail
    go_ret2
    rw [HD.out]
    exact ⟨rfl, HS1.out⟩
  subst h0
  have hd : docS c = some (docBytes c) := by rw [HDS.out, if_pos rfl]
  have hrc := (right0_iff c).1 HRD.out.symm
  have HD := Lib.hid hd; have HRC := Lib.hid hrc
  clear hd HDS HRD
  have hdoc := hrc.doc
  obtain ⟨dn, hdn⟩ := Int.eq_ofNat_of_zero_le hdoc.1
  rw [hdn] at p0
  have cv := fun w0 => pvarint_ok dn w0 (by omega)
  have CV := Lib.hid cv
  have hv10 := vint_le10 dn (by omega)
  have hvs := str_size (vint dn)
  have HDN : Hid (c.doc.toNat = dn) := Lib.hid (by omega)
  clear cv hrc hdoc hdn
  go_wp2_with fail
  refine (CV.out _).mono ?_
  rintro e w2 ⟨rfl, hS2⟩
  have HS2 := Lib.hid (HS1.out.then hS2)
  have HB2 := Lib.hid (hS2.heap HB1.out (fun h => h))
  clear p0 p1 p2 p3 p4 HB1 HS1 hS2 CV
  obtain ⟨p0, p1, p2, p3, p4⟩ := chg_cells HB2.out
  obtain ⟨bg, hbg⟩ : ∃ b, b = c.gone := ⟨_, rfl⟩
  rw [← hbg] at p4
  have HBG := Lib.hid hbg
  clear hbg
  cases bg
  rotate_left
  · have hdb : docBytes c = vint dn ++ [1] := by unfold docBytes; rw [HDN.out, ← HBG.out]; rfl
    have HDB := Lib.hid hdb
    clear hdb
    go_wp2_with fail
    go_ret2
    rw [HD.out, HDB.out]
    refine ⟨?_, HS2.out⟩
    show Ending.returned (.tuple #[.string (str (vint dn) ++ str [1]), _]) = _
    rw [str_append]; rfl
  · obtain ⟨ks, hks⟩ : ∃ ks, ks = c.terms.map (·.1) := ⟨_, rfl⟩
    obtain ⟨ws, hws⟩ : ∃ ws, ws = c.terms.map (·.2) := ⟨_, rfl⟩
    have hkl : ks.length = c.terms.length := by rw [hks]; simp
    have hwl : ws.length = c.terms.length := by rw [hws]; simp
    have HKL := Lib.hid hkl; have HKS := Lib.hid hks; have HWL := Lib.hid hwl; have HWS := Lib.hid hws
    clear hkl hks hwl hws
    have hlen := HI.out.2.2.2.2.1
    have HINF : Hid ((Try.prog.info? 3).map (fun i => (i.zero, i.size, i.bytes)) = some (some (.int .i64 0), 1, 8)) := Lib.hid (by kernel_rfl)
    go_wp2_with fail
    go_loopw [7, 8, 40] (fun ra rb i wr => ∃ (k : Nat) (va vb : Value), va = ra ∧ vb = rb ∧ k ≤ c.terms.length ∧ i = .int .i64 k ∧ Same w2 wr ∧ wr.ownsRow w2.heap.size 3 1 va k ((ks.take k).map num) ∧ wr.ownsRow w2.heap.size 3 1 vb k ((ws.take k).map num) ∧ Apart va vb) (fun _ _ i _ => c.terms.length - (intOf i).toNat)
    case atStart => exact ⟨0, _, _, rfl, rfl, by omega, rfl, Only.refl _ _, World.ownsRow_nil _ _ _ _, World.ownsRow_nil _ _ _ _, fun g h => by cases h⟩
    case round =>
      obtain ⟨k, va, vb, rfl, rfl, hk, rfl, hS, hA, hB, hD⟩ := hrel
      obtain ⟨wr0, hwr⟩ : ∃ x, x = wr := ⟨_, rfl⟩
      subst hwr
      by_cases hlt : k < c.terms.length
      · obtain ⟨b, off, rfl, hcc⟩ := H1.out.spot (by omega)
        have hck := hS.cell_eq (HS2.out.cell_eq (hcc k hlt).1 (fun h => h)) (fun h => h)
        have hck2 := hS.cell_eq (HS2.out.cell_eq (hcc k hlt).2 (fun h => h)) (fun h => h)
        have hst1 : ks.take (k + 1) = ks.take k ++ [c.terms[k].1] := by rw [take_snocI ks k (by have := HKL.out; omega)]; simp [HKS.out]
        have hst2 : ws.take (k + 1) = ws.take k ++ [c.terms[k].2] := by rw [take_snocI ws k (by have := HWL.out; omega)]; simp [HWS.out]
        generalize c.terms[k].1 = x at *
        generalize c.terms[k].2 = y at *
        have HST1 := Lib.hid hst1; have HST2 := Lib.hid hst2
        clear hst1 hst2 hcc p0 p1 p2 p3 p4
        have hk63 : k + 1 ≤ maxLen := by unfold maxLen; omega
        have hk8 : (k + 1) * 8 ≤ 140737488355328 := by omega
        have hb2 : w2.heap.size ≤ (wr0.alloc (.cells #[.int .i64 x, .int .i64 y] 142)).heap.size := by have := hS.size; simp; omega
        have hSA : ∀ g, va.ownBlock = some g → w2.heap.size ≤ g ∧ g ≠ wr0.heap.size := fun g hg => by have := hA.lt g hg; omega
        have hSB : ∀ g, vb.ownBlock = some g → w2.heap.size ≤ g ∧ g ≠ wr0.heap.size := fun g hg => by have := hB.lt g hg; omega
        have HSA := Lib.hid hSA; have HSB := Lib.hid hSB
        clear hSA hSB
        go_upto_region 11 with fail
        have hAW := hA.alloc (.cells #[.int .i64 x, .int .i64 y] 142)
        have hBW := hB.alloc (.cells #[.int .i64 x, .int .i64 y] 142)
        have hA := hAW
        have hB := hBW
        have hT := blk_new wr0 (.cells #[.int .i64 x, .int .i64 y] 142)
        have hSW := hS.alloc (.cells #[.int .i64 x, .int .i64 y] 142)
        generalize wr0.alloc (.cells #[.int .i64 x, .int .i64 y] 142) = W at *
        have q0 : Only (fun k => w2.heap.size ≤ k ∧ k ≠ wr0.heap.size) W W := Only.refl _ _
        have HT := Lib.hid hT
        have hK : ∀ w', Only (fun k => w2.heap.size ≤ k ∧ k ≠ wr0.heap.size) W w' → (w'.cell? ⟨wr0.heap.size, 0, none⟩ = some (.int .i64 x) ∧ w'.cell? ⟨wr0.heap.size, 1, none⟩ = some (.int .i64 y)) := fun w' h => by
          obtain ⟨e0, e1, _, _⟩ := two_facts (h.heap HT.out (fun h => h.2 rfl))
          exact ⟨e0, e1⟩
        have HK := Lib.hid hK
        clear hK hT
        go_region_held3 (fun w' => w'.cell? ⟨wr0.heap.size, 0, none⟩ = some (.int .i64 x) ∧ w'.cell? ⟨wr0.heap.size, 1, none⟩ = some (.int .i64 y))
          (first | exact HK.out _ q0 | exact HK.out _ q0.drew | exact HK.out _ (q0.alloc _) | exact HK.out _ (q0.drew.alloc _) | exact HK.out _ ((q0.alloc _).alloc _) | exact HK.out _ ((q0.drew.alloc _).alloc _))
          (first
            | ((refine step_app (o := ⟨some 48, _, _, _, _, _⟩) (S := fun k => w2.heap.size ≤ k ∧ k ≠ wr0.heap.size) _ (by rfl) (.tmp 44) (.tmp 47) 23 (by rfl) w2.heap.size 3 (.int .i64 0) 8 Try.underlying23 HINF.out rfl va k _ (by rfl) (by first | exact hA | exact hA.alloc _ | exact (hA.alloc _).alloc _) _ _ _ (by first | exact hB | exact hB.alloc _ | exact (hB.alloc _).alloc _) hD _ (.int .i64 x) (by rfl) (by first | exact blk_new _ _ | exact blk_new1 _ _ _ | exact blk_old _ (blk_new _ _) | exact hN1 | simpa only [World.size_alloc] using hN1) rfl hk63 hk8 (by first | exact base_le hb2 q0 | exact base_le hb2 q0.drew | exact base_le hb2 (q0.alloc _) | exact base_le hb2 (q0.drew.alloc _) | exact base_le hb2 ((q0.alloc _).alloc _) | exact base_le hb2 ((q0.drew.alloc _).alloc _)) HSA.out ?_); intro gn capn wn hA hB hD0 hq hkp; have hD := hD0; (first | (have hN2 : wn.heap[_]? = some (Obj.cells #[.int .i64 y] 3 (0, 0)) := hkp _ _ (by first | exact blk_old _ (blk_new _ _) | exact blk_new _ _) (own_ne hAW (by simp))) | skip); have q0 := Only.same (by first | exact q0 | exact q0.drew | exact q0.alloc _ | exact q0.drew.alloc _ | exact (q0.alloc _).alloc _ | exact (q0.drew.alloc _).alloc _) hq; clear hq hkp hD0)
            | ((refine step_app (o := ⟨some 53, _, _, _, _, _⟩) (S := fun k => w2.heap.size ≤ k ∧ k ≠ wr0.heap.size) _ (by rfl) (.tmp 49) (.tmp 52) 23 (by rfl) w2.heap.size 3 (.int .i64 0) 8 Try.underlying23 HINF.out rfl vb k _ (by rfl) (by first | exact hB | exact hB.alloc _ | exact (hB.alloc _).alloc _) _ _ _ (by first | exact hA | exact hA.alloc _ | exact (hA.alloc _).alloc _) hD.symm _ (.int .i64 y) (by rfl) (by first | exact blk_new _ _ | exact blk_new1 _ _ _ | exact blk_old _ (blk_new _ _) | exact hN2 | simpa only [World.size_alloc] using hN2) rfl hk63 hk8 (by first | exact base_le hb2 q0 | exact base_le hb2 q0.drew | exact base_le hb2 (q0.alloc _) | exact base_le hb2 (q0.drew.alloc _) | exact base_le hb2 ((q0.alloc _).alloc _) | exact base_le hb2 ((q0.drew.alloc _).alloc _)) HSB.out ?_); intro gn capn wn hB hA hD0 hq hkp; have hD := hD0.symm; (first | (have hN1 : wn.heap[_]? = some (Obj.cells #[.int .i64 x] 3 (0, 0)) := hkp _ _ (by first | exact blk_old _ (blk_new _ _) | exact blk_new _ _) (own_ne hBW (by simp))) | skip); have q0 := Only.same (by first | exact q0 | exact q0.drew | exact q0.alloc _ | exact q0.drew.alloc _ | exact (q0.alloc _).alloc _ | exact (q0.drew.alloc _).alloc _) hq; clear hq hkp hD0))
        all_goals
          go_wp2_with fail
          go_roundw
          case rel =>
            refine ⟨k + 1, _, _, rfl, rfl, by omega, by go_num, hSW.trans q0 (fun g h1 h2 => by omega), ?_, ?_, hD⟩
            · rw [HST1.out, List.map_append]; exact hA
            · rw [HST2.out, List.map_append]; exact hB
          case measure => simp [intOf]; omega
      · obtain rfl : k = c.terms.length := by omega
        rw [List.take_of_length_le (by have := HKL.out; omega)] at hA
        rw [List.take_of_length_le (by have := HWL.out; omega)] at hB
        have hSK := own_sl hA
        have hSV := own_sl hB
        have HS3 := Lib.hid (HS2.out.then hS)
        have HB3 := Lib.hid (hS.heap HB2.out (fun h => h))
        have HSK := Lib.hid hSK; have HSV := Lib.hid hSV
        clear hA hB hD hSK hSV hS p0 p1 p2 p3 p4 HB2
        obtain ⟨p0, p1, p2, p3, p4⟩ := chg_cells HB3.out
        go_wp2_with fail
        go_loopw [11, 13, 59] (fun rv xv i wr => ∃ (k : Nat) (vv : Value), vv = rv ∧ k ≤ c.v.length ∧ i = .int .i64 k ∧ Same wr0 wr ∧ wr.ownsRow wr0.heap.size 3 1 vv k (((c.v.map (· + 128)).take k).map num)) (fun _ _ i _ => c.v.length - (intOf i).toNat)
        case atStart => exact ⟨0, _, rfl, by omega, rfl, Only.refl _ _, World.ownsRow_nil _ _ _ _⟩
        case round =>
          obtain ⟨k, vv, rfl, hk2, rfl, hS, hV⟩ := hrel
          obtain ⟨wr1, hwr⟩ : ∃ x, x = wr := ⟨_, rfl⟩
          subst hwr
          have HV3 := Lib.hid hV
          have hlv : c.v.length ≤ 8 := by have := (HRC.out.vec HBG.out.symm).1; omega
          by_cases hlt2 : k < c.v.length
          · obtain ⟨b, off, rfl, hcc⟩ := H2.out.spot (by omega)
            have hck := hS.cell_eq (HS3.out.cell_eq (hcc k hlt2) (fun h => h)) (fun h => h)
            have hst := take_snocI (c.v.map (· + 128)) k (by simpa using hlt2)
            rw [List.getElem_map] at hst
            have hxr := (HRC.out.vec HBG.out.symm).2 c.v[k] (List.getElem_mem hlt2)
            generalize c.v[k] = x at *
            have HST := Lib.hid hst
            have hsz := hS.size
            clear hst hcc hV p0 p1 p2 p3 p4
            go_wp2_with ((at_builtin; refine app_one [.int .i64 (x + 128)] rfl (.tmp 63) (.tmp 66) 23 rfl wr0.heap.size 3 (.int .i64 0) 1 8 Try.underlying23 HINF.out rfl (by decide) _ k _ rfl HV3.out rfl ?_ rfl (by intro u hu; simp at hu; subst hu; rfl) (by unfold maxLen; omega) (by omega) hsz; intro v' w4 hown4 hO4))
            go_roundw
            case rel => exact ⟨k + 1, _, rfl, by omega, by go_num, hS.trans hO4 (fun g h1 h2 => by omega), by rw [HST.out, List.map_append]; exact hown4⟩
            case measure => simp [intOf]; omega
          · obtain rfl : k = c.v.length := by omega
            have hs3 := hS
            replace p3 := hS.cell_eq p3 (fun h => h)
            have HS4 := Lib.hid (HS3.out.then hS)
            have hks := fun x (hx : x ∈ ks) => show 0 ≤ x ∧ x ≤ 1048575 by
              rw [HKS.out] at hx
              obtain ⟨t, ht, rfl⟩ := List.mem_map.1 hx
              exact (HRC.out.terms t ht).1
            have hws := fun x (hx : x ∈ ws) => show 1 ≤ x ∧ x ≤ 65535 by
              rw [HWS.out] at hx
              obtain ⟨t, ht, rfl⟩ := List.mem_map.1 hx
              exact (HRC.out.terms t ht).2
            have hl64 := HRC.out.len
            obtain ⟨rb, hrb, hrbl⟩ := risS_some ks (by rw [HKS.out]; exact HRC.out.rises) (fun x hx => by have := hks x hx; omega) (by have := HKL.out; omega)
            have hfw := fixS_some 16 ws (by omega) (fun x hx => by have := hws x hx; omega)
            have hlw := fixB_len 16 ws
            have hkl := HKL.out
            have hwl := HWL.out
            have cr := fun w0 (hS : Same wr0 w0) => ris_any _ ks w0 (HSK.out.same hS) (fun x hx => by have := hks x hx; omega) (by omega)
            rw [hrb] at cr
            have cw := fun w0 (hS : Same wr0 w0) => fix_any 16 _ ws w0 (HSV.out.same hS) (fun x hx => by have := hws x hx; omega) (by omega)
            rw [show fixS 16 ws = some (fixB 16 ws) from hfw] at cw
            have htg := HRC.out.tags
            have hvx := (HRC.out.vec HBG.out.symm).2
            have hf8 := fixS_some 8 (c.v.map (· + 128) ++ [c.tags]) (by omega) (fun x hx => by
              rcases List.mem_append.1 hx with h | h
              · obtain ⟨y, hy, rfl⟩ := List.mem_map.1 h
                have := hvx y hy
                omega
              · simp at h; subst h; omega)
            have hl8 := fixB_len 8 (c.v.map (· + 128) ++ [c.tags])
            have c8 := fun (vx : Value) w0 (hS : Sl w0 (.int .i64) vx (c.v.map (· + 128) ++ [c.tags])) => fix_any 8 vx (c.v.map (· + 128) ++ [c.tags]) w0 hS (fun x hx => by
              rcases List.mem_append.1 hx with h | h
              · obtain ⟨y, hy, rfl⟩ := List.mem_map.1 h
                have := hvx y hy
                omega
              · simp at h; subst h; omega) (by simp; omega)
            rw [show fixS 8 (c.v.map (· + 128) ++ [c.tags]) = some (fixB 8 (c.v.map (· + 128) ++ [c.tags])) from hf8] at c8
            have hdb : docBytes c = vint dn ++ ([0] ++ (rb ++ (fixB 16 ws ++ fixB 8 (c.v.map (· + 128) ++ [c.tags])))) := by
              unfold docBytes
              rw [HDN.out, ← HBG.out, ← HKS.out, ← HWS.out, hrb]; rfl
            rw [List.take_of_length_le (by simp)] at hV
            rw [List.length_append, List.length_map] at hl8
            have CRS := Lib.hid cr; have CW := Lib.hid cw; have C8 := Lib.hid c8; have HDB := Lib.hid hdb
            have hz1 := str_size rb; have hz2 := str_size (fixB 16 ws); have hz3 := str_size (fixB 8 (c.v.map (· + 128) ++ [c.tags]))
            have hV3 := hV
            have HVF := Lib.hid hV3
            have hw16 : (fixB 16 ws).length ≤ 1000 := by omega
            have hw8 : (fixB 8 (c.v.map (· + 128) ++ [c.tags])).length ≤ 1000 := by simp at hl8; omega
            have hrb1 : rb.length ≤ 1000 := by omega
            generalize fixB 16 ws = fw at *
            generalize fixB 8 (c.v.map (· + 128) ++ [c.tags]) = f8 at *
            clear cr cw c8 hdb hrb hfw hf8 hlw hl8 hkl hwl hks hws hl64 hvx htg hV hV3 HKL HWL HKS HWS hrbl HV3
            have hsz := hS.size
            clear p0 p1 p2 p4
            go_wp2_with fail
            refine (CRS.out _ hs3).mono ?_
            rintro e w5 ⟨rfl, hS5⟩
            have hs5 := hs3.then hS5
            replace p3 := hS5.cell_eq p3 (fun h => h)
            go_wp2_with fail
            refine (CW.out _ hs5).mono ?_
            rintro e w6 ⟨rfl, hS6⟩
            have hs6 := hs5.then hS6
            replace p3 := hS6.cell_eq p3 (fun h => h)
            have hso := own_same (own_same HVF.out hS5) hS6
            have HSO := Lib.hid hso
            have hsz6 := hs6.size
            clear hso
            go_wp2_with ((at_builtin; refine app_one [.int .i64 c.tags] rfl (.tmp 80) (.tmp 84) 23 rfl wr0.heap.size 3 (.int .i64 0) 1 8 Try.underlying23 HINF.out rfl (by decide) _ c.v.length _ rfl HSO.out rfl ?_ rfl (by intro u hu; simp at hu; subst hu; rfl) (by unfold maxLen; omega) (by omega) hsz6; intro v' w7 hown7 hO7))
            have hsl7 : Sl w7 (.int .i64) v' (c.v.map (· + 128) ++ [c.tags]) := own_sl (n := c.v.length + 1) (e := 3) (base := wr0.heap.size) (by rw [List.map_append]; exact hown7)
            refine (C8.out _ _ hsl7).mono ?_
            rintro e w8 ⟨rfl, hS8⟩
            have HS8 := Lib.hid ((HS3.out.then (hs6.trans hO7 (fun g h1 h2 => by omega))).then hS8)
            clear hS8 hsl7 hown7 hO7
            go_wp2_with fail
            go_ret2
            rw [HD.out, HDB.out]
            refine ⟨?_, HS8.out⟩
            show Ending.returned (.tuple #[.string ((((str (vint dn) ++ str [0]) ++ str rb) ++ str fw) ++ str f8), _]) = _
            rw [str_append, str_append, str_append, str_append]
            simp [eno]
end Go.Proofs.Ytjegohibpojneaa
