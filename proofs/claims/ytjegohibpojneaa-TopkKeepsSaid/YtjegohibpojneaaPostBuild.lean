import Derived.Test.YtjegohibpojneaaPostBlk
import Derived.Test.YtjegohibpojneaaPostChunk
import Derived.Test.YtjegohibpojneaaPostClone
import Derived.Deep.AppendLies
set_option linter.unusedVariables false
set_option linter.unusedSimpArgs false
namespace Go.Proofs.Ytjegohibpojneaa
open Go.RowKit Go.Shelf
attribute [local go_sem] Oper.semAt_some

/-- A list as it lies. -/
def ListAt (w : World) (b : Nat) (l : List (Int × Int)) : Prop := ∃ s1 s2, w.heap[b]? = some (.cells #[s1, s2, .int .i64 (maxP l)] 169 (0, 0)) ∧ SlP w s1 l ∧ SlP w s2 (blksP l)
theorem ListAt.same {w w' : World} {b : Nat} {l : List (Int × Int)} (h : ListAt w b l) (hS : Same w w') : ListAt w' b l := by
  obtain ⟨s1, s2, h1, h2, h3⟩ := h
  exact ⟨s1, s2, hS.heap h1 (fun h => h), h2.same hS, h3.same hS⟩
theorem ListAt.only {S : Nat → Prop} {w w' : World} {b : Nat} {l : List (Int × Int)} (h : ListAt w b l) (ho : Only S w w') (hS : ∀ k, S k → w.heap.size ≤ k) : ListAt w' b l := by
  obtain ⟨s1, s2, h1, h2, h3⟩ := h
  exact ⟨s1, s2, ho.heap h1 (fun hb => by have := hS b hb; have := heap_lt h1; omega), h2.only ho hS, h3.only ho hS⟩
/-- What Build tells. -/
def BuildPost (l : List (Int × Int)) (w : World) (e : Ending) (w' : World) : Prop :=
  Same w w' ∧ ((rightB l = true ∧ ∃ b, e = .returned (.tuple #[.pointer (some ⟨b, 0, none⟩), .int .i64 0]) ∧ ListAt w' b l) ∨ (rightB l = false ∧ e = .returned (.tuple #[.pointer none, .int .i64 1])))
theorem blk3 (w : World) (o o' o'' : Obj) : (((w.alloc o).alloc o').alloc o'').heap[w.heap.size + 2]? = some o'' := by have := blk_new ((w.alloc o).alloc o') o''; rwa [World.size_alloc, World.size_alloc] at this
set_option maxRecDepth 100000 in
theorem chunk_any (ad : Option Addr) (n c : Nat) (w : World) : Calls Try.prog 101 #[.slice ad n c, .int .i64 4] w fun e w' => e = .returned (.func (.func 145) #[] #[.pointer (some ⟨w.heap.size, 0, none⟩), .pointer (some ⟨w.heap.size + 1, 0, none⟩)]) ∧ w' = (w.alloc (.cells #[.slice ad n c] 55)).alloc (.cells #[.int .i64 4] 3) := by
  go_enter Try.func101, Try.ntmps101
  go_wp2_with fail
  go_ret
  exact ⟨rfl, rfl⟩
theorem SlP.kept {W W' : World} {row : Option Nat} {v : Value} {l : List (Int × Int)} (h : SlP W v l) (hg : W.grownBy W' row) (hr : ∀ r, row = some r → ∃ o : Obj, W.heap[r]? = some o ∧ o.isCells = false) : SlP W' v l := by
  obtain ⟨ad, c, rfl, h1, h2, h3, h4⟩ := h
  refine ⟨ad, c, rfl, h1, h2, h3, fun h0 => ?_⟩
  obtain ⟨b, off, rfl, hc⟩ := h4 h0
  exact ⟨b, off, rfl, fun i hi => ⟨cell_kept (hc i hi).1 hg hr, cell_kept (hc i hi).2 hg hr⟩⟩
theorem blk_kept {W W' : World} {row : Option Nat} {b : Nat} {cs : Array Value} {t : TypeId} {fr : Nat × Nat} (h : W.heap[b]? = some (.cells cs t fr)) (hg : W.grownBy W' row) (hr : ∀ r, row = some r → ∃ o : Obj, W.heap[r]? = some o ∧ o.isCells = false) : W'.heap[b]? = some (.cells cs t fr) :=
  (grownBy_keeps_cells hg hr h rfl).trans h
theorem own_kept {W W' : World} {row : Option Nat} {base : Nat} {e : TypeId} {size n : Nat} {v : Value} {xs : List Value} (h : W.ownsRow base e size v n xs) (hg : W.grownBy W' row) (hr : ∀ r, row = some r → ∃ o : Obj, W.heap[r]? = some o ∧ o.isCells = false) : W'.ownsRow base e size v n xs := by
  refine ⟨h.1, ?_⟩
  rcases h.2 with hn | ⟨g, cap, cur, rfl, hb, hgg, rest⟩
  · exact .inl hn
  · exact .inr ⟨g, cap, cur, rfl, hb, blk_kept hgg hg hr, rest⟩
def maxB (l : List (Int × Int)) (js : List Nat) : Int := js.foldl (fun m j => max m (maxP (chunkP l j))) 0
theorem maxB_snoc (l : List (Int × Int)) (js : List Nat) (j : Nat) : maxB l (js ++ [j]) = max (maxB l js) (maxP (chunkP l j)) := by unfold maxB; rw [List.foldl_append]; rfl
theorem maxB_range (l : List (Int × Int)) : ∀ k, maxB l (List.range k) = maxP (l.take (4 * k))
  | 0 => by simp [maxB, maxP]
  | k + 1 => by rw [List.range_succ, maxB_snoc, maxB_range l k, maxP_chunks]
theorem maxB_all (l : List (Int × Int)) : maxB l (List.range (nbP l)) = maxP l := by
  rw [maxB_range, List.take_of_length_le (by unfold nbP; omega)]
/-- Between two rounds of Build's loop. -/
def BI (l : List (Int × Int)) (B0 L O : Nat) (v1 : Value) (w1 : World) (pre : List (ChunkAt l.length)) (W : World) : Prop :=
  (Below w1.heap.size w1 W ∧ B0 ≤ W.heap.size) ∧ SlP W v1 l ∧ W.heap[O]? = some (.cells #[.pointer (some ⟨L, 0, none⟩)] 56 (0, 0)) ∧
  ∃ v2, W.heap[L]? = some (.cells #[v1, v2, .int .i64 (maxB l (pre.map (·.1)))] 169 (0, 0)) ∧ W.ownsRow B0 174 2 v2 pre.length (cells2 (pre.map fun x => blkP l x.1))
theorem BI_own (l : List (Int × Int)) (B0 L O : Nat) (v1 : Value) (w1 : World) (B : Nat) (hB : w1.heap.size ≤ B) : OwnFrom B (BI l B0 L O v1 w1) := by
  rintro pre W W' row ⟨h1, h2, h3, v2, h4, h5⟩ hg hr
  have hr2 : ∀ r, row = some r → ∃ o : Obj, W.heap[r]? = some o ∧ o.isCells = false := fun r e => (hr r e).2
  exact ⟨⟨h1.1.grown hg h1.1.size (fun k e => by have := (hr k e).1; omega), Nat.le_trans h1.2 hg.size⟩, h2.kept hg hr2, blk_kept h3 hg hr2, v2, blk_kept h4 hg hr2, own_kept h5 hg hr2⟩
theorem three_facts {w : World} {b : Nat} {u0 u1 u2 : Value} {t : TypeId} (h : w.heap[b]? = some (.cells #[u0, u1, u2] t (0, 0))) :
    (w.cell? ⟨b, 0, none⟩ = some u0 ∧ w.cell? ⟨b, 1, none⟩ = some u1 ∧ w.cell? ⟨b, 2, none⟩ = some u2) ∧ (w.frozen? ⟨b, 0, none⟩ = false ∧ w.frozen? ⟨b, 1, none⟩ = false ∧ w.frozen? ⟨b, 2, none⟩ = false) :=
  ⟨⟨blk_cells h 0, blk_cells h 1, blk_cells h 2⟩, blk_frozen h 0, blk_frozen h 1, blk_frozen h 2⟩
/-- What a round of Build's loop leaves. -/
theorem build_end {l : List (Int × Int)} {B0 c1 gn capn x : Nat} {a1 : Option Addr} {w1 W wn wf wg we : World} {v2 : Value} {pre : List (ChunkAt l.length)} {mm la mo mn : Int} (hx : 4 * x < l.length)
    (hz : w1.heap.size + 1 + 1 + 1 < B0) (hB : Below w1.heap.size w1 W) (hBW : B0 ≤ W.heap.size) (hV1 : SlP w1 (.slice a1 l.length c1) l) (hSL : SlP W (.slice a1 l.length c1) l)
    (hO : W.heap[w1.heap.size + 1]? = some (.cells #[.pointer (some ⟨w1.heap.size, 0, none⟩)] 56 (0, 0)))
    (hown : W.ownsRow B0 174 2 v2 pre.length (cells2 (pre.map fun x => blkP l x.1)))
    (hQ : Only (fun g => v2.ownBlock = some g) W wn) (hP : Only (· = w1.heap.size) wn wf) (hS : Same wf wg) (hE : Only (· = w1.heap.size) wg we)
    (hN : wn.ownsRow B0 174 2 (.slice (some ⟨gn, 0, none⟩) (pre.length + 1) capn) (pre.length + 1) (cells2 (pre.map fun x => blkP l x.1) ++ [.int .i64 mm, .int .i64 la]))
    (hLE : we.heap[w1.heap.size]? = some (.cells #[.slice a1 l.length c1, .slice (some ⟨gn, 0, none⟩) (pre.length + 1) capn, .int .i64 mn] 169 (0, 0)))
    (hmm : maxP (chunkP l x) = mm) (hla : la = lastP l x) (hmo : maxB l (pre.map (·.1)) = mo) (hmn : mn = if mo < mm then mm else mo) :
    KeepsFrom B0 W we ∧ (we.heap[w1.heap.size + 1 + 1]? = W.heap[w1.heap.size + 1 + 1]? ∧ we.heap[w1.heap.size + 1 + 1 + 1]? = W.heap[w1.heap.size + 1 + 1 + 1]?) ∧
      BI l B0 w1.heap.size (w1.heap.size + 1) (.slice a1 l.length c1) w1 (pre ++ [⟨x, hx⟩]) we := by
  have hog : ∀ g, v2.ownBlock = some g → B0 ≤ g ∧ g < W.heap.size := fun g hg => hown.lt g hg
  have hall : Only (fun g => v2.ownBlock = some g ∨ g = w1.heap.size) W we :=
    (((hQ.mono (S' := fun g => v2.ownBlock = some g ∨ g = w1.heap.size) (fun k _ h => .inl h)).same (hP.mono (fun k _ h => .inr h))).then hS).same (hE.mono (fun k _ h => .inr h))
  have hsz : B0 ≤ W.heap.size := hBW
  have hlo : ∀ k, k < B0 → k ≠ w1.heap.size → we.heap[k]? = W.heap[k]? := by
    intro k hk hne
    refine hall.block k (by omega) ?_
    rintro (h | h)
    · have := hog k h
      omega
    · exact hne h
  refine ⟨⟨hall.size, fun k o hk ho hc => ?_⟩, ⟨hlo _ (by omega) (by omega), hlo _ (by omega) (by omega)⟩, ⟨⟨?_, Nat.le_trans hBW hall.size⟩, ?_, ?_, ⟨.slice (some ⟨gn, 0, none⟩) (pre.length + 1) capn, ?_, ?_⟩⟩⟩
  · refine (hall.block k (heap_lt ho) ?_).trans ho
    rintro (h | h)
    · rcases hown.2 with ⟨hv, _⟩ | ⟨g, cap, cur, hv, _, hg, _⟩
      · rw [hv] at h; cases h
      · rw [hv] at h
        have h2 : g = k := by simpa [Value.ownBlock] using h
        rw [h2] at hg
        rw [ho] at hg
        injection hg with hg
        rw [hg] at hc
        cases hc
    · omega
  · exact ⟨hall.os.trans hB.os, hall.tape.trans hB.tape, hall.output.trans hB.output, Nat.le_trans hB.size hall.size, fun k hk => (hlo k (by omega) (by omega)).trans (hB.block k hk)⟩
  · refine hSL.keep hall (fun b off sp n c h0 e => ?_)
    have h1 := hV1.old h0 e
    rintro (h | h)
    · have := hog b h; omega
    · omega
  · exact (hlo _ (by omega) (by omega)).trans hO
  · rw [hLE]
    have : maxB l ((pre ++ [(⟨x, hx⟩ : ChunkAt l.length)]).map (·.1)) = mn := by
      rw [List.map_append, List.map_cons, List.map_nil, maxB_snoc, hmo, hmm, hmn]
      split <;> omega
    rw [this]
  · have e1 : cells2 ((pre ++ [(⟨x, hx⟩ : ChunkAt l.length)]).map fun x => blkP l x.1) = cells2 (pre.map fun x => blkP l x.1) ++ [.int .i64 mm, .int .i64 la] := by
      rw [List.map_append, List.map_cons, List.map_nil, cells2_snoc]
      simp only [blkP, hmm, hla]
    rw [e1, List.length_append, List.length_cons, List.length_nil]
    have hgn : w1.heap.size ≠ gn := by have := (hN.lt gn rfl).1; omega
    have hk1 := own_keep hN hP (fun k hk e => by have h2 : gn = k := by simpa [Value.ownBlock] using hk
                                                 omega)
    exact own_keep (own_same hk1 hS) hE (fun k hk e => by have h2 : gn = k := by simpa [Value.ownBlock] using hk
                                                          omega)
set_option maxRecDepth 100000 in
set_option maxHeartbeats 8000000 in
theorem build_any (v : Value) (l : List (Int × Int)) (w : World) (hv : SlP w v l) (hl : l.length ≤ 1000000) :
    Calls Try.prog 30 #[v] w fun e w' => BuildPost l w e w' := by
  have HV := Lib.hid hv
  obtain ⟨ad, cp, rfl, hcp, hmx⟩ := hv.lit
  unfold maxLen at hmx
  clear hv
  refine (callsIn_wide (n := 4)).1 ?_
  refine callsIn_of_wp_marks Try.func30 rfl trivial ?_ rfl
  simp only [Try.ntmps30, List.size_toArray, List.length_cons, List.length_nil, Nat.reduceAdd, Nat.reduceSub, Array.replicate_succ, Array.replicate_zero, List.push_toArray, List.append_toArray, List.nil_append, List.cons_append]
  refine wpIn_wide.2 ?_
  go_wp2_with fail
  go_loopw [13] (fun i wr => ∃ k : Nat, k ≤ l.length ∧ i = .int .i64 k ∧ rightB (l.take k) = true ∧ Same w wr) (fun i _ => l.length - (intOf i).toNat)
  case atStart => exact ⟨0, by omega, rfl, rfl, Only.refl _ _⟩
  case round =>
    obtain ⟨k, hk, rfl, hg, hS⟩ := hrel
    by_cases hlt : k < l.length
    · obtain ⟨b, off, rfl, hc⟩ := HV.out.spot (by omega)
      have hst := rightB_step l k hlt
      rw [hg, Bool.true_and] at hst
      have hno := fun h => rightB_no l (k + 1) h
      rw [hst] at hno
      have hc0 := hS.cell_eq (hc k hlt).1 (fun h => h)
      have hc1 := hS.cell_eq (hc k hlt).2 (fun h => h)
      have hp0 : k ≠ 0 → wr.cell? ⟨b, off + (k - 1) * 2, none⟩ = some (.int .i64 ((docsP l).getD (k - 1) 0)) := fun h => by
        rw [docsP_get l (k - 1) (by omega)]; exact hS.cell_eq (hc (k - 1) (by omega)).1 (fun h => h)
      generalize l[k] = p at *
      generalize (docsP l).getD (k - 1) 0 = y at *
      have HST := Lib.hid hst; have HNO := Lib.hid hno; have HS := Lib.hid hS; have HP0 := Lib.hid hp0
      clear hst hno hS hg hc hp0
      unfold okPost at HNO HST
      go_upto_region 4 with fail
      obtain ⟨e0, e1, -, -⟩ := two_facts (blk_new wr (.cells #[.int .i64 p.1, .int .i64 p.2] 77))
      have hA : Same wr (wr.alloc (.cells #[.int .i64 p.1, .int .i64 p.2] 77)) := (Only.refl _ wr).alloc _
      have hp1 := fun h => hA.cell_eq (HP0.out h) (fun h => h)
      have HSA := Lib.hid (HS.out.then hA)
      generalize wr.alloc (.cells #[.int .i64 p.1, .int .i64 p.2] 77) = wa at *
      have HP1 := Lib.hid hp1
      clear hA hp1 HP0 hc0 hc1
      by_cases g1 : p.1 < 0
      · have d1 : decide (p.1 < 0) = true := decide_eq_true g1
        have HF := Lib.hid (HNO.out (by rw [show decide (0 ≤ p.1) = false by simp; omega]; rfl))
        clear HST HNO HP1 g1
        go_quiet (fail)
        rename_i nq
        go_wp2_with fail
        exact ⟨_, results_tmp2 rfl _ _ _, HSA.out.drewN nq, .inr ⟨HF.out, rfl⟩⟩
      have d1 : decide (p.1 < 0) = false := decide_eq_false g1
      by_cases g2 : 2147483647 < p.1
      · have d2 : decide (2147483647 < p.1) = true := decide_eq_true g2
        have HF := Lib.hid (HNO.out (by rw [show decide (p.1 ≤ 2147483647) = false by simp; omega]; simp))
        clear HST HNO HP1 g1 g2
        go_quiet (fail)
        rename_i nq
        go_wp2_with fail
        exact ⟨_, results_tmp2 rfl _ _ _, HSA.out.drewN nq, .inr ⟨HF.out, rfl⟩⟩
      have d2 : decide (2147483647 < p.1) = false := decide_eq_false g2
      by_cases g3 : p.2 < 1
      · have d3 : decide (p.2 < 1) = true := decide_eq_true g3
        have HF := Lib.hid (HNO.out (by rw [show decide (1 ≤ p.2) = false by simp; omega]; simp))
        clear HST HNO HP1 g1 g2 g3
        go_quiet (fail)
        rename_i nq
        go_wp2_with fail
        exact ⟨_, results_tmp2 rfl _ _ _, HSA.out.drewN nq, .inr ⟨HF.out, rfl⟩⟩
      have d3 : decide (p.2 < 1) = false := decide_eq_false g3
      by_cases g4 : 65535 < p.2
      · have d4 : decide (65535 < p.2) = true := decide_eq_true g4
        have HF := Lib.hid (HNO.out (by rw [show decide (p.2 ≤ 65535) = false by simp; omega]; simp))
        clear HST HNO HP1 g1 g2 g3 g4
        go_quiet (fail)
        rename_i nq
        go_wp2_with fail
        exact ⟨_, results_tmp2 rfl _ _ _, HSA.out.drewN nq, .inr ⟨HF.out, rfl⟩⟩
      have d4 : decide (65535 < p.2) = false := decide_eq_false g4
      by_cases g5 : k = 0
      · have hk0 : ¬ 0 < k := by omega
        have hk1 : decide ((0 : Int) < (k : Int)) = false := by simp; omega
        have HF := Lib.hid (HST.out.trans (by rw [show decide (0 ≤ p.1) = true by simp; omega, show decide (p.1 ≤ 2147483647) = true by simp; omega, show decide (1 ≤ p.2) = true by simp; omega, show decide (p.2 ≤ 65535) = true by simp; omega, decide_eq_true g5]; rfl : _ = true))
        clear HST HNO HP1 g1 g2 g3 g4 g5
        go_quiet (fail)
        rename_i nq
        go_wp2_with fail
        go_roundw
        case rel => exact ⟨k + 1, by omega, by go_num, HF.out, HSA.out.drewN nq⟩
        case measure => simp [intOf]; omega
      · have hk0 : 0 < k := by omega
        have hk1 : decide ((0 : Int) < (k : Int)) = true := by simp; omega
        have hc2 := HP1.out g5
        have hk2 : (0 : Int) ≤ (k : Int) - 1 := by omega
        have hk3 : (k : Int) - 1 < (l.length : Int) := by omega
        have hk4 : ((k : Int) - 1).toNat = k - 1 := by omega
        by_cases g6 : p.1 ≤ y
        · have d6 : decide (p.1 ≤ y) = true := decide_eq_true g6
          have HF := Lib.hid (HNO.out (by rw [show decide (0 ≤ p.1) = true by simp; omega, show decide (p.1 ≤ 2147483647) = true by simp; omega, show decide (1 ≤ p.2) = true by simp; omega, show decide (p.2 ≤ 65535) = true by simp; omega, decide_eq_false g5, show decide (y < p.1) = false by simp; omega]; rfl))
          clear HST HNO HP1 g1 g2 g3 g4 g5 g6
          go_quiet (fail)
          rename_i nq
          go_wp2_with fail
          exact ⟨_, results_tmp2 rfl _ _ _, HSA.out.drewN nq, .inr ⟨HF.out, rfl⟩⟩
        · have d6 : decide (p.1 ≤ y) = false := decide_eq_false g6
          have HF := Lib.hid (HST.out.trans (by rw [show decide (0 ≤ p.1) = true by simp; omega, show decide (p.1 ≤ 2147483647) = true by simp; omega, show decide (1 ≤ p.2) = true by simp; omega, show decide (p.2 ≤ 65535) = true by simp; omega, decide_eq_false g5, show decide (y < p.1) = true by simp; omega]; rfl : _ = true))
          clear HST HNO HP1 g1 g2 g3 g4 g5 g6
          go_quiet (fail)
          rename_i nq
          go_wp2_with fail
          go_roundw
          case rel => exact ⟨k + 1, by omega, by go_num, HF.out, HSA.out.drewN nq⟩
          case measure => simp [intOf]; omega
    · obtain rfl : k = l.length := by omega
      rw [List.take_length] at hg
      have HG := Lib.hid hg
      have HS := Lib.hid hS
      clear hg hS
      go_wp2_with fail
      refine (pclone_any _ l _ (HV.out.same HS.out) hl).mono ?_
      rintro e w1 ⟨v1, rfl, hS1, hv1, hf1⟩
      have HS1 := Lib.hid (HS.out.then hS1); have HV1 := Lib.hid hv1; have HF1 := Lib.hid hf1
      obtain ⟨a1, c1, rfl, hc1, hm1⟩ := hv1.lit
      unfold maxLen at hm1
      clear hS1 hv1 hf1 HS
      go_upto_region 8 with fail
      have hL0 := blk_old (.cells #[.int .i64 4] 3) (blk_old (.cells #[.slice a1 l.length c1] 55) (blk_old (.cells #[.pointer (some ⟨w1.heap.size, 0, none⟩)] 56) (blk_new w1 (.cells #[.slice a1 l.length c1, .slice none 0 0, .int .i64 0] 169))))
      have hO0 := blk_old (.cells #[.int .i64 4] 3) (blk_old (.cells #[.slice a1 l.length c1] 55) (blk_new (w1.alloc (.cells #[.slice a1 l.length c1, .slice none 0 0, .int .i64 0] 169)) (.cells #[.pointer (some ⟨w1.heap.size, 0, none⟩)] 56)))
      have hs0 := blk_old (.cells #[.int .i64 4] 3) (blk_new ((w1.alloc (.cells #[.slice a1 l.length c1, .slice none 0 0, .int .i64 0] 169)).alloc (.cells #[.pointer (some ⟨w1.heap.size, 0, none⟩)] 56)) (.cells #[.slice a1 l.length c1] 55))
      have hn0 := blk_new (((w1.alloc (.cells #[.slice a1 l.length c1, .slice none 0 0, .int .i64 0] 169)).alloc (.cells #[.pointer (some ⟨w1.heap.size, 0, none⟩)] 56)).alloc (.cells #[.slice a1 l.length c1] 55)) (.cells #[.int .i64 4] 3)
      have hT0 : Same w1 ((((w1.alloc (.cells #[.slice a1 l.length c1, .slice none 0 0, .int .i64 0] 169)).alloc (.cells #[.pointer (some ⟨w1.heap.size, 0, none⟩)] 56)).alloc (.cells #[.slice a1 l.length c1] 55)).alloc (.cells #[.int .i64 4] 3)) := ((((Only.refl _ w1).alloc _).alloc _).alloc _).alloc _
      simp only [World.size_alloc] at hL0 hO0 hs0 hn0
      go_wp2_with (go_at_call 101; refine (chunk_any _ _ _ _).mono ?_; rintro e w2 ⟨rfl, rfl⟩)
      generalize (((w1.alloc (.cells #[.slice a1 l.length c1, .slice none 0 0, .int .i64 0] 169)).alloc (.cells #[.pointer (some ⟨w1.heap.size, 0, none⟩)] 56)).alloc (.cells #[.slice a1 l.length c1] 55)).alloc (.cells #[.int .i64 4] 3) = W0 at *
      have hzn := heap_lt hn0
      have hsp : ∃ b1 off1, 0 < l.length → a1 = some ⟨b1, off1, none⟩ := by
        by_cases h0 : 0 < l.length
        · obtain ⟨b, off, h, _⟩ := HV1.out.spot h0
          exact ⟨b, off, fun _ => h⟩
        · exact ⟨0, 0, fun h => absurd h h0⟩
      obtain ⟨b1, off1, had⟩ := hsp
      have HSL := Lib.hid (HV1.out.same hT0)
      refine (wpIn_wide (n := 4)).1 ?_
      refine wpIn_rangeFunc_ownG rfl (by omega) (gf := 145) (lb := #[.pointer (some ⟨w1.heap.size + 1 + 1, 0, none⟩), .pointer (some ⟨w1.heap.size + 1 + 1 + 1, 0, none⟩)]) rfl trivial (enters_of Try.func145 (by kernel_rfl) rfl)
        (chunk_stops (w1.heap.size + 1 + 1) (w1.heap.size + 1 + 1 + 1) b1 off1 l.length c1 3 a1 had W0 (by omega) hl hc1 (by unfold maxLen; omega) hs0 hn0) (fun h1 h2 => ⟨h2.1.trans h1.1, h2.2.trans h1.2⟩) (fun W k o o' hk ho _ _ => ⟨World.putObj_heap_other (by omega), World.putObj_heap_other (by omega)⟩) (Below.refl _ _) (fun _ => rfl)
        (BI l W0.heap.size w1.heap.size (w1.heap.size + 1) (.slice a1 l.length c1) w1) (fun _ _ _ => False) (BI_own _ _ _ _ _ _ _ (by omega)) (fun _ _ _ _ _ hs _ _ => hs)
        ⟨⟨hT0.below, Nat.le_refl _⟩, HSL.out, hO0, _, hL0, World.ownsRow_nil _ _ _ _⟩ ?act ?assign ?body ?done ?stop
      case assign =>
        intro l' x W K hK
        gi_wp2
        exact hK
      case stop =>
        rintro D c pre W _ _ h _
        exact h.elim
      case done =>
        rintro D ys W hD hys ⟨⟨hB, hBW⟩, hSL, hO, v2, hL, hown⟩ hK
        have hnb : ys.map (·.1) = List.range (nbP l) := hys
        have hO1 := blk_cells hO 0
        simp at hO1
        rw [hnb, maxB_all] at hL
        have hyl : ys.length = nbP l := by have := congrArg List.length hnb; simpa using this
        have hyb : (ys.map fun x => blkP l x.1) = blksP l := by
          unfold blksP
          rw [← hnb, List.map_map]
          rfl
        rw [hyl, hyb] at hown
        have HL := Lib.hid hL; have HOW := Lib.hid hown; have HB := Lib.hid hB; have HSLW := Lib.hid hSL; have HK := Lib.hid hK
        clear hL hown hB hSL hK hys hnb hyb hO
        go_wp2_with fail
        refine ⟨by simp, .inl ⟨_, _, rfl, run_takeDeferred HK.out, ?_⟩⟩
        refine ⟨_, results_tmp2 rfl _ _ _, ?_⟩
        have hne : ∀ k (cs : Array Value) (t : TypeId) (fr : Nat × Nat), W.heap[k]? = some (.cells cs t fr) → k ≠ D := fun k cs t fr h e => by
          rw [e, HK.out] at h
          cases h
        have hgk := grownBy_putObj' W D (.deferred none)
        have hr : ∀ r, some D = some r → ∃ o : Obj, W.heap[r]? = some o ∧ o.isCells = false := fun r e => by cases e; exact ⟨_, HK.out, rfl⟩
        refine ⟨HS1.out.trans (Only.ofBelow (HB.out.grown hgk HB.out.size (fun k e => by cases e; omega))) (fun k _ h => h), .inl ⟨HG.out, _, rfl, _, _, blk_kept HL.out hgk hr, HSLW.out.kept hgk hr, own_slp (own_kept HOW.out hgk hr)⟩⟩
      case body =>
        rintro l' pre x W ⟨⟨hB, hBW⟩, hSL, hO, v2, hL, hown⟩ hlt
        obtain ⟨x, hx⟩ := x
        have hlen1 := hB.size
        have HSLA := Lib.hid hSL
        rw [had (by omega)] at hSL
        have hch := hSL.sub (4 * x) (min (4 * x + 4) l.length) (by omega) (by omega) hx
        obtain ⟨m, hm⟩ : ∃ m, m = min 4 (l.length - 4 * x) := ⟨_, rfl⟩
        have hcc : (l.drop (4 * x)).take (min (4 * x + 4) l.length - 4 * x) = chunkP l x := by
          unfold chunkP
          apply List.ext_getElem
          · simp; omega
          · intro n h1 h2; simp
        have hml : (chunkP l x).length = m := by rw [chunkP_len, hm]
        have hlast : ((chunkP l x)[m - 1]'(by omega)).1 = lastP l x := by
          rw [chunkP_get l x (m - 1) (by omega)]
          unfold lastP
          rw [docsP_get l _ (by omega)]
          congr 2
          omega
        rw [hcc] at hch
        obtain ⟨b9, o9, e9, hcell⟩ := hch.spot (by omega)
        simp only [Option.some.injEq, Addr.mk.injEq] at e9
        obtain ⟨rfl, rfl, -⟩ := e9
        have hm1 : 1 ≤ m := by omega
        have hm4 : m ≤ 4 := by omega
        have hcl := (hcell (m - 1) (by omega)).1
        rw [hlast] at hcl
        clear hch hcc hlast
        generalize hchd : chunkP l x = ch at *
        simp only [chunkV]
        rw [← hm]
        have HCELL := Lib.hid hcell; have HML := Lib.hid hml; have HCHD := Lib.hid hchd; have HOWN := Lib.hid hown; have HB := Lib.hid hB; have HM := Lib.hid hm; have HL := Lib.hid hL; have HO := Lib.hid hO; have HSLW := Lib.hid hSL
        clear hcell hml hchd hown hB hm hL hO hSL hT0 hL0 hO0 hs0 hn0 HSL
        have hi1 : ((m : Int) - 1).toNat = m - 1 := by omega
        have hi2 : (0 : Int) ≤ (m : Int) - 1 := by omega
        generalize off1 + 4 * x * 2 = o1 at *
        obtain ⟨la, hla⟩ : ∃ y, y = lastP l x := ⟨_, rfl⟩
        rw [← hla] at hcl
        have HLA := Lib.hid hla
        clear hla
        have hb0 := blk_new W (.cells #[.int .i64 0, .int .i64 la] 174)
        have hS0 : Same W (W.alloc (.cells #[.int .i64 0, .int .i64 la] 174)) := (Only.refl _ W).alloc _
        have HB0 := Lib.hid hb0; have HS0 := Lib.hid hS0
        clear hb0 hS0
        gi_wp2
        gi_loopw [72] (fun i wr => ∃ k : Nat, k ≤ m ∧ i = .int .i64 k ∧ Same W wr ∧ wr.heap[W.heap.size]? = some (.cells #[.int .i64 (maxP (ch.take k)), .int .i64 la] 174 (0, 0))) (fun i _ => m - (intOf i).toNat)
        case atStart => exact ⟨0, by omega, rfl, HS0.out, HB0.out⟩
        case round =>
          obtain ⟨k, hk2, rfl, hS, hb⟩ := hrel
          obtain ⟨wq, hwq⟩ : ∃ x, x = wr := ⟨_, rfl⟩
          subst hwq
          by_cases hkm : k < m
          · have hkc : k < ch.length := by have := HML.out; omega
            have hk0 := hS.cell_eq (HCELL.out k hkc).1 (fun h => h)
            have hk1 := hS.cell_eq (HCELL.out k hkc).2 (fun h => h)
            have hst := maxP_snoc (ch.take k) ch[k]
            rw [List.take_append_getElem hkc] at hst
            generalize hq : maxP (ch.take k) = mm at *
            generalize ch[k] = p at *
            obtain ⟨f0, f1, f2, f3⟩ := two_facts hb
            have hlt9 := heap_lt hb
            have hb2 := blk_old (.cells #[.int .i64 p.1, .int .i64 p.2] 77) (blk_set (j := 0) (v := .int .i64 (if mm < p.2 then p.2 else mm)) hb)
            have HST := Lib.hid hst; have HS := Lib.hid hS; have HB2 := Lib.hid hb2; have HBQ := Lib.hid hb
            clear hst hS hb hb2 hq
            gi_wp2
            go_roundw
            case rel => exact ⟨k + 1, by omega, by go_num, (HS.out.setCell (fun h => by have h2 : W.heap.size < W.heap.size := h; omega) _).alloc _, by rw [HST.out, show max mm p.2 = if mm < p.2 then p.2 else mm by split <;> omega]; exact HB2.out⟩
            case measure => simp [intOf]; omega
          · obtain rfl : k = m := by omega
            rw [List.take_of_length_le (by have := HML.out; omega)] at hb
            obtain ⟨f0, f1, f2, f3⟩ := two_facts hb
            have hlt9 := heap_lt hb
            generalize hmq : maxP ch = mm at *
            have HMQ := Lib.hid hmq; have HBQ := Lib.hid hb; have HS := Lib.hid hS
            clear hmq hb hS
            gi_wp2
            refine round_held (fun w' => w'.cell? ⟨w1.heap.size + 1, 0, none⟩ = some (.pointer (some ⟨w1.heap.size, 0, none⟩)) ∧ w'.cell? ⟨W.heap.size, 0, none⟩ = some (.int .i64 mm) ∧ w'.cell? ⟨W.heap.size, 1, none⟩ = some (.int .i64 la)) (by kernel_rfl) (by kernel_rfl) ?_ ?_
            · rintro ⟨_, _, h⟩
              exact h
            · have hO3 := HS.out.cell_eq (blk_cells HO.out 0) (fun h => h)
              have hSd : Same wq wq.drew := (Only.refl _ _).drew
              have f0 := hSd.cell_eq f0 (fun h => h)
              have f1 := hSd.cell_eq f1 (fun h => h)
              have hO3 := hSd.cell_eq hO3 (fun h => h)
              have hlt10 : W.heap.size < wq.drew.heap.size := hlt9
              generalize wq.drew = wd at *
              have HSD := Lib.hid (HS.out.then hSd)
              clear hSd
              have q0 : wd.cell? ⟨w1.heap.size + 1, 0, none⟩ = some (.pointer (some ⟨w1.heap.size, 0, none⟩)) ∧ wd.cell? ⟨W.heap.size, 0, none⟩ = some (.int .i64 mm) ∧ wd.cell? ⟨W.heap.size, 1, none⟩ = some (.int .i64 la) := ⟨hO3, f0, f1⟩
              refine wpAnyH_take (i := 0) (v := .pointer (some ⟨w1.heap.size, 0, none⟩)) rfl (by kernel_rfl) (by kernel_rfl) (by kernel_rfl) (fun _ _ _ h => h) (Or.inl ⟨by rfl, fun w9 hS9 => ?_⟩) (by assumption) ?_
              · obtain ⟨s0, s1, s2⟩ := hS9
                go_simp
              simp only [Act.put, List.setIfInBounds_toArray, List.set_cons_zero, List.set_cons_succ]
              refine wpAnyH_take (i := 1) (v := .pointer (some ⟨w1.heap.size, 0, none⟩)) rfl (by kernel_rfl) (by kernel_rfl) (by kernel_rfl) (fun _ _ _ h => h) (Or.inl ⟨by rfl, fun w9 hS9 => ?_⟩) (by assumption) ?_
              · obtain ⟨s0, s1, s2⟩ := hS9
                go_simp
              simp only [Act.put, List.setIfInBounds_toArray, List.set_cons_zero, List.set_cons_succ]
              refine wpAnyH_take (i := 2) (v := .pointer (some ⟨w1.heap.size, 0, none⟩)) rfl (by kernel_rfl) (by kernel_rfl) (by kernel_rfl) (fun _ _ _ h => h) (Or.inl ⟨by rfl, fun w9 hS9 => ?_⟩) (by assumption) ?_
              · obtain ⟨s0, s1, s2⟩ := hS9
                go_simp
              simp only [Act.put, List.setIfInBounds_toArray, List.set_cons_zero, List.set_cons_succ]
              refine wpAnyH_take (i := 3) (v := .pointer (some ⟨w1.heap.size, 1, none⟩)) rfl (by kernel_rfl) (by kernel_rfl) (by kernel_rfl) (fun _ _ _ h => h) (Or.inl ⟨by rfl, fun w9 hS9 => ?_⟩) (by assumption) ?_
              · obtain ⟨s0, s1, s2⟩ := hS9
                go_simp
              simp only [Act.put, List.setIfInBounds_toArray, List.set_cons_zero, List.set_cons_succ]
              refine wpAnyH_take (i := 5) (v := .agg #[.int .i64 mm, .int .i64 la]) rfl (by kernel_rfl) (by kernel_rfl) (by kernel_rfl) (fun _ _ _ h => h) (Or.inl ⟨by rfl, fun w9 hS9 => ?_⟩) (by assumption) ?_
              · obtain ⟨s0, s1, s2⟩ := hS9
                go_simp
              simp only [Act.put, List.setIfInBounds_toArray, List.set_cons_zero, List.set_cons_succ]
              obtain ⟨s0, s1, s2⟩ := q0
              obtain ⟨⟨_, y1, y2⟩, _, z1, z2⟩ := three_facts (HSD.out.heap HL.out (fun h => h))
              have hl1 : wd.cell? ⟨w1.heap.size, 1, none⟩ = some v2 := y1
              have hal : Same wd (wd.alloc (.cells #[.int .i64 mm, .int .i64 la] 174)) := (Only.refl _ _).alloc _
              have r0 := hal.cell_eq s0 (fun h => h)
              have r1 := hal.cell_eq s1 (fun h => h)
              have r2 := hal.cell_eq s2 (fun h => h)
              have r3 := hal.cell_eq hl1 (fun h => h)
              have HOW := Lib.hid ((own_same HOWN.out HSD.out).alloc (.cells #[.int .i64 mm, .int .i64 la] 174))
              have HNB := Lib.hid (blk_new wd (.cells #[.int .i64 mm, .int .i64 la] 174))
              refine held_two 4 6 (by kernel_rfl) rfl rfl (fun K hK => ?_) (fun K hK => ?_)
              all_goals first
                | (go_simp; refine hK _ _ ⟨s0, s1, s2⟩ ?_; clear hK K; refine held_one 6 (by kernel_rfl) rfl (fun K hK => ?_); go_simp; refine hK _ _ ⟨r0, r1, r2⟩ ?_; clear hK K)
                | (go_simp; refine hK _ _ ⟨r0, r1, r2⟩ ?_; clear hK K; refine held_one 4 (by kernel_rfl) rfl (fun K hK => ?_); go_simp; refine hK _ _ ⟨r0, r1, r2⟩ ?_; clear hK K)
              all_goals
                refine held_one 7 (by kernel_rfl) rfl (fun K hK => ?_)
                refine step_lies _ rfl (.tmp 87) (.tmp 89) 167 rfl W0.heap.size 174 (.agg #[.int .i64 0, .int .i64 0]) 2 16 Try.underlying167 (by kernel_rfl) rfl (by omega) v2 pre.length _ rfl HOW.out wd.heap.size [.int .i64 mm, .int .i64 la] rfl HNB.out rfl (by intro u hu; simp at hu; rcases hu with rfl | rfl <;> rfl) (by unfold maxLen; omega) (by omega) (by simp; omega) ?_
                intro gn capn wn hN hq hg
                have hog : ∀ g, v2.ownBlock = some g → W0.heap.size ≤ g ∧ g < W.heap.size := fun g hg => HOWN.out.lt g hg
                have t0 := hq.cell_eq r0 (fun h => by have := hog _ h; omega)
                have t1 := hq.cell_eq r1 (fun h => by have := hog _ h; omega)
                have t2 := hq.cell_eq r2 (fun h => by have := hog _ h; omega)
                have hLn := hq.heap (hal.heap (HSD.out.heap HL.out (fun h => h)) (fun h => h)) (fun h => by have := hog _ h; omega)
                refine hK _ _ ⟨t0, t1, t2⟩ ?_
                clear hK K r0 r1 r2 r3 s0 s1 s2 y1 y2 z1 z2 hl1 hO3 f0 f1 f2 f3
                simp only [Act.put, List.setIfInBounds_toArray, List.set_cons_zero, List.set_cons_succ]
                obtain ⟨⟨_, y1, y2⟩, _, z1, z2⟩ := three_facts hLn
                have HN := Lib.hid hN; have HLN := Lib.hid hLn
                have HQ := Lib.hid (Only.trans (S' := fun g => v2.ownBlock = some g) (S := fun g => v2.ownBlock = some g) ((HSD.out.then hal).mono (fun k _ h => h.elim)) hq (fun k _ h => h))
                clear hN hLn hq hal HOW HNB
                refine held_one 8 (by kernel_rfl) rfl (fun K hK => ?_)
                go_simp
                refine hK _ _ ⟨t0, t1, t2⟩ ?_
                clear hK K
                refine held_one 9 (by kernel_rfl) rfl (fun K hK => ?_)
                go_simp
                refine hK _ _ ⟨t0, t1, t2⟩ ?_
                clear hK K
                refine held_one 10 (by kernel_rfl) rfl (fun K hK => ?_)
                go_simp
                have hpL := (Only.refl (· = w1.heap.size) wn).setCell (p := ⟨w1.heap.size, 1, none⟩) (fun _ => rfl) (.slice (some ⟨gn, 0, none⟩) (pre.length + 1) capn)
                have t0 := hpL.cell_eq t0 (by omega)
                have t1 := hpL.cell_eq t1 (by omega)
                have t2 := hpL.cell_eq t2 (by omega)
                refine hK _ _ ⟨t0, t1, t2⟩ ?_
                clear hK K
                refine wpAnyH_done (by kernel_rfl) ?_ _
                have hLf := blk_set (j := 1) (v := .slice (some ⟨gn, 0, none⟩) (pre.length + 1) capn) HLN.out
                have HPL := Lib.hid hpL; have HLF := Lib.hid hLf
                clear hpL hLf
                generalize wn.setCell ⟨w1.heap.size, 1, none⟩ (.slice (some ⟨gn, 0, none⟩) (pre.length + 1) capn) = wf at *
                gi_wp2
                refine round_held (fun w' => w'.cell? ⟨w1.heap.size + 1, 0, none⟩ = some (.pointer (some ⟨w1.heap.size, 0, none⟩)) ∧ w'.cell? ⟨W.heap.size, 0, none⟩ = some (.int .i64 mm)) (by kernel_rfl) (by kernel_rfl) (by rintro ⟨_, _, h⟩; exact h) ?_
                have hSd : Same wf wf.drew := (Only.refl _ _).drew
                have t0 := hSd.cell_eq t0 (fun h => h)
                have t1 := hSd.cell_eq t1 (fun h => h)
                have hLd := hSd.heap HLF.out (fun h => h)
                generalize wf.drew = wg at *
                obtain ⟨⟨_, _, y2⟩, _, _, z2⟩ := three_facts hLd
                generalize hmo : maxB l (pre.map (·.1)) = mo at *
                have HMO := Lib.hid hmo; have HSD2 := Lib.hid hSd; have HLD := Lib.hid hLd
                clear hSd hLd hmo y1 z1 t2
                refine wpAnyH_take (i := 0) (v := .pointer (some ⟨w1.heap.size, 0, none⟩)) rfl (by kernel_rfl) (by kernel_rfl) (by kernel_rfl) (fun _ _ _ h => h) (Or.inl ⟨by rfl, fun w9 hS9 => ?_⟩) ⟨t0, t1⟩ ?_
                · obtain ⟨s0, s1⟩ := hS9
                  go_simp
                simp only [Act.put, List.setIfInBounds_toArray, List.set_cons_zero, List.set_cons_succ]
                refine wpAnyH_take (i := 1) (v := .pointer (some ⟨w1.heap.size, 0, none⟩)) rfl (by kernel_rfl) (by kernel_rfl) (by kernel_rfl) (fun _ _ _ h => h) (Or.inl ⟨by rfl, fun w9 hS9 => ?_⟩) ⟨t0, t1⟩ ?_
                · obtain ⟨s0, s1⟩ := hS9
                  go_simp
                simp only [Act.put, List.setIfInBounds_toArray, List.set_cons_zero, List.set_cons_succ]
                refine wpAnyH_take (i := 2) (v := .pointer (some ⟨w1.heap.size, 0, none⟩)) rfl (by kernel_rfl) (by kernel_rfl) (by kernel_rfl) (fun _ _ _ h => h) (Or.inl ⟨by rfl, fun w9 hS9 => ?_⟩) ⟨t0, t1⟩ ?_
                · obtain ⟨s0, s1⟩ := hS9
                  go_simp
                simp only [Act.put, List.setIfInBounds_toArray, List.set_cons_zero, List.set_cons_succ]
                refine wpAnyH_take (i := 3) (v := .pointer (some ⟨w1.heap.size, 2, none⟩)) rfl (by kernel_rfl) (by kernel_rfl) (by kernel_rfl) (fun _ _ _ h => h) (Or.inl ⟨by rfl, fun w9 hS9 => ?_⟩) ⟨t0, t1⟩ ?_
                · obtain ⟨s0, s1⟩ := hS9
                  go_simp
                simp only [Act.put, List.setIfInBounds_toArray, List.set_cons_zero, List.set_cons_succ]
                refine wpAnyH_take (i := 5) (v := .pointer (some ⟨W.heap.size, 0, none⟩)) rfl (by kernel_rfl) (by kernel_rfl) (by kernel_rfl) (fun _ _ _ h => h) (Or.inl ⟨by rfl, fun w9 hS9 => ?_⟩) ⟨t0, t1⟩ ?_
                · obtain ⟨s0, s1⟩ := hS9
                  go_simp
                simp only [Act.put, List.setIfInBounds_toArray, List.set_cons_zero, List.set_cons_succ]
                refine wpAnyH_take (i := 6) (v := .int .i64 mm) rfl (by kernel_rfl) (by kernel_rfl) (by kernel_rfl) (fun _ _ _ h => h) (Or.inl ⟨by rfl, fun w9 hS9 => ?_⟩) ⟨t0, t1⟩ ?_
                · obtain ⟨s0, s1⟩ := hS9
                  go_simp
                simp only [Act.put, List.setIfInBounds_toArray, List.set_cons_zero, List.set_cons_succ]
                refine held_one 4 (by kernel_rfl) rfl (fun K hK => ?_)
                go_simp
                refine hK _ _ ⟨t0, t1⟩ ?_
                clear hK K
                refine held_one 7 (by kernel_rfl) rfl (fun K hK => ?_)
                go_simp
                refine hK _ _ ⟨t0, t1⟩ ?_
                clear hK K
                refine held_one 8 (by kernel_rfl) rfl (fun K hK => ?_)
                go_simp
                refine hK _ _ ⟨t0, t1⟩ ?_
                clear hK K
                refine held_one 9 (by kernel_rfl) rfl (fun K hK => ?_)
                go_simp
                refine hK _ _ ⟨t0, t1⟩ ?_
                clear hK K
                refine held_one 10 (by kernel_rfl) rfl (fun K hK => ?_)
                go_simp
                obtain ⟨mn, hmn⟩ : ∃ y : Int, y = if mo < mm then mm else mo := ⟨_, rfl⟩
                rw [← hmn]
                have hpL := (Only.refl (· = w1.heap.size) wg).setCell (p := ⟨w1.heap.size, 2, none⟩) (fun _ => rfl) (.int .i64 mn)
                have t0 := hpL.cell_eq t0 (by omega)
                have t1 := hpL.cell_eq t1 (by omega)
                refine hK _ _ ⟨t0, t1⟩ ?_
                clear hK K
                refine wpAnyH_done (by kernel_rfl) ?_ _
                have hLe := blk_set (j := 2) (v := .int .i64 mn) HLD.out
                have HPE := Lib.hid hpL; have HLE := Lib.hid hLe; have HMN := Lib.hid hmn
                clear hpL hLe hmn
                generalize wg.setCell ⟨w1.heap.size, 2, none⟩ (.int .i64 mn) = we at *
                gi_wp2
                exact build_end hx hzn HB.out hBW HV1.out HSLA.out HO.out HOWN.out HQ.out HPL.out HSD2.out HPE.out HN.out HLE.out (by rw [HCHD.out]; exact HMQ.out) HLA.out HMO.out HMN.out
end Go.Proofs.Ytjegohibpojneaa
