import Derived.Test.YtpgbnjneoejebaaTvOfferN
import Derived.Test.YtpgbnjneoejebaaTvUp
import Derived.Deep.RegionLaw
set_option linter.unusedVariables false
set_option linter.unusedSimpArgs false
namespace Go.Proofs.Ytpgbnjneoejebaa
open Go.RowKit
attribute [local go_sem ↓] Go.wp_at_zero Go.wp_at_succ

/-- One more on a row of the call's own, at a step of a region that draws. -/
theorem step_ownV {P : Program} (w : World) {ops : Array Oper} {o : Oper} {a : Act} {K : Act → World → Prop} {Q : Exit → Act → World → Prop} {E : Prop} (hgd : o.guard = none) (s x : Operand) (t : TypeId)
    (ho : o.op = .call { callee := .builtin .append, args := #[s, x], argTypes := #[t, t] })
    (base : Nat) (e : TypeId) (z : Value) (size bytes : Nat) (ht : P.underlying t = some (.slice e)) (hinfo : (P.info? e).map (fun i => (i.zero, i.size, i.bytes)) = some (some z, size, bytes)) (hzs : z.cells.size = size) (hsz : 0 < size)
    (v : Value) (n : Nat) (xs : List Value) (hs : a.eval s = v) (hown : w.ownsRow base e size v n xs)
    (B : Nat) (us : List Value) (hx : a.eval x = .slice (some ⟨B, 0, none⟩) 1 1) (hB : w.heap[B]? = some (.cells us.toArray e (0, 0))) (hl : us.length = size) (h1 : ∀ u ∈ us, u.oneCell' = true)
    (h63 : n + 1 ≤ maxLen) (hbytes : (n + 1) * bytes ≤ 140737488355328) (hbase : base ≤ w.heap.size)
    (h : ∀ g cap w', w'.ownsRow base e size (.slice (some ⟨g, 0, none⟩) (n + 1) cap) (n + 1) (xs ++ us) → Only (fun k => v.ownBlock = some k) w w' → (v.ownBlock = some g ∨ w.heap.size ≤ g) → K (a.put o.dst (.slice (some ⟨g, 0, none⟩) (n + 1) cap)) w') :
    if Region.wanted o (yielded ops a.tmps) = true then Oper.wp P o a w K Q else E := by
  obtain ⟨i, hi, hz0, hz1, hz2⟩ := info_parts hinfo
  refine step_append_lies w hgd s x t ho base e i z size bytes ht hi hz0 hz1 hz2 hzs hsz v n xs hs hown ⟨B, 0, none⟩ 1 1 us hx (by omega) (World.news_of_block hB) h1 (by omega) h63 hbytes hbase w.heap.size rfl ?_
  intro g cap w' h2 hg hl _
  exact h g cap w' h2 ((Only.refl _ w).grown hg (fun k hk _ => hk)) (hl.imp id (fun h => by omega))
/-- A bound of k whose slice is v. -/
def TvV (w : World) (b k : Nat) (v : Value) (h : List VP) : Prop := w.heap[b]? = some (.cells #[.int .i64 k, v, .func (.func 14) #[] #[]] 173 (0, 0)) ∧ w.ownsRow (b + 1) 35 3 v h.length (cells3 h)
theorem TvV.same {w w' : World} {b k : Nat} {v : Value} {h : List VP} (ht : TvV w b k v h) (hS : Same w w') : TvV w' b k v h := ⟨hS.heap ht.1 (fun h => h), own_same ht.2 hS⟩
theorem TvV.off {w : World} {b k : Nat} {v : Value} {h : List VP} (ht : TvV w b k v h) : ∀ g, v.ownBlock = some g → b + 1 ≤ g ∧ g < w.heap.size := fun g hg => ht.2.lt g hg
set_option maxRecDepth 100000 in
set_option maxHeartbeats 8000000 in
/-- Offer to a bound that isn't full. -/
theorem tvoffer_less (b k : Nat) (v : Value) (h : List VP) (x : VP) (w : World) (ht : TvV w b k v h) (hl : h.length < k) (hkm : h.length < 1000000) (hkk : k ≤ 9223372036854775807) (hh : HeapG h) :
    Calls Try.prog 66 #[.pointer (some ⟨b, 0, none⟩), vpV x] w fun e w' => e = .returned (.bool true) ∧ ∃ h', h'.Perm (h ++ [x]) ∧ HeapG h' ∧ TvAt w' b k h' ∧ Only (fun i => i = b ∨ v.ownBlock = some i) w w' := by
  have HOFF := Lib.hid ht.off
  have hS0 : Same w (w.alloc (.cells (vblk x) 35)) := (Only.refl _ w).alloc _
  have hA := blk_new w (.cells (vblk x) 35)
  have HV := Lib.hid (ht.same hS0); have HH := Lib.hid hh
  have hwz : w.heap.size < (w.alloc (.cells (vblk x) 35)).heap.size := heap_lt hA
  have hbw := heap_lt ht.1
  obtain ⟨a1, c1, rfl, hc1, hm1⟩ := (own_slv ht.2).lit
  obtain ⟨⟨k0, k1, k2⟩, _⟩ := three_facts HV.out.1
  obtain ⟨⟨p0, p1, p2⟩, _⟩ := three_facts hA
  have hd1 : decide (h.length < k) = true := decide_eq_true hl
  have hinf : (Try.prog.info? 35).map (fun i => (i.zero, i.size, i.bytes)) = some (some (.agg #[.int .i64 0, .int .i64 0, .int .i64 0]), 3, 24) := by kernel_rfl
  have HINF := Lib.hid hinf
  unfold vpV
  clear ht hA hh hinf
  go_enter Try.func66, Try.ntmps66
  go_upto_region 1 with fail
  generalize w.alloc (.cells (vblk x) 35) = W at *
  go_quiet (fail)
  rename_i nq
  have HS1 : Hid (Same w (W.drewN nq)) := Lib.hid (hS0.drewN nq)
  have k0 : (W.drewN nq).cell? ⟨b, 0, none⟩ = _ := k0
  have k1 : (W.drewN nq).cell? ⟨b, 1, none⟩ = _ := k1
  have k2 : (W.drewN nq).cell? ⟨b, 2, none⟩ = _ := k2
  have p0 : (W.drewN nq).cell? ⟨w.heap.size, 0, none⟩ = _ := p0
  have p1 : (W.drewN nq).cell? ⟨w.heap.size, 1, none⟩ = _ := p1
  have p2 : (W.drewN nq).cell? ⟨w.heap.size, 2, none⟩ = _ := p2
  have HV1 := Lib.hid (HV.out.same ((Only.refl (fun _ => False) W).drewN nq))
  have hwz1 : w.heap.size < (W.drewN nq).heap.size := hwz
  clear hS0 HV hwz
  generalize W.drewN nq = W1 at *
  go_upto_region 2 with fail
  have f1 := (three_facts HV1.out.1).2.2.1
  have hk63 : h.length + 1 ≤ maxLen := by unfold maxLen; omega
  have hk16 : (h.length + 1) * 24 ≤ 140737488355328 := by omega
  have hbz : b < W1.heap.size := by omega
  have q0 : Only (fun i => (Value.slice a1 h.length c1).ownBlock = some i) W1 W1 := Only.refl _ _
  go_region_law ((refine step_ownV _ (by rfl) (.tmp 20) (.tmp 22) 24 (by rfl) (b + 1) 35 (.agg #[.int .i64 0, .int .i64 0, .int .i64 0]) 3 24 Try.underlying24 HINF.out rfl (by omega) (.slice a1 h.length c1) h.length _ (by rfl) (by first | exact HV1.out.2 | exact HV1.out.2.alloc _) _ [.int .i64 x.1, .int .i64 (vb x), .int .i64 (vc x)] (by rfl) (by first | exact blk_new _ _ | exact blk_new1 _ _ _) rfl (by intro u hu; simp at hu; rcases hu with rfl | rfl | rfl <;> rfl) hk63 hk16 (by simp; omega) ?_); intro gn capn wn hN hq hg; have q0 := Only.same (by first | exact q0 | exact q0.drew | exact q0.alloc _ | exact q0.drew.alloc _) hq; clear hq; have hbn := q0.heap HV1.out.1 (fun hc => by have := HOFF.out b hc; omega); obtain ⟨⟨_, m1, _⟩, _, n1, _⟩ := three_facts hbn)
  all_goals
    have hbg : b + 1 ≤ gn := by
      rcases hg with hg | hg
      · exact (HOFF.out gn hg).1
      · simp at hg; omega
    have hp9 : Only (· = b) wn (wn.setCell ⟨b, 1, none⟩ (.slice (some ⟨gn, 0, none⟩) (h.length + 1) capn)) := (Only.refl (· = b) wn).setCell (fun _ => rfl) _
    have hT9 : TvAt (wn.setCell ⟨b, 1, none⟩ (.slice (some ⟨gn, 0, none⟩) (h.length + 1) capn)) b k (h ++ [x]) := by
      refine ⟨.slice (some ⟨gn, 0, none⟩) (h.length + 1) capn, blk_set (j := 1) hbn, ?_⟩
      rw [show (h ++ [x]).length = h.length + 1 by simp, cells3_snoc]
      exact own_keep hN hp9 (fun i hi => by
        have h2 : gn = i := by simpa [Value.ownBlock] using hi
        omega)
    have HO9 : Hid (Only (fun i => i = b ∨ (Value.slice a1 h.length c1).ownBlock = some i) w (wn.setCell ⟨b, 1, none⟩ (.slice (some ⟨gn, 0, none⟩) (h.length + 1) capn))) := Lib.hid (by
      have q1 := q0.mono (S' := fun i => i = b ∨ (Value.slice a1 h.length c1).ownBlock = some i) (fun i _ h => .inr h)
      have q2 := q1.same (hp9.mono (S' := fun i => i = b ∨ (Value.slice a1 h.length c1).ownBlock = some i) (fun i _ h => .inl h))
      exact (HS1.out.mono (S' := fun i => i = b ∨ (Value.slice a1 h.length c1).ownBlock = some i) (fun _ _ h => h.elim)).same q2)
    have HG9 := Lib.hid hg
    have hwz9 : W1.heap.size ≤ wn.heap.size := q0.size
    obtain ⟨g, cap, hG⟩ := hT9.g (by simp)
    have hgg : (Value.slice a1 h.length c1).ownBlock = some g ∨ W1.heap.size ≤ g := by
      have h1 := hG.1.symm.trans (blk_set (j := 1) (v := .slice (some ⟨gn, 0, none⟩) (h.length + 1) capn) hbn)
      simp at h1
      obtain ⟨rfl, _⟩ := h1
      rcases hg with hg | hg
      · exact .inl hg
      · simp at hg; exact .inr (by omega)
    have HGG := Lib.hid hgg
    have HT9 := Lib.hid hG
    have hlen : (h ++ [x]).length = h.length + 1 := by simp
    generalize wn.setCell ⟨b, 1, none⟩ (.slice (some ⟨gn, 0, none⟩) (h.length + 1) capn) = W9 at *
    obtain ⟨⟨m0, m1', m2⟩, _⟩ := three_facts HT9.out.1
    rw [hlen] at m1'
    have hw1 : IntKind.i64.wrap ((h.length : Int) + 1 - 1) = (h.length : Int) := by rw [IntKind.wrap_i64]; omega
    have cu := tvup_any b k g cap h.length (h ++ [x]) W9 HT9.out (by simp) (gup_init h x HH.out)
    have HCU := Lib.hid cu
    clear cu hG hgg hT9 hp9 hN hg hbn q0 hlen k0 k1 k2 p0 p1 p2 m1 n1 f1
    have hw2 := wrap_idV h.length (by omega)
    go_wp2_with fail
    refine HCU.out.mono ?_
    rintro e w10 ⟨rfl, hO10, h', hpG', hh', hT'⟩
    have HF : Hid (h'.Perm (h ++ [x]) ∧ HeapG h' ∧ TvAt w10 b k h' ∧ Only (fun i => i = b ∨ (Value.slice a1 h.length c1).ownBlock = some i) w w10) := Lib.hid (by
      refine ⟨hpG', hh', hT'.top, HO9.out.trans hO10 (fun i hi e => ?_)⟩
      have e : i = g := e
      subst e
      rcases HGG.out with h1 | h1
      · exact .inr h1
      · have := HS1.out.size; omega)
    clear hO10 hpG' hh' hT' m0 m1' m2 hw1 hw2
    go_wp2_with fail
    go_ret
    exact ⟨rfl, h', HF.out⟩
end Go.Proofs.Ytpgbnjneoejebaa
