import Derived.Test.YtjegohibpojneaaDenseFind
import Derived.Test.YtjegohibpojneaaTopBest
set_option linter.unusedVariables false
set_option linter.unusedSimpArgs false
namespace Go.Proofs.Ytjegohibpojneaa
open Go.RowKit
attribute [local go_sem ↓] Go.wp_at_zero Go.wp_at_succ

/-- What the closure's boxes hold. -/
def ScE (w : World) (tb qb xb mb lb cb tp fb : Nat) (m : Int) (q : List Int) (vq : Value) : Prop :=
  w.heap[tb]? = some (.cells #[.pointer (some ⟨tp, 0, none⟩)] 86 (0, 0)) ∧ w.cell? ⟨qb, 0, none⟩ = some vq ∧ w.cell? ⟨xb, 0, none⟩ = some (.pointer (some ⟨cb, 0, none⟩)) ∧ w.cell? ⟨mb, 0, none⟩ = some (.func (.func fb) #[] #[]) ∧
    ∀ j, j ≤ 8 → w.cell? ⟨lb, j, none⟩ = some (.int .i64 (leftS m q (8 - j)))
theorem ScE.only {S : Nat → Prop} {w w' : World} {tb qb xb mb lb cb tp fb : Nat} {m : Int} {q : List Int} {vq : Value} (h : ScE w tb qb xb mb lb cb tp fb m q vq) (ho : Only S w w') (hS : ¬ S tb ∧ ¬ S qb ∧ ¬ S xb ∧ ¬ S mb ∧ ¬ S lb) : ScE w' tb qb xb mb lb cb tp fb m q vq :=
  ⟨ho.heap h.1 hS.1, ho.cell_eq h.2.1 hS.2.1, ho.cell_eq h.2.2.1 hS.2.2.1, ho.cell_eq h.2.2.2.1 hS.2.2.2.1, fun j hj => ho.cell_eq (h.2.2.2.2 j hj) hS.2.2.2.2⟩
theorem ScE.c1 {w : World} {tb qb xb mb lb cb tp fb : Nat} {m : Int} {q : List Int} {vq : Value} (h : ScE w tb qb xb mb lb cb tp fb m q vq) : w.cell? ⟨tb, 0, none⟩ = some (.pointer (some ⟨tp, 0, none⟩)) := blk_cells h.1 0
theorem TopV.offT {w : World} {b k : Nat} {v : Value} {h : List (Int × Int)} (ht : TopV w b k v h) {tb : Nat} {cs : Array Value} (hb : w.heap[tb]? = some (.cells cs 86 (0, 0))) : ∀ g, v.ownBlock = some g → g ≠ tb := by
  intro g hg e
  subst e
  rcases ht.2.2 with ⟨rfl, _⟩ | ⟨g', cap, cur, rfl, _, hgg, _⟩
  · simp [Value.ownBlock] at hg
  · have : g' = g := by simpa [Value.ownBlock] using hg
    subst this
    rw [hb] at hgg
    simp at hgg
theorem TopAt.but {S : Nat → Prop} {w w' : World} {b k : Nat} {h : List (Int × Int)} (ht : TopAt w b k h) (ho : Only S w w') (hS : ∀ i, b ≤ i → ¬ S i) : TopAt w' b k h := by
  obtain ⟨v, h1, h2⟩ := ht
  exact ⟨v, ho.heap h1 (hS b (Nat.le_refl _)), own_keep h2 ho (fun g hg => hS g (by have := (h2.lt g hg).1; omega))⟩
set_option maxRecDepth 100000 in
set_option maxHeartbeats 8000000 in
theorem find_good (m k : Int) (vq vr : Value) (fm : Nat) (cap : Array Value) (q : List Int) (l : List RowP) (P : Int → Bool) (cb : Nat) (n : Int) (w : World)
    (hq : ∀ w1, Only (· = cb) w w1 → Sl w1 (.int .i64) vq q) (hr : ∀ w1, Only (· = cb) w w1 → SlR w1 vr l) (hc : CntW w cb n)
    (hlq : ∀ x ∈ q, i64b x) (hlr : ∀ r ∈ l, i64b r.1 ∧ ∀ x ∈ r.2, i64b x)
    (hM : ∀ x w1, Only (· = cb) w w1 → Calls Try.prog fm (#[.int .i64 x] ++ cap) w1 fun e w' => e = .returned (.bool (P x)) ∧ Same w1 w')
    (hE : ∀ (args : Array Value) (w : World), (callFunc fm args).run Try.prog w = .ok (.enter fm args) w)
    (hm : m = 0 ∨ m = 1) (hk : 1 ≤ k ∧ k ≤ 1000) (hvq : vecB q = true) (hri : riseB l l.length = true) (hl : l.length ≤ 1000) (hn : 0 ≤ n ∧ n ≤ 1000000) :
    Calls Try.prog 79 #[.pointer (some ⟨cb, 0, none⟩), .int .i64 m, vq, vr, .int .i64 k, .func (.func fm) #[] cap] w (FindR m q l k P cb n w) := by
  have HC := Lib.hid hc; have HQ := Lib.hid hq; have HR := Lib.hid hr; have HM := Lib.hid hM; have HN := Lib.hid hn
  have HCQ := Lib.hid (fun w0 (h : Same w w0) => dright_any vq q w0 (hq w0 (h.mono (fun _ _ h => h.elim))) hlq)
  have HCR := Lib.hid (fun w0 (h : Same w w0) => rising_any vr l w0 (hr w0 (h.mono (fun _ _ h => h.elim))) hlr)
  rw [hvq] at HCQ
  rw [hri] at HCR
  obtain ⟨fb, fc, hix, hEb, hEc, hBb, hCc⟩ := mfun m hm
  have HB := Lib.hid hBb; have HCC := Lib.hid hCc; have HRI := Lib.hid hri
  obtain ⟨hlen, hrq⟩ := vecB_facts hvq
  have HLQ := Lib.hid hlen; have HRQ := Lib.hid hrq
  have HF : Hid (dfindP m q l k P = (bestP k (offsP m q P l), 0)) := Lib.hid (by unfold dfindP; rw [if_neg (by omega), hvq, hri]; rfl)
  obtain ⟨a1, c1, hvq1, _⟩ := hq w (Only.refl _ _)
  rw [hlen] at hvq1
  subst hvq1
  obtain ⟨a2, c2, rfl, _⟩ := hr w (Only.refl _ _)
  have hd1 : decide (m < 0) = false := decide_eq_false (by omega)
  have hd2 : decide (1 < m) = false := decide_eq_false (by omega)
  have hd3 : decide (k < 1) = false := decide_eq_false (by omega)
  have hd4 : decide (1000 < k) = false := decide_eq_false (by omega)
  have HK := Lib.hid hk
  have hcw := heap_lt hc
  have HCW := Lib.hid hcw
  have hS0 : Same w ((w.alloc (.cells #[.pointer (some ⟨cb, 0, none⟩)] 204)).alloc (.cells #[.slice a1 8 c1] 23)) := ((Only.refl _ w).alloc _).alloc _
  have hA := blk_old (.cells #[.slice a1 8 c1] 23) (blk_new w (.cells #[.pointer (some ⟨cb, 0, none⟩)] 204))
  have hB := blk_new1 w (.cells #[.pointer (some ⟨cb, 0, none⟩)] 204) (.cells #[.slice a1 8 c1] 23)
  have hsz0 : ((w.alloc (.cells #[.pointer (some ⟨cb, 0, none⟩)] 204)).alloc (.cells #[.slice a1 8 c1] 23)).heap.size = w.heap.size + 2 := by simp
  clear hq hr hc hM hlq hlr hBb hCc hrq hlen hvq hri hk hn hm hcw
  go_enter Try.func79, Try.ntmps79
  go_upto_region 3 with fail
  generalize (w.alloc (.cells #[.pointer (some ⟨cb, 0, none⟩)] 204)).alloc (.cells #[.slice a1 8 c1] 23) = W at *
  have p0 := blk_cells hB 0
  simp only [List.getElem?_toArray, List.getElem?_cons_zero] at p0
  have HA := Lib.hid hA; have HB0 := Lib.hid hB; have HS0 := Lib.hid hS0; have HSZ := Lib.hid hsz0
  clear hA hB hS0 hsz0
  go_wp2_with fail
  refine (HCQ.out _ HS0.out).mono ?_
  rintro e w1 ⟨rfl, hS1⟩
  have HS1 := Lib.hid (HS0.out.then hS1)
  clear p0
  go_wp2_with fail
  refine (HCR.out _ HS1.out).mono ?_
  rintro e w2 ⟨rfl, hS2⟩
  have hS2 := hS1.then hS2
  clear hS1
  go_wp2_with fail
  refine (measures_any w2).mono ?_
  rintro e w3 ⟨rfl, hS3⟩
  have hS3 := hS2.then hS3
  clear hS2
  have HS3 := Lib.hid (HS0.out.then hS3)
  have HA3 := Lib.hid (hS3.heap HA.out (fun h => h)); have HB3 := Lib.hid (hS3.heap HB0.out (fun h => h))
  have HSZ3 : Hid (w.heap.size + 2 ≤ w3.heap.size) := Lib.hid (by have := hS3.size; have := HSZ.out; omega)
  clear HCQ HCR HA HB0 HSZ hS3
  have hMB := blk_old (.cells #[.int .i64 0, .int .i64 0, .int .i64 0, .int .i64 0, .int .i64 0, .int .i64 0, .int .i64 0, .int .i64 0, .int .i64 0] 207) (blk_new w3 (.cells #[.func (.func fb) #[] #[], .func (.func fc) #[] #[]] 201))
  have hLB := blk_new1 w3 (.cells #[.func (.func fb) #[] #[], .func (.func fc) #[] #[]] 201) (.cells #[.int .i64 0, .int .i64 0, .int .i64 0, .int .i64 0, .int .i64 0, .int .i64 0, .int .i64 0, .int .i64 0, .int .i64 0] 207)
  have hS4 : Same w3 ((w3.alloc (.cells #[.func (.func fb) #[] #[], .func (.func fc) #[] #[]] 201)).alloc (.cells #[.int .i64 0, .int .i64 0, .int .i64 0, .int .i64 0, .int .i64 0, .int .i64 0, .int .i64 0, .int .i64 0, .int .i64 0] 207)) := ((Only.refl _ w3).alloc _).alloc _
  have hsz4 : ((w3.alloc (.cells #[.func (.func fb) #[] #[], .func (.func fc) #[] #[]] 201)).alloc (.cells #[.int .i64 0, .int .i64 0, .int .i64 0, .int .i64 0, .int .i64 0, .int .i64 0, .int .i64 0, .int .i64 0, .int .i64 0] 207)).heap.size = w3.heap.size + 2 := by simp
  go_upto_region 8 with fail
  generalize (w3.alloc (.cells #[.func (.func fb) #[] #[], .func (.func fc) #[] #[]] 201)).alloc (.cells #[.int .i64 0, .int .i64 0, .int .i64 0, .int .i64 0, .int .i64 0, .int .i64 0, .int .i64 0, .int .i64 0, .int .i64 0] 207) = W4 at *
  have HMB := Lib.hid hMB; have HLB := Lib.hid hLB; have HSZ4 := Lib.hid hsz4
  have HS4 := Lib.hid (HS3.out.then hS4); have HA4 := Lib.hid (hS4.heap HA3.out (fun h => h)); have HB4 := Lib.hid (hS4.heap HB3.out (fun h => h))
  clear hMB hLB hS4 hsz4 HA3 HB3
  go_loopw [16] (fun i wr => ∃ (r : Nat) (cs : Array Value), r ≤ 8 ∧ i = .int .i64 ((r : Int) - 1) ∧ Only (· = w3.heap.size + 1) W4 wr ∧ wr.heap[w3.heap.size + 1]? = some (.cells cs 207 (0, 0)) ∧ cs.size = 9 ∧ ∀ j, r ≤ j → j ≤ 8 → cs[j]? = some (.int .i64 (leftS m q (8 - j)))) (fun i _ => (intOf i + 1).toNat)
  case atStart =>
    refine ⟨8, _, by omega, rfl, Only.refl _ _, HLB.out, rfl, fun j h1 h2 => ?_⟩
    obtain rfl : j = 8 := by omega
    rfl
  case round =>
    obtain ⟨r, cs, hr, rfl, hO, hcs, hsz, hj⟩ := hrel
    obtain ⟨w5, hw5⟩ : ∃ x, x = wr := ⟨_, rfl⟩
    subst hw5
    have HO := Lib.hid hO; have HCS := Lib.hid hcs; have HSZC := Lib.hid hsz; have HJ := Lib.hid hj
    clear hO hcs hsz hj
    by_cases h0 : 0 < r
    · obtain ⟨p, rfl⟩ : ∃ p, r = p + 1 := ⟨r - 1, by omega⟩
      have hi1 : (((p + 1 : Nat) : Int) - 1) = (p : Int) := by omega
      rw [hi1]
      have hd : decide (0 ≤ (p : Int)) = true := decide_eq_true (by omega)
      have hOw := (HS4.out.mono (fun _ _ h => h.elim)).trans (S := (· = w3.heap.size + 1)) HO.out (fun _ _ h => h)
      have hSw : Same w w5 := hOw.mono (fun k hk h => by have := HSZ3.out; omega)
      obtain ⟨b1, o1, rfl, hca⟩ := (HQ.out w5 (hSw.mono (fun _ _ h => h.elim))).spot (by have := HLQ.out; omega)
      have hka : p < q.length := by have := HLQ.out; omega
      have k1 := hca p hka
      have k2 : w5.cell? ⟨w3.heap.size, 1, none⟩ = some (.func (.func fc) #[] #[]) := blk_cells (HO.out.heap HMB.out (by omega)) 1
      have k3 : w5.cell? ⟨w.heap.size + 1, 0, none⟩ = some (.slice (some ⟨b1, o1, none⟩) 8 c1) := blk_cells (HO.out.heap HB4.out (by have := HSZ3.out; omega)) 0
      have k4 : w5.cell? ⟨w3.heap.size + 1, p + 1, none⟩ = some (.int .i64 (leftS m q (8 - (p + 1)))) := (blk_cells HCS.out (p + 1)).trans (HJ.out (p + 1) (by omega) (by omega))
      have k5 : w5.frozen? ⟨w3.heap.size + 1, p, none⟩ = false := blk_frozen HCS.out p
      have k6 : w5.cell? ⟨w3.heap.size + 1, p, none⟩ = some (cs[p]'(by have := HSZC.out; omega)) := (blk_cells HCS.out p).trans (by simp)
      have hle := left_range m q HRQ.out (8 - (p + 1))
      have hx := HRQ.out q[p] (List.getElem_mem hka)
      have hlf : leftS m q (8 - p) = leftS m q (8 - (p + 1)) + couldP m q[p] := by
        rw [show 8 - p = (8 - (p + 1)) + 1 by omega]
        simp only [leftS]
        rw [show 7 - (8 - (p + 1)) = p by omega, List.getD_eq_getElem?_getD, List.getElem?_eq_getElem hka]; rfl
      generalize q[p] = x at *
      generalize leftS m q (8 - (p + 1)) = lf at *
      have hcr := could_range m x hx
      have hcc := fun w0 => HCC.out x w0 hx
      generalize couldP m x = d at *
      have HCD := Lib.hid hcc; have HLF := Lib.hid hlf
      have hne : b1 ≠ w3.heap.size + 1 := by
        have h1 := (HQ.out w (Only.refl _ _)).spot (by have := HLQ.out; omega)
        obtain ⟨b1', o1', e, hc'⟩ := h1
        simp only [Option.some.injEq, Addr.mk.injEq] at e
        have h2 := World.block_lt_of_cell? w _ (hc' 0 (by have := HLQ.out; omega))
        have := HSZ3.out
        have h3 : b1' < w.heap.size := h2
        omega
      generalize cs[p]'_ = c0 at *
      have hw1 : IntKind.i64.wrap ((p : Int) + 1) = (p : Int) + 1 := wrapS (by omega)
      have hw2 : IntKind.i64.wrap (lf + d) = lf + d := wrapS (by omega)
      have hw3 : IntKind.i64.wrap ((p : Int) - 1) = (p : Int) - 1 := wrapS (by omega)
      have hp9 : (p : Int) < 9 := by omega
      have hp91 : (p : Int) + 1 < 9 := by omega
      have hp8 : (p : Int) < 8 := by omega
      have HNE := Lib.hid hne
      have hKK : ∀ w', Same w5 w' → (w'.cell? ⟨w3.heap.size + 1, p + 1, none⟩ = some (.int .i64 lf) ∧ w'.cell? ⟨w3.heap.size, 1, none⟩ = some (.func (.func fc) #[] #[]) ∧ w'.cell? ⟨w.heap.size + 1, 0, none⟩ = some (.slice (some ⟨b1, o1, none⟩) 8 c1) ∧ w'.cell? ⟨b1, o1 + p, none⟩ = some (.int .i64 x)) :=
        fun w' h => ⟨h.cell_eq k4 (fun h => h), h.cell_eq k2 (fun h => h), h.cell_eq k3 (fun h => h), h.cell_eq k1 (fun h => h)⟩
      have HK2 := Lib.hid hKK
      have HK3 : Hid ((w5.setCell ⟨w3.heap.size + 1, p, none⟩ (.int .i64 (lf + d))).cell? ⟨w3.heap.size + 1, p + 1, none⟩ = some (.int .i64 lf) ∧ (w5.setCell ⟨w3.heap.size + 1, p, none⟩ (.int .i64 (lf + d))).cell? ⟨w3.heap.size, 1, none⟩ = some (.func (.func fc) #[] #[]) ∧ (w5.setCell ⟨w3.heap.size + 1, p, none⟩ (.int .i64 (lf + d))).cell? ⟨w.heap.size + 1, 0, none⟩ = some (.slice (some ⟨b1, o1, none⟩) 8 c1) ∧ (w5.setCell ⟨w3.heap.size + 1, p, none⟩ (.int .i64 (lf + d))).cell? ⟨b1, o1 + p, none⟩ = some (.int .i64 x)) := by
        have hO6 : Only (· = w3.heap.size + 1) w5 (w5.setCell ⟨w3.heap.size + 1, p, none⟩ (.int .i64 (lf + d))) := (Only.refl (fun i => i = w3.heap.size + 1) w5).setCell (fun _ => rfl) _
        have := HSZ3.out
        refine Lib.hid ⟨?_, hO6.cell_eq k2 (by omega), hO6.cell_eq k3 (by omega), hO6.cell_eq k1 HNE.out⟩
        rw [World.cell?_setCell_other _ _ _ _ (by intro h; injection h with h1 h2; omega)]
        exact k4
      have hp0 : (0 : Int) ≤ (p : Int) + 1 := by omega
      have q0 : Same w5 w5 := Only.refl _ _
      clear hca hka hOw hSw hlf hle hcr hcc hne hKK h0 hix
      go_upto_region 10 with fail
      go_region_held3 (fun w' => w'.cell? ⟨w3.heap.size + 1, p + 1, none⟩ = some (.int .i64 lf) ∧ w'.cell? ⟨w3.heap.size, 1, none⟩ = some (.func (.func fc) #[] #[]) ∧ w'.cell? ⟨w.heap.size + 1, 0, none⟩ = some (.slice (some ⟨b1, o1, none⟩) 8 c1) ∧ w'.cell? ⟨b1, o1 + p, none⟩ = some (.int .i64 x))
        (first | exact HK2.out _ q0 | exact HK2.out _ q0.drew | exact HK3.out)
        (first
          | ((go_at_fn fc; refine (HCD.out _).mono ?_; rintro e w9 ⟨rfl, rfl⟩)))
      all_goals
        go_wp2_with fail
        go_roundw
        case rel =>
          refine ⟨p, cs.setIfInBounds p (.int .i64 (lf + d)), by omega, by go_num, (HO.out.setCell (fun _ => rfl) _).drew, blk_set (j := p) HCS.out, by rw [Array.size_setIfInBounds]; exact HSZC.out, fun j h1 h2 => ?_⟩
          by_cases e : j = p
          · subst e; rw [HLF.out, Array.getElem?_setIfInBounds_self_of_lt (by rw [HSZC.out]; omega)]
          · rw [Array.getElem?_setIfInBounds_ne (by omega)]; exact HJ.out j (by omega) h2
        case measure => simp [intOf]
    · obtain rfl : r = 0 := by omega
      have hd : decide (0 ≤ (((0 : Nat) : Int) - 1)) = false := by decide
      have HS5 := Lib.hid (show Same w w5 from ((HS4.out.mono (fun _ _ h => h.elim)).trans (S := (· = w3.heap.size + 1)) HO.out (fun _ _ h => h)).mono (fun k hk h => by have := HSZ3.out; omega))
      have hA5 := HO.out.heap HA4.out (by have := HSZ3.out; omega)
      have hB5 := HO.out.heap HB4.out (by have := HSZ3.out; omega)
      have hM5 := HO.out.heap HMB.out (by omega)
      have HJ5 : Hid (∀ j, j ≤ 8 → w5.cell? ⟨w3.heap.size + 1, j, none⟩ = some (.int .i64 (leftS m q (8 - j)))) := Lib.hid (fun j h => (blk_cells HCS.out j).trans (HJ.out j (by omega) h))
      have hlt5 := heap_lt HCS.out
      have HA5 := Lib.hid hA5; have HB5 := Lib.hid hB5; have HM5 := Lib.hid hM5; have HLT5 := Lib.hid hlt5
      clear hA5 hB5 hM5 hlt5 HO HCS HSZC HJ hr h0
      go_wp2_with fail
      refine (tnew_any k w5 (by have := HK.out; omega)).mono ?_
      rintro e w6 ⟨rfl, hS6, hT6⟩
      have HS6 := Lib.hid hS6; have HT6 := Lib.hid hT6
      clear hS6 hT6
      have hTB := blk_new w6 (.cells #[.pointer (some ⟨w5.heap.size, 0, none⟩)] 86)
      have hS7 : Same w6 (w6.alloc (.cells #[.pointer (some ⟨w5.heap.size, 0, none⟩)] 86)) := (Only.refl _ w6).alloc _
      go_upto_region 14 with fail
      generalize w6.alloc (.cells #[.pointer (some ⟨w5.heap.size, 0, none⟩)] 86) = W7 at *
      have hS57 := HS6.out.then hS7
      have HSE7 : Hid (ScE W7 w6.heap.size (w.heap.size + 1) w.heap.size w3.heap.size (w3.heap.size + 1) cb w5.heap.size fb m q (.slice a1 8 c1)) := Lib.hid
        ⟨hTB, hS57.cell_eq (blk_cells HB5.out 0) (fun h => h), hS57.cell_eq (blk_cells HA5.out 0) (fun h => h), hS57.cell_eq (blk_cells HM5.out 0) (fun h => h), fun j hj => hS57.cell_eq (HJ5.out j hj) (fun h => h)⟩
      have HT7 := Lib.hid (HT6.out.same hS7)
      have HS7 := Lib.hid (HS5.out.then hS57)
      have HZ : Hid (cb < w.heap.size ∧ w.heap.size + 2 ≤ w3.heap.size ∧ w3.heap.size + 2 ≤ w5.heap.size ∧ w5.heap.size < w6.heap.size) := Lib.hid ⟨HCW.out, HSZ3.out, HLT5.out, by obtain ⟨v, h1, _⟩ := HT6.out; exact heap_lt h1⟩
      clear hTB hS57 hS7 hd hd1 hd2 hd3 hd4 hix hEc HCC HJ5 HA5 HB5 HM5 HLT5 HSZ3 HS5 HS6 HT6 HA4 HB4 HMB HLB HSZ4 HS4 HS3 HS1 HCW
      generalize w3.heap.size = mb at *
      generalize w5.heap.size = tp at *
      generalize w6.heap.size = tb at *
      go_loopw [73] (fun i wr => ∃ (j t : Nat) (h : List (Int × Int)), j ≤ l.length ∧ i = .int .i64 j ∧ Only (fun b => b = cb ∨ (tp ≤ b ∧ b ≠ tb)) W7 wr ∧ TopAt wr tp k.toNat h ∧ HeapP h ∧ h.Perm (bestP k (offsP m q P (l.take j))) ∧ CntW wr cb (n + (t : Int)) ∧ (offsP m q P (l.take j)).length ≤ t ∧ t ≤ 8 * (offsP m q P (l.take j)).length) (fun i _ => l.length - (intOf i).toNat)
      case atStart => exact ⟨0, 0, [], by omega, rfl, Only.refl _ _, HT7.out, fun j h0 h1 => by simp at h1, by simp [bestP, sortP, offsP], by simpa using HC.out.only HS7.out (fun h => h), by simp [offsP], by omega⟩
      case round =>
        obtain ⟨j, t, h, hj, rfl, hO, hT, hh, hpm, hcn, ht1, ht2⟩ := hrel
        obtain ⟨w8, hw8⟩ : ∃ x, x = wr := ⟨_, rfl⟩
        subst hw8
        have HO := Lib.hid hO; have HT := Lib.hid hT; have HH := Lib.hid hh; have HPM := Lib.hid hpm; have HCN := Lib.hid hcn; have HTB := Lib.hid (And.intro ht1 ht2)
        have HOw : Hid (Only (· = cb) w w8) := Lib.hid ((HS7.out.mono (fun _ _ h => h.elim)).trans hO (fun i hi h => by rcases h with h | h; exact h; have := HZ.out; omega))
        have HSE8 : Hid (ScE w8 tb (w.heap.size + 1) w.heap.size mb (mb + 1) cb tp fb m q (.slice a1 8 c1)) := Lib.hid (HSE7.out.only hO (by have := HZ.out; refine ⟨?_, ?_, ?_, ?_, ?_⟩ <;> omega))
        clear hO hT hh hpm hcn ht1 ht2
        by_cases hlt : j < l.length
        · obtain ⟨b1, o1, rfl, hcell⟩ := (HR.out w8 HOw.out).spot (by omega)
          obtain ⟨k1, u, k2, hsl⟩ := hcell j hlt
          have hne : b1 ≠ cb := by
            intro e
            subst e
            rw [blk_cells HCN.out] at k2
            simp at k2
          have hvv : ∀ w1, Only (· = cb) w8 w1 → Sl w1 (.int .i64) u l[j].2 := by
            intro w1 h1
            obtain ⟨b1', o1', e, hc'⟩ := (HR.out w1 (HOw.out.same h1)).spot (by omega)
            simp only [Option.some.injEq, Addr.mk.injEq, and_true] at e
            obtain ⟨rfl, rfl⟩ := e
            obtain ⟨_, u', k2', s'⟩ := hc' j hlt
            have := h1.cell_eq k2 hne
            rw [this] at k2'
            injection k2' with k2'
            rw [k2']; exact s'
          obtain ⟨ua, uc, hu, _⟩ := hsl
          have hrow := rise_at HRI.out j hlt
          have hlts := offs_lt HRI.out m q P j hlt
          have hst : l.take (j + 1) = l.take j ++ [l[j]] := (List.take_append_getElem hlt).symm
          have hos := offs_snoc m q P (l.take j) l[j]
          rw [← hst] at hos
          obtain ⟨doc, hdoc⟩ : ∃ d, d = l[j].1 := ⟨_, rfl⟩
          obtain ⟨vec, hvec⟩ : ∃ d, d = l[j].2 := ⟨_, rfl⟩
          rw [← hdoc] at k1 hrow hlts hos
          rw [← hvec] at hvv hu hrow hos
          have HVV := Lib.hid hvv; have HROW := Lib.hid hrow; have HLTS := Lib.hid hlts; have HOS := Lib.hid hos
          have HOL : Hid ((offsP m q P (l.take j)).length ≤ 1000) := Lib.hid (by have := offs_len m q P (l.take j); have := List.length_take_le j l; omega)
          rw [hrow.2.2.1] at hu
          subst hu
          have hw9 := blk_new w8 (.cells #[.int .i64 doc, .slice ua 8 uc] 139)
          have hS9 : Same w8 (w8.alloc (.cells #[.int .i64 doc, .slice ua 8 uc] 139)) := (Only.refl _ w8).alloc _
          have hw6 : IntKind.i64.wrap ((j : Int) + 1) = (j : Int) + 1 := wrapS (by omega)
          have hd : decide ((j : Int) < (l.length : Int)) = true := decide_eq_true (by omega)
          have hd2 : decide (j < l.length) = true := decide_eq_true hlt
          clear hcell hne hvv hrow hlts hst hos hdoc hvec
          go_upto_region 16 with fail
          generalize hW9 : w8.alloc (.cells #[.int .i64 doc, .slice ua 8 uc] 139) = w9 at *
          obtain ⟨p0, p1, _, _⟩ := two_facts hw9
          have hcall := HM.out doc w9 (HOw.out.then hS9)
          have HS9 := Lib.hid hS9
          have HP0 := Lib.hid p0; have HP1 := Lib.hid p1
          have hrb : cb < w8.heap.size := by have := HZ.out; have := HOw.out.size; omega
          have HRB := Lib.hid hrb
          clear hw9 hW9 hS9 k1 k2 p1 hrb
          cases hP : P doc with
          | false =>
            rw [hP] at hcall
            have HCALL := Lib.hid hcall
            have HOSF : Hid (offsP m q P (l.take (j + 1)) = offsP m q P (l.take j)) := Lib.hid (by rw [HOS.out, hP]; simp)
            clear hcall hP HOS
            go_wp2_with (go_at_fn fm; refine HCALL.out.mono ?_; rintro e w10 ⟨rfl, hS10⟩)
            have hSt := HS9.out.then hS10
            exact ⟨⟨j + 1, t, h, by omega, by go_num, HO.out.then hSt, HT.out.same hSt, HH.out, by rw [HOSF.out]; exact HPM.out, HCN.out.only hSt (fun h => h), by rw [HOSF.out]; exact HTB.out.1, by rw [HOSF.out]; exact HTB.out.2⟩, by simp [intOf]; omega⟩
          | true =>
            rw [hP] at hcall
            have HCALL := Lib.hid hcall
            have HOST : Hid (offsP m q P (l.take (j + 1)) = offsP m q P (l.take j) ++ [(doc, scS m q vec 8)]) := Lib.hid (by rw [HOS.out, hP]; simp)
            clear hcall hP HOS
            go_wp2_with (go_at_fn fm; refine HCALL.out.mono ?_; rintro e w10 ⟨rfl, hS10⟩; have p1 := hS10.cell_eq HP1.out (fun h => h); clear p0)
            have HSt := Lib.hid (HS9.out.then hS10)
            have HP10 := Lib.hid (hS10.cell_eq HP0.out (fun h => h))
            have HSE10 := Lib.hid (HSE8.out.only HSt.out ⟨fun h => h, fun h => h, fun h => h, fun h => h, fun h => h⟩)
            have HT10 := Lib.hid (HT.out.same HSt.out)
            have HCN10 := Lib.hid (HCN.out.only HSt.out (fun h => h))
            have csc := score1_any m q vec (.slice a1 8 c1) (.slice ua 8 uc) tb (w.heap.size + 1) w.heap.size mb (mb + 1) cb tp k.toNat fb h (n + (t : Int)) w10 hEb HB.out HSE10.out.c1 HT10.out (by have := HK.out; omega)
              HSE10.out.2.1 (fun w1 h1 => HQ.out w1 (((HOw.out.then HSt.out).same h1))) HSE10.out.2.2.1 HCN10.out HSE10.out.2.2.2.1 HSE10.out.2.2.2.2 (fun w1 h1 => HVV.out w1 ((HSt.out.mono (fun _ _ h => h.elim)).same h1))
              (by have := HZ.out; refine ⟨?_, ?_, ?_, ?_, ?_⟩ <;> omega) HLQ.out HRQ.out HROW.out.2.2.1 HROW.out.2.2.2 (by have := HN.out; have := HTB.out; have := HOL.out; omega)
            have CSC := Lib.hid csc
            clear csc hS10 HS9 HP0 HP1 HCALL HSE8 HT HCN
            refine CSC.out.mono ?_
            rintro e w11 ⟨s, ok, t2, rfl, hO11, hcn11, ht3, ht4, hok, hno⟩
            have HT11 := Lib.hid (HT10.out.but hO11 (fun i hi h => by have := HZ.out; omega))
            have HOX : Hid (Only (fun b => b = cb ∨ (tp ≤ b ∧ b ≠ tb)) W7 w11) := Lib.hid ((HO.out.then HSt.out).trans hO11 (fun k _ h => .inl h))
            have HT34 := Lib.hid (And.intro ht3 ht4)
            have HCN11 : Hid (CntW w11 cb (n + ((t + t2 : Nat) : Int))) := Lib.hid (by rw [show n + ((t + t2 : Nat) : Int) = n + (t : Int) + (t2 : Int) by omega]; exact hcn11)
            have HTB2 : Hid ((offsP m q P (l.take (j + 1))).length ≤ t + t2 ∧ t + t2 ≤ 8 * (offsP m q P (l.take (j + 1))).length) := Lib.hid (by rw [HOST.out, List.length_append]; have := HTB.out; simp; omega)
            cases ok with
            | false =>
              have hw := hno rfl
              have hnp : h.Perm (bestP k (offsP m q P (l.take j) ++ [(doc, scS m q vec 8)])) := by
                obtain ⟨h1, h2⟩ := hw
                unfold worstP at h1 h2
                have h3 := bestP_len k (offsP m q P (l.take j))
                have h4 := HPM.out.length_eq
                by_cases hf : h.length < k.toNat ∨ k.toNat = 0
                · rw [if_pos hf] at h1; cases h1
                · rw [if_neg hf] at h2
                  exact early_no h _ k doc _ HH.out HPM.out (by omega) (by omega) h2 HLTS.out
              have HNP := Lib.hid hnp
              clear hO11 hcn11 ht3 ht4 hok hno hw hnp
              go_wp2_with fail
              exact ⟨⟨j + 1, t + t2, h, by omega, by go_num, HOX.out, HT11.out, HH.out, by rw [HOST.out]; exact HNP.out, HCN11.out, HTB2.out.1, HTB2.out.2⟩, by simp [intOf]; omega⟩
            | true =>
              obtain rfl := hok rfl
              have p0 := hO11.cell_eq HP10.out (by have := HRB.out; omega)
              have p2 := (HSE10.out.only hO11 (by have := HZ.out; refine ⟨?_, ?_, ?_, ?_, ?_⟩ <;> omega))
              have hp2 := p2.c1
              have hb2 := p2.1
              obtain ⟨tv, htv⟩ := HT11.out
              have htv : TopV w11 tp k.toNat tv h := htv
              have co := toffer_any tp k tv h (offsP m q P (l.take j)) (doc, scS m q vec 8) w11 htv HH.out HPM.out (by have := HOL.out; omega) (by have := HK.out; omega)
              unfold pairV at co
              have CO := Lib.hid co
              have HOT := Lib.hid (htv.offT hb2); have HOF := Lib.hid htv.off
              generalize scS m q vec 8 = s at *
              clear hO11 hcn11 ht3 ht4 hok hno p2 hb2 htv co p1
              go_wp2_with fail
              refine CO.out.mono ?_
              rintro e w12 ⟨rfl, h', hT12, hh', hpm', hO12⟩
              have HO12 := Lib.hid hO12; have HT12 := Lib.hid hT12; have HH12 := Lib.hid hh'; have HPM12 := Lib.hid hpm'
              clear hO12 hT12 hh' hpm'
              go_wp2_with fail
              exact ⟨⟨j + 1, t + t2, h', by omega, by go_num, HOX.out.trans HO12.out (fun i hi h => by
                  have h0 := HZ.out
                  rcases h with h | h
                  · subst h; exact .inr ⟨Nat.le_refl _, by omega⟩
                  · have h1 := HOT.out i h; have h2 := HOF.out i h; exact .inr ⟨by omega, h1⟩), HT12.out, HH12.out, by rw [HOST.out]; exact HPM12.out,
                HCN11.out.only HO12.out (fun h => by
                  have h0 := HZ.out
                  rcases h with h | h
                  · omega
                  · have h2 := HOF.out _ h; omega), HTB2.out.1, HTB2.out.2⟩, by simp [intOf]; omega⟩
        · obtain rfl : j = l.length := by omega
          have hd : decide ((l.length : Int) < (l.length : Int)) = false := by simp
          have hp := HSE8.out.c1
          have HL0 : Hid (h.length ≤ 900000) := Lib.hid (by rw [HPM.out.length_eq]; have := bestP_len k (offsP m q P (l.take l.length)); have := HK.out; omega)
          go_wp2_with fail
          refine (tlist_any tp k.toNat h w8 HT.out HL0.out).mono ?_
          rintro e w9 ⟨v', rfl, hS9, hown⟩
          have HS9 := Lib.hid hS9; have HOWN := Lib.hid hown
          clear hS9 hown
          go_wp2_with fail
          go_ret2
          have hL : l.take l.length = l := List.take_length
          have h1 := HPM.out; have h2 := HTB.out; have h3 := HOWN.out
          rw [hL] at h1 h2
          have hso : bestP k (offsP m q P l) = sortP h := sortP_uniq h1.symm (bestP_sort _ _)
          refine ⟨v', t, by rw [HF.out]; rfl, HOw.out.then HS9.out, ?_, HCN.out.only HS9.out (fun h => h), fun h => absurd (by rw [HF.out]) h, fun _ => h2⟩
          rw [HF.out]
          show SlP w9 v' (bestP k (offsP m q P l))
          rw [hso]
          exact own_slp h3
end Go.Proofs.Ytjegohibpojneaa
