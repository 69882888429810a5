import Derived.Test.YtjegohibpojneaaPackRow
set_option linter.unusedVariables false
set_option linter.unusedSimpArgs false
namespace Go.Proofs.Ytjegohibpojneaa
open Go.RowKit

/-- The bit at place p; the number of w bits from place p on. -/
def bitAt (l : List UInt8) (p : Nat) : Bool := (l.getD (p / 8) 0).toNat.testBit (p % 8)
def numAt (l : List UInt8) (p : Nat) : Nat → Nat
  | 0 => 0
  | w + 1 => numAt l p w + (bitAt l (p + w)).toNat * 2 ^ w
theorem numAt_lt (l : List UInt8) (p w : Nat) : numAt l p w < 2 ^ w := by
  induction w with
  | zero => simp [numAt]
  | succ w ih =>
    unfold numAt
    have : (bitAt l (p + w)).toNat * 2 ^ w ≤ 1 * 2 ^ w := Nat.mul_le_mul (Bool.toNat_le _) (Nat.le_refl _)
    rw [Nat.pow_succ]; omega
/-- Is something behind the last number in the last byte? -/
def padBad (t : List UInt8) (q : Nat) : Bool := decide (0 < q % 8) && decide ((t.getD (q / 8) 0).toNat / 2 ^ (q % 8) ≠ 0)
def fixR (st : RS) (w n : Int) : List Int × RS :=
  if w < 0 ∨ 32 < w ∨ n < 0 ∨ 65536 < n then ([], none) else
  match (bytesS st ((w * n + 7) / 8)).2 with
  | none => ([], none)
  | some r => if padBad (bytesS st ((w * n + 7) / 8)).1 (w * n).toNat then ([], none) else ((List.range n.toNat).map fun i => (numAt (bytesS st ((w * n + 7) / 8)).1 (w.toNat * i) w.toNat : Int), some r)

theorem i64_or (i v c : Nat) (hv : v < 2 ^ i) (hc : c ≤ 1) (hi : i < 32) : bits .or .i64 (v : Int) ((c * 2 ^ i : Nat) : Int) = ((v + c * 2 ^ i : Nat) : Int) := by
  have h1 : 2 ^ i ≤ 2 ^ 31 := Nat.pow_le_pow_right (by omega) (by omega)
  have h2 : c * 2 ^ i ≤ 1 * 2 ^ i := Nat.mul_le_mul hc (Nat.le_refl _)
  rw [(bits_nat .i64 63 (by decide) (fun n h0 h1 => by rw [IntKind.wrap_i64]; omega) v (c * 2 ^ i) (by omega) (by omega)).2]
  congr 1
  rw [Nat.mul_comm c, Nat.or_comm, ← Nat.two_pow_add_eq_or_of_lt hv, Nat.add_comm]
theorem u8_bit (x c : Nat) (hx : x < 256) : bits .and .u8 ((x / 2 ^ c : Nat) : Int) 1 = (((x.testBit c).toNat : Nat) : Int) := by
  have hlt : x / 2 ^ c < 256 := Nat.lt_of_le_of_lt (Nat.div_le_self _ _) hx
  rw [show (1 : Int) = ((1 : Nat) : Int) from rfl, (bits_nat .u8 8 (by decide) wraps_u8 (x / 2 ^ c) 1 (by omega) (by omega)).1, Nat.toNat_testBit, Nat.and_one_is_mod]
def FixI (b bW bB bA wn : Nat) (t r : List UInt8) (k : Nat) (w : World) (at_ : Nat) : Prop :=
  Rd w b (some r) ∧ at_ = wn * k ∧ w.cell? ⟨bW, 0, none⟩ = some (.int .i64 wn) ∧ w.cell? ⟨bB, 0, none⟩ = some (.string (str t)) ∧ w.cell? ⟨bA, 0, none⟩ = some (.int .i64 at_) ∧ w.frozen? ⟨bA, 0, none⟩ = false
def fixStep (t : List UInt8) (wn : Nat) (at_ : Nat) : Int × Nat := ((numAt t at_ wn : Nat), at_ + wn)

set_option maxRecDepth 100000 in
theorem fixStep_any (b bW bB bA wn k n : Nat) (t r : List UInt8) (at_ : Nat) (w : World) (h : FixI b bW bB bA wn t r k w at_) (hk : k < n) (hn : n ≤ 65536) (hw : wn ≤ 32) (ht : t.length = (wn * n + 7) / 8)
    (h1 : bA ≠ b) (h2 : bA ≠ bW) (h3 : bA ≠ bB) :
    Calls Try.prog 140 #[.pointer (some ⟨bW, 0, none⟩), .pointer (some ⟨bB, 0, none⟩), .pointer (some ⟨bA, 0, none⟩)] w fun e w' => e = .returned (.int .i64 (fixStep t wn at_).1) ∧ Only (· = bA) w w' ∧ FixI b bW bB bA wn t r (k + 1) w' (fixStep t wn at_).2 := by
  obtain ⟨hr, hat, hcW, hcB, hcA, hfA⟩ := h
  have hA : at_ + wn ≤ wn * n := by
    have : wn * (k + 1) ≤ wn * n := Nat.mul_le_mul (Nat.le_refl _) hk
    rw [Nat.mul_add] at this; omega
  have hA2 : wn * n ≤ 32 * 65536 := Nat.mul_le_mul hw hn
  have HAT := Lib.hid hat; have HR := Lib.hid hr; have HT := Lib.hid ht; have HA := Lib.hid hfA
  have N1 := Lib.hid h1; have N2 := Lib.hid h2; have N3 := Lib.hid h3
  have HCA := Lib.hid hcA
  clear hat hr ht hfA h1 h2 h3 hcA
  have hst := str_size t
  go_enter Try.func140, Try.ntmps140
  go_wp2_with fail
  go_loopw [4, 5, 7] (fun v _ i wr => ∃ q : Nat, q ≤ wn ∧ i = .int .i64 q ∧ v = .int .i64 ((numAt t at_ q : Nat) : Int) ∧ Only (· = bA) w wr ∧ wr.cell? ⟨bA, 0, none⟩ = some (.int .i64 ((at_ + q : Nat) : Int)) ∧ wr.frozen? ⟨bA, 0, none⟩ = false) (fun _ _ i _ => wn - (intOf i).toNat)
  case atStart => exact ⟨0, by omega, rfl, rfl, Only.refl _ _, HCA.out, HA.out⟩
  case round =>
    obtain ⟨q, hq, rfl, rfl, hO, hcA, hfA⟩ := hrel
    have hcW' := hO.cell_eq hcW N2.out.symm
    have hcB' := hO.cell_eq hcB N3.out.symm
    have HO := Lib.hid hO
    clear hO
    by_cases hlt : q < wn
    · have hp : at_ + q < wn * n := by omega
      have hnx : numAt t at_ (q + 1) = numAt t at_ q + (bitAt t (at_ + q)).toNat * 2 ^ q := rfl
      have hor := i64_or q (numAt t at_ q) (bitAt t (at_ + q)).toNat (numAt_lt _ _ _) (Bool.toNat_le _) (by omega)
      have hbt : bitAt t (at_ + q) = (t.getD ((at_ + q) / 8) 0).toNat.testBit ((at_ + q) % 8) := rfl
      have hidx : ((at_ + q) / 8) < t.length := by have := HT.out; omega
      have hq1 : at_ + (q + 1) = at_ + q + 1 := by omega
      generalize at_ + q = p at *
      rw [← hnx] at hor
      have hgd : t.getD (p / 8) 0 = t[p / 8] := by rw [List.getD_eq_getElem?_getD, List.getElem?_eq_getElem hidx]; rfl
      rw [hgd] at hbt
      have hu := u8_bit (t[p / 8]).toNat (p % 8) (t[p / 8]).toNat_lt
      rw [← hbt] at hu
      have hbb : (bitAt t p).toNat ≤ 1 := Bool.toNat_le _
      have hidx2 : p / 8 < (str t).size := by rw [hst]; exact hidx
      rw [Int.natCast_ediv, Int.natCast_pow, Int.cast_ofNat_Int] at hu
      have hu2 : bits .and .u8 ((((str t)[p / 8]'hidx2).toNat : Int) / 2 ^ (p % 8)) 1 = (((bitAt t p).toNat : Nat) : Int) := hu
      have hxl : ((str t)[p / 8]'hidx2).toNat < 256 := UInt8.toNat_lt _
      have HNX := Lib.hid hnx; have HQ1 := Lib.hid hq1
      clear hgd hbt hnx hq1 hu
      have hp31 : 2 ^ q ≤ 2 ^ 31 := Nat.pow_le_pow_right (by omega) (by omega)
      have hbq : (bitAt t p).toNat * 2 ^ q ≤ 1 * 2 ^ 31 := Nat.mul_le_mul hbb hp31
      generalize (bitAt t p).toNat = bt at *
      have ew2 : wrap64 ((bt : Int) * 2 ^ q) = ((bt * 2 ^ q : Nat) : Int) := by
        have e : ((bt : Int) * 2 ^ q) = ((bt * 2 ^ q : Nat) : Int) := by simp
        rw [e]; clear e; generalize bt * 2 ^ q = y at *; unfold wrap64; omega
      generalize bt * 2 ^ q = y at *
      have e1 : IntKind.i64.wrap ((p : Int) / 8) = (p : Int) / 8 := by rw [IntKind.wrap_i64]; omega
      have e5 : ((p : Int) / 8).toNat = p / 8 := by omega
      have e6 : ((p : Int) % 8).toNat = p % 8 := by omega
      have e7 : (p : Int).tmod 8 = ((p % 8 : Nat) : Int) := by rw [Int.tmod_eq_emod_of_nonneg (by omega)]; omega
      have hbd : (p : Int) / 8 < t.length ∧ 0 ≤ (p : Int) / 8 := by omega
      clear hp31 hbq
      go_wp2_with fail
      go_quiet (fail)
      rename_i nq
      have hcA' : (wr.drewN nq).cell? ⟨bA, 0, none⟩ = some (.int .i64 p) := hcA
      have hfA' : (wr.drewN nq).frozen? ⟨bA, 0, none⟩ = false := hfA
      go_wp2
      refine ⟨⟨q + 1, by omega, by go_num, rfl, (HO.out.drewN nq).setCell (fun _ => rfl) _, ?_, ?_⟩, by simp [intOf]; omega⟩
      · rw [HQ1.out]; exact World.cell?_setCell_same _ _ _ hcA'
      · exact (World.frozen?_setCell _ _ _ _).trans hfA'
    · obtain rfl : q = wn := by omega
      go_wp2
      go_ret
      refine ⟨rfl, HO.out, HR.out.only HO.out N1.out.symm, ?_, hcW', hcB', hcA, hfA⟩
      show at_ + q = _
      rw [HAT.out, Nat.mul_add, Nat.mul_one]

theorem rowL_fix (t r : List UInt8) (wn n : Nat) (at_ : Nat) : rowL (fun _ : Nat => (some r : RS)) (fixStep t wn) n at_ = ((List.range n).map fun i => (numAt t (at_ + wn * i) wn : Int), at_ + wn * n) := by
  induction n generalizing at_ with
  | zero => rfl
  | succ n ih =>
    rw [rowL_go (rs := fun _ : Nat => (some r : RS)) (r := r) n rfl, ih, List.range_succ_eq_map]
    simp only [List.map_cons, List.map_map, fixStep, Nat.mul_zero, Nat.add_zero]
    rw [Nat.mul_succ]
    refine Prod.ext ?_ (by simp only; omega)
    simp only
    congr 1
    apply List.map_congr_left
    intro x _
    show _ = ((numAt t (at_ + wn * (x + 1)) wn : Nat) : Int)
    rw [Nat.mul_succ, show at_ + (wn * x + wn) = at_ + wn + wn * x by omega]

theorem fixRow (b bW wn n : Nat) (t r : List UInt8) (W : World) (h : Rd W b (some r)) (hcW : W.cell? ⟨bW, 0, none⟩ = some (.int .i64 wn)) (hn : n ≤ 65536) (hw : wn ≤ 32) (ht : t.length = (wn * n + 7) / 8) :
    Calls Try.prog 138 #[.pointer (some ⟨b, 0, none⟩), .int .i64 n, .func (.func 140) #[] #[.pointer (some ⟨bW, 0, none⟩), .pointer (some ⟨W.heap.size, 0, none⟩), .pointer (some ⟨W.heap.size + 1, 0, none⟩)]]
      ((W.alloc (.cells #[.string (str t)] 9)).alloc (.cells #[.int .i64 0] 3)) fun e w' => ∃ v, e = .returned v ∧ Same W w' ∧ Rd w' b (some r) ∧ w'.cell? ⟨W.heap.size, 0, none⟩ = some (.string (str t)) ∧ w'.cell? ⟨W.heap.size + 1, 0, none⟩ = some (.int .i64 (wn * n : Nat)) ∧
      SlF w' W.heap.size v ((List.range n).map fun i => (numAt t (wn * i) wn : Int)) := by
  have hE : ∀ (args : Array Value) (w : World), (callFunc 140 args).run Try.prog w = .ok (.enter 140 args) w := enters_of Try.func140 (by kernel_rfl) rfl
  have hlt := h.lt
  have hbW := World.block_lt_of_cell? _ _ hcW
  simp only at hbW
  have hS2 := ((Only.refl (fun _ => False) W).alloc (.cells #[.string (str t)] 9)).alloc (.cells #[.int .i64 0] 3)
  have hcB := ((Only.refl (fun _ => False) (W.alloc (.cells #[.string (str t)] 9))).alloc (.cells #[.int .i64 0] 3)).cell_eq (blk_cells (blk_new W (.cells #[.string (str t)] 9)) 0) (fun h => h)
  have hsz : (W.alloc (.cells #[.string (str t)] 9)).heap.size = W.heap.size + 1 := World.size_alloc _ _
  have hcA := blk_new (W.alloc (.cells #[.string (str t)] 9)) (.cells #[.int .i64 0] 3)
  rw [hsz] at hcA
  have hrow : rowS (fun _ : Nat => (some r : RS)) (fixStep t wn) n 0 = ((List.range n).map fun i => (numAt t (wn * i) wn : Int), wn * n) := by
    have := rowL_fix t r wn n 0
    simp only [Nat.zero_add] at this
    exact rowS_some this rfl
  refine (row_any b n 140 _ (fun k => k = W.heap.size + 1) (FixI b bW W.heap.size (W.heap.size + 1) wn t r) (fun _ => some r) (fixStep t wn) 0 _ hE (fun k w1 s h => h.1) ?_ (fun k w1 s l hk h hs => fixStep_any b bW W.heap.size (W.heap.size + 1) wn k n t r s w1 h hk hn hw ht (by omega) (by omega) (by omega)) ?_ ?_ ?_).mono ?_
  · rintro k w1 w2 s ⟨a1, a2, a3, a4, a5, a6⟩ ho
    rw [World.size_alloc, World.size_alloc] at ho
    exact ⟨a1.only ho (by omega), a2, ho.cell_eq a3 (by omega), ho.cell_eq a4 (by omega), ho.cell_eq a5 (by omega), (ho.frozen (World.block_lt_of_cell? _ _ a5) (by simp only; omega)).trans a6⟩
  · rw [World.size_alloc, World.size_alloc]; omega
  · intro k w1 s l hk _ _; omega
  · exact ⟨h.same hS2, by simp, hS2.cell_eq hcW (fun h => h), hcB, blk_cells hcA 0, blk_frozen hcA 0⟩
  · rintro e w' ⟨v, k, rfl, hO, hI, hSl⟩
    rw [hrow] at hI hSl
    exact ⟨v, rfl, hS2.trans hO (fun k hk h => by omega), hI.1, hI.2.2.2.1, hI.2.2.2.2.1, hSl.lo (by simp; omega)⟩

theorem bytesS_some {st : RS} {n : Int} {t r : List UInt8} (h : bytesS st n = (t, some r)) : 0 ≤ n ∧ (t.length : Int) = n ∧ ∃ l, st = some l ∧ t ++ r = l := by
  cases st with
  | none => cases h
  | some l =>
    unfold bytesS at h
    simp only at h
    by_cases hb : n < 0 ∨ (l.length : Int) < n
    · rw [if_pos hb] at h; cases h
    · rw [if_neg hb] at h
      simp only [Prod.mk.injEq, Option.some.injEq] at h
      obtain ⟨rfl, rfl⟩ := h
      exact ⟨by omega, by simp; omega, l, rfl, by simp⟩

set_option maxRecDepth 100000 in
theorem rfixed_fr (b : Nat) (st : RS) (wd_ n : Int) (w : World) (h : Rd w b st) (hlen : (st.getD []).length ≤ 1000000000000) :
    Calls Try.prog 90 #[.pointer (some ⟨b, 0, none⟩), .int .i64 wd_, .int .i64 n] w fun e w' => ∃ v, e = .returned v ∧ Only (· = b) w w' ∧ Rd w' b (fixR st wd_ n).2 ∧ SlF w' w.heap.size v (fixR st wd_ n).1 := by
  have hlt := h.lt
  have hmf := @run_makeFunc Try.prog
  have hrd := h.same ((Only.refl _ w).alloc (.cells #[.int .i64 wd_] 3))
  have hbW : (w.alloc (.cells #[.int .i64 wd_] 3)).cell? ⟨w.heap.size, 0, none⟩ = some (.int .i64 wd_) := blk_cells (blk_new _ _) 0
  have HRD := Lib.hid hrd; have HBW := Lib.hid hbW; have H0 := Lib.hid h
  clear hrd hbW h
  by_cases hg : wd_ < 0 ∨ 32 < wd_ ∨ n < 0 ∨ 65536 < n
  · have HE : Hid (fixR st wd_ n = ([], none)) := Lib.hid (by unfold fixR; rw [if_pos hg])
    have hfin : ∀ w1, Only (· = b) (w.alloc (.cells #[.int .i64 wd_] 3)) w1 → Only (· = b) w w1 := fun w1 h => ((Only.refl (· = b) w).alloc _).same h
    have HF := Lib.hid hfin
    clear hfin
    have hcase : wd_ < 0 ∨ (¬ wd_ < 0 ∧ 32 < wd_) ∨ (¬ wd_ < 0 ∧ ¬ 32 < wd_ ∧ n < 0) ∨ (¬ wd_ < 0 ∧ ¬ 32 < wd_ ∧ ¬ n < 0 ∧ 65536 < n) := by omega
    clear hg
    rcases hcase with g1 | ⟨g1, g2⟩ | ⟨g1, g2, g3⟩ | ⟨g1, g2, g3, g4⟩
    all_goals
      go_enter Try.func90, Try.ntmps90
      go_wp2_with (go_at_call 136; refine (rfail_any b _ _ HRD.out).mono ?_; rintro e w2 ⟨rfl, hO2, hR2⟩)
      go_ret
      rw [HE.out]
      exact ⟨_, rfl, HF.out _ hO2, hR2, SlF.nil _ _⟩
  · obtain ⟨wn, rfl⟩ := Int.eq_ofNat_of_zero_le (show 0 ≤ wd_ by omega)
    obtain ⟨nn, rfl⟩ := Int.eq_ofNat_of_zero_le (show 0 ≤ n by omega)
    have hw32 : wn ≤ 32 := by omega
    have hn64 : nn ≤ 65536 := by omega
    have hmul : (wn : Int) * (nn : Int) = ((wn * nn : Nat) : Int) := by simp
    have hb1 : wn * nn ≤ 32 * 65536 := Nat.mul_le_mul hw32 hn64
    have hfr : fixR st wn nn = match (bytesS st (((wn : Int) * nn + 7) / 8)).2 with
      | none => ([], none)
      | some r => if padBad (bytesS st (((wn : Int) * nn + 7) / 8)).1 (wn * nn) then ([], none) else ((List.range nn).map fun i => (numAt (bytesS st (((wn : Int) * nn + 7) / 8)).1 (wn * i) wn : Int), some r) := by
      unfold fixR; rw [if_neg hg, hmul]; simp only [Int.toNat_natCast]
    have hcb := fun w0 hr => rbytes_any b st (((wn : Int) * nn + 7) / 8) w0 hr hlen
    have hsome := fun t r => bytesS_some (st := st) (n := ((wn : Int) * nn + 7) / 8) (t := t) (r := r)
    generalize hB : bytesS st (((wn : Int) * nn + 7) / 8) = B at *
    obtain ⟨t, st'⟩ := B
    simp only at hfr hcb
    have HCB := Lib.hid hcb; have HFR := Lib.hid hfr; have HSM := Lib.hid hsome; have HM := Lib.hid hmul
    clear hcb hfr hsome hB hmul hg
    cases st' with
    | none =>
      go_enter Try.func90, Try.ntmps90
      go_wp2_with (go_at_call 139; refine (HCB.out _ HRD.out).mono ?_; rintro e w1 ⟨rfl, hO1, hR1⟩; have hbd := ((Only.refl (fun _ => False) w1).alloc (.cells #[.string (str t)] 9)).cell_eq hR1.c1 (fun h => h))
      go_ret
      rw [HFR.out]
      exact ⟨_, rfl, (((Only.refl (· = b) w).alloc _).same hO1).alloc _, hR1.same ((Only.refl _ w1).alloc _), SlF.nil _ _⟩
    | some r =>
      obtain ⟨hs1, hs2, lst, rfl, hs3⟩ := HSM.out t r rfl
      simp only at HFR
      have htl : t.length = (wn * nn + 7) / 8 := by have := HM.out; rw [this] at hs2; omega
      have HS3 := Lib.hid hs3; have HTL := Lib.hid htl
      clear hs1 hs2 hs3 HSM
      obtain ⟨q, hq⟩ : ∃ q, wn * nn = q := ⟨_, rfl⟩
      have hb2 := hb1
      rw [hq] at HFR HTL hb2
      have hst := str_size t
      have htq := HTL.out
      have e7 : (q : Int).tmod 8 = ((q % 8 : Nat) : Int) := by rw [Int.tmod_eq_emod_of_nonneg (by omega)]; omega
      have HQ := Lib.hid hq
      clear hq htl
      by_cases hq8 : q % 8 = 0
      · have hpad : padBad t q = false := by unfold padBad; rw [decide_eq_false (by omega)]; rfl
        rw [hpad] at HFR
        have HF2 : Hid (fixR (some lst) wn nn = (((List.range nn).map fun i => (numAt t (wn * i) wn : Int)), some r)) := Lib.hid (by rw [HFR.out]; rfl)
        clear HFR hpad
        have hqq : q = 0 ∨ 0 < q := by omega
        rcases hqq with hq0 | hq0
        · subst hq0
          have hlt0 : t.length = 0 := by omega
          clear htq
          go_enter Try.func90, Try.ntmps90
          go_wp2_with (first | (go_at_call 139; refine (HCB.out _ HRD.out).mono ?_; rintro e w1 ⟨rfl, hO1, hR1⟩; have hsz1 := hO1.size; rw [World.size_alloc] at hsz1; have hbd := ((Only.refl (fun _ => False) w1).alloc (.cells #[.string (str t)] 9)).cell_eq hR1.c1 (fun h => h); have hcW1 := hO1.cell_eq HBW.out (show ¬ w.heap.size = b by omega)) | (go_at_call 138; refine (fixRow b w.heap.size wn nn t r w1 hR1 hcW1 hn64 hw32 (by rw [HQ.out]; exact HTL.out)).mono ?_; rintro e w3 ⟨v, rfl, hO3, hR3, hcB3, hcA3, hSl⟩; rw [HQ.out] at hcA3))
          go_quiet (fail)
          rename_i nq
          go_wp2
          go_ret
          rw [HF2.out]
          exact ⟨_, rfl, ((((Only.refl (· = b) w).alloc _).same hO1).then hO3).drewN nq, hR3, hSl.1, hSl.2.mono (by omega)⟩
        · have hlt0 : 0 < t.length := by omega
          clear htq
          go_enter Try.func90, Try.ntmps90
          go_wp2_with (first | (go_at_call 139; refine (HCB.out _ HRD.out).mono ?_; rintro e w1 ⟨rfl, hO1, hR1⟩; have hsz1 := hO1.size; rw [World.size_alloc] at hsz1; have hbd := ((Only.refl (fun _ => False) w1).alloc (.cells #[.string (str t)] 9)).cell_eq hR1.c1 (fun h => h); have hcW1 := hO1.cell_eq HBW.out (show ¬ w.heap.size = b by omega)) | (go_at_call 138; refine (fixRow b w.heap.size wn nn t r w1 hR1 hcW1 hn64 hw32 (by rw [HQ.out]; exact HTL.out)).mono ?_; rintro e w3 ⟨v, rfl, hO3, hR3, hcB3, hcA3, hSl⟩; rw [HQ.out] at hcA3))
          go_quiet (fail)
          rename_i nq
          go_wp2
          go_ret
          rw [HF2.out]
          exact ⟨_, rfl, ((((Only.refl (· = b) w).alloc _).same hO1).then hO3).drewN nq, hR3, hSl.1, hSl.2.mono (by omega)⟩
      · have hidx : q / 8 < t.length := by omega
        have hidx2 : q / 8 < (str t).size := by rw [hst]; exact hidx
        have hgd : t.getD (q / 8) 0 = (str t)[q / 8]'hidx2 := by rw [List.getD_eq_getElem?_getD, List.getElem?_eq_getElem hidx]; rfl
        have hpd : padBad t q = decide (((str t)[q / 8]'hidx2).toNat / 2 ^ (q % 8) ≠ 0) := by unfold padBad; rw [decide_eq_true (show 0 < q % 8 by omega), hgd]; rfl
        have hxl : ((str t)[q / 8]'hidx2).toNat < 256 := UInt8.toNat_lt _
        have hn2 : (t.length : Int) - 1 = (q : Int) / 8 := by omega
        have e1 : IntKind.i64.wrap ((q : Int) / 8) = (q : Int) / 8 := by rw [IntKind.wrap_i64]; omega
        have e5 : ((q : Int) / 8).toNat = q / 8 := by omega
        have hbd8 : (q : Int) / 8 < t.length ∧ 0 ≤ (q : Int) / 8 := by omega
        by_cases hbad : ((str t)[q / 8]'hidx2).toNat / 2 ^ (q % 8) ≠ 0
        · rw [hpd, decide_eq_true hbad, if_pos rfl] at HFR
          clear hgd hpd
          have hb9 : (((((str t)[q / 8]'hidx2).toNat : Nat) : Int) / 2 ^ (q % 8) != 0) = true := by
            have : ((((str t)[q / 8]'hidx2).toNat : Nat) : Int) / 2 ^ (q % 8) = ((((str t)[q / 8]'hidx2).toNat / 2 ^ (q % 8) : Nat) : Int) := by simp
            rw [this]
            simp only [bne_iff_ne]
            omega
          have hlt0 : 0 < t.length := by omega
          have hqp : 0 < (q : Int) % 8 := by omega
          clear hbad htq
          go_enter Try.func90, Try.ntmps90
          go_wp2_with (first | (go_at_call 139; refine (HCB.out _ HRD.out).mono ?_; rintro e w1 ⟨rfl, hO1, hR1⟩; have hsz1 := hO1.size; rw [World.size_alloc] at hsz1; have hbd := ((Only.refl (fun _ => False) w1).alloc (.cells #[.string (str t)] 9)).cell_eq hR1.c1 (fun h => h); have hcW1 := hO1.cell_eq HBW.out (show ¬ w.heap.size = b by omega)) | (go_at_call 138; refine (fixRow b w.heap.size wn nn t r w1 hR1 hcW1 hn64 hw32 (by rw [HQ.out]; exact HTL.out)).mono ?_; rintro e w3 ⟨v, rfl, hO3, hR3, hcB3, hcA3, hSl⟩; rw [HQ.out] at hcA3))
          go_quiet (fail)
          rename_i nq
          go_wp2_with (go_at_call 136; refine (rfail_any b (some r) (w3.drewN nq) hR3).mono ?_; rintro e w4 ⟨rfl, hO4, hR4⟩)
          go_ret
          rw [HFR.out]
          exact ⟨_, rfl, (((((Only.refl (· = b) w).alloc _).same hO1).then hO3).drewN nq).same hO4, hR4, SlF.nil _ _⟩
        · rw [hpd, decide_eq_false hbad, if_neg (by decide)] at HFR
          clear hgd hpd
          have hb9 : (((((str t)[q / 8]'hidx2).toNat : Nat) : Int) / 2 ^ (q % 8) != 0) = false := by
            have : ((((str t)[q / 8]'hidx2).toNat : Nat) : Int) / 2 ^ (q % 8) = ((((str t)[q / 8]'hidx2).toNat / 2 ^ (q % 8) : Nat) : Int) := by simp
            rw [this]
            simp only [bne_eq_false_iff_eq]
            omega
          have hlt0 : 0 < t.length := by omega
          have hqp : 0 < (q : Int) % 8 := by omega
          clear hbad htq
          go_enter Try.func90, Try.ntmps90
          go_wp2_with (first | (go_at_call 139; refine (HCB.out _ HRD.out).mono ?_; rintro e w1 ⟨rfl, hO1, hR1⟩; have hsz1 := hO1.size; rw [World.size_alloc] at hsz1; have hbd := ((Only.refl (fun _ => False) w1).alloc (.cells #[.string (str t)] 9)).cell_eq hR1.c1 (fun h => h); have hcW1 := hO1.cell_eq HBW.out (show ¬ w.heap.size = b by omega)) | (go_at_call 138; refine (fixRow b w.heap.size wn nn t r w1 hR1 hcW1 hn64 hw32 (by rw [HQ.out]; exact HTL.out)).mono ?_; rintro e w3 ⟨v, rfl, hO3, hR3, hcB3, hcA3, hSl⟩; rw [HQ.out] at hcA3))
          go_quiet (fail)
          rename_i nq
          go_wp2
          go_ret
          rw [HFR.out]
          exact ⟨_, rfl, ((((Only.refl (· = b) w).alloc _).same hO1).then hO3).drewN nq, hR3, hSl.1, hSl.2.mono (by omega)⟩
theorem rfixed_any (b : Nat) (st : RS) (wd_ n : Int) (w : World) (h : Rd w b st) (hlen : (st.getD []).length ≤ 1000000000000) :
    Calls Try.prog 90 #[.pointer (some ⟨b, 0, none⟩), .int .i64 wd_, .int .i64 n] w fun e w' => ∃ v, e = .returned v ∧ Only (· = b) w w' ∧ Rd w' b (fixR st wd_ n).2 ∧ Sl w' num v (fixR st wd_ n).1 :=
  (rfixed_fr b st wd_ n w h hlen).mono fun e w' ⟨v, h1, h2, h3, h4⟩ => ⟨v, h1, h2, h3, h4.1⟩
end Go.Proofs.Ytjegohibpojneaa
