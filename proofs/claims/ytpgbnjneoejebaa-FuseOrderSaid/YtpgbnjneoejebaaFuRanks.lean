import Derived.Test.YtpgbnjneoejebaaFuTopR
import Derived.Test.YtpgbnjneoejebaaFuTopW
set_option linter.unusedVariables false
set_option linter.unusedSimpArgs false
namespace Go.Proofs.Ytpgbnjneoejebaa
open Go.RowKit
attribute [local go_sem ↓] Go.wp_at_zero Go.wp_at_succ

theorem results_c1 {P : Program} {fn : Func} {p : Tmp} {ty : TypeId} (h : fn.results = #[.cell p ty]) (tmps : Array Value) (w : World) (g : Nat) (t : TypeId) (cs : Array Value) (fr : Nat × Nat) (d : TypeDesc)
    (hp : tmps.getD p undef = .pointer (some ⟨g, 0, none⟩)) (hg : w.heap[g]? = some (.cells cs t fr))
    (hu : P.underlying ty = some d) (hd : (match d with | .struct _ | .array _ _ => true | _ => false) = true) (hi : (P.info? ty).map (·.size) = some cs.size) :
    (results fn tmps).run P w = .ok (.agg cs) w := by
  have hp' : tmps[p]?.getD undef = .pointer (some ⟨g, 0, none⟩) := by simpa using hp
  simp [results, h, hp', asAddr, run_loadVar_row w g t ty cs fr d hg hu hd hi, Result.andThen]
set_option maxRecDepth 100000 in
set_option maxHeartbeats 4000000 in
theorem ranks1_any (li r : Int) (s c : Int) (bc : Nat) (w : World) (hb : w.cell? ⟨bc, 0, none⟩ = some (.int .i64 c)) (hc : 1 ≤ c ∧ c ≤ 1000000) (hr : 1 ≤ r ∧ r ≤ 1000) :
    Calls Try.prog 33 #[.int .i64 li, .int .i64 r, .int .i64 s, .pointer (some ⟨bc, 0, none⟩)] w fun e w' => e = .returned (ratV (rkB c r.toNat s)) ∧ Same w w' := by
  have hw : IntKind.i64.wrap (c + r) = (((c + r).toNat : Nat) : Int) := by rw [IntKind.wrap_i64]; omega
  have hN : (c + ((r.toNat : Nat) : Int)).toNat = (c + r).toNat := by omega
  have hv : (rkB c r.toNat s).1 = mkRat 1 (c + r).toNat := by rw [rkB_val c _ s hc (by omega), hN]
  generalize hd : (c + r).toNat = d at *
  have hd0 : 0 < d ∧ d ≤ 9223372036854775807 := by omega
  have cs := fun w0 => ratioQ_any 1 d w0 (by unfold i64in; omega) (by unfold i64in; omega) hd0.1 (unit_in d hd0.1 hd0.2)
  have he : ratQ (mkRat 1 d) = ratV (rkB c r.toNat s) := by unfold ratV ratQ rat; rw [hv]
  rw [he] at cs
  generalize rkB c r.toNat s = q at *
  have CS := Lib.hid cs
  have hS1 : Same w (w.alloc (.cells #[.int .i64 0, .int .i64 0] 33)) := (Only.refl _ w).alloc _
  have hA1 := blk_new w (.cells #[.int .i64 0, .int .i64 0] 33)
  have hbc : (w.alloc (.cells #[.int .i64 0, .int .i64 0] 33)).cell? ⟨bc, 0, none⟩ = some (.int .i64 c) := hS1.cell_eq hb (fun h => h)
  clear hN hd0 cs he hv hb hd
  go_enter Try.func33, Try.ntmps33
  go_upto_region 1 with fail
  have HWS := Lib.hid (show w.heap.size < (w.alloc (.cells #[.int .i64 0, .int .i64 0] 33)).heap.size from heap_lt hA1)
  generalize w.alloc (.cells #[.int .i64 0, .int .i64 0] 33) = w1 at *
  have HA1 := Lib.hid hA1; have HS1 := Lib.hid hS1
  clear hA1 hS1
  go_wp2_with fail
  refine (CS.out _).mono ?_
  rintro e w2 ⟨rfl, hS2⟩
  have HS2 := Lib.hid (HS1.out.then hS2)
  have hA2 := hS2.heap HA1.out (fun h => h)
  have HA2 := Lib.hid hA2
  have HWS2 : Hid (w.heap.size < w2.heap.size) := Lib.hid (heap_lt hA2)
  clear hA2 hS2 hbc HA1 HS1
  unfold ratV
  go_upto_region 2 with fail
  have hS3 : Same w2 (w2.alloc (.cells #[.int .i64 q.1.num, .int .i64 q.1.den] 33)) := (Only.refl (fun _ => False) w2).alloc _
  have hA3 := hS3.heap HA2.out (fun h => h)
  obtain ⟨p0, p1, _, _⟩ := two_facts (blk_new w2 (.cells #[.int .i64 q.1.num, .int .i64 q.1.den] 33))
  have HS3 := Lib.hid (HS2.out.then hS3)
  generalize w2.alloc (.cells #[.int .i64 q.1.num, .int .i64 q.1.den] 33) = w3 at *
  obtain ⟨r0, r1, f0, f1⟩ := two_facts hA3
  have HA3 := Lib.hid hA3
  generalize hz : w.heap.size = z at *
  clear hS3 hA3
  go_wp2_with fail
  have hX := blk_set (j := 1) (v := .int .i64 q.1.den) (blk_set (j := 0) (v := .int .i64 q.1.num) HA3.out)
  refine bodyPost_ret (results_c1 rfl _ _ z 33 _ _ _ rfl hX Try.underlying33 rfl (by kernel_rfl)) rfl ?_
  refine ⟨rfl, HS3.out.trans ((((Only.refl (· = z) w3).setCell (fun _ => rfl) _).setCell (fun _ => rfl) _)) (fun k hk e => by omega)⟩
theorem asked_zero {x y : List (Int × Int)} {ok : Bool} {k : Int} : askedF x y ok k = 0 ↔ RightF x ∧ RightF y ∧ ok = true ∧ 1 ≤ k ∧ k ≤ 1000 := by
  unfold askedF
  by_cases h : RightF x ∧ RightF y
  · rw [if_pos h]
    by_cases h2 : ok = true ∧ 1 ≤ k ∧ k ≤ 1000
    · rw [if_pos h2]; exact ⟨fun _ => ⟨h.1, h.2, h2⟩, fun _ => rfl⟩
    · rw [if_neg h2]; exact ⟨fun e => (by cases e), fun h3 => absurd h3.2.2 h2⟩
  · rw [if_neg h]; exact ⟨fun e => (by cases e), fun h3 => absurd ⟨h3.1, h3.2.1⟩ h⟩
/-- What is answered: the best of the values, or nothing. -/
def FuR (x y : List (Int × Int)) (B C : Nat → Int → QV) (k e : Int) (l : List VP) : Prop := (e = 0 → ∃ F, FuI x y B C F ∧ l = bestG k F) ∧ (e ≠ 0 → l = [])
def okC (c : Int) : Bool := decide (1 ≤ c) && decide (c ≤ 1000000)
set_option maxRecDepth 100000 in
set_option maxHeartbeats 8000000 in
theorem ranks_any (vx vy : Value) (x y : List (Int × Int)) (c k : Int) (w : World) (hx : SlP w vx x) (hy : SlP w vy y) (ix : I64L x) (iy : I64L y) :
    Calls Try.prog 9 #[vx, vy, .int .i64 c, .int .i64 k] w fun e w' => ∃ v l, e = .returned (.tuple #[v, .int .i64 (askedF x y (okC c) k)]) ∧ Same w w' ∧ w'.ownsRow w.heap.size 35 3 v l.length (cells3 l) ∧ FuR x y (rkB c) (rkB c) k (askedF x y (okC c) k) l := by
  have hS1 : Same w (w.alloc (.cells #[.int .i64 c] 3)) := (Only.refl _ w).alloc _
  have hb1 := blk_cells (blk_new w (.cells #[.int .i64 c] 3)) 0
  simp only [List.getElem?_toArray, List.getElem?_cons_zero] at hb1
  have HX := Lib.hid (hx.same hS1); have HY := Lib.hid (hy.same hS1)
  have C1 := Lib.hid (fun ok w0 (h : Same (w.alloc (.cells #[.int .i64 c] 3)) w0) => asked_any vx vy x y ok k w0 ((hx.same hS1).same h) ((hy.same hS1).same h) ix iy)
  have HIX := Lib.hid ix; have HIY := Lib.hid iy; have HS1 := Lib.hid hS1
  have hwz : w.heap.size < (w.alloc (.cells #[.int .i64 c] 3)).heap.size := by simp
  have HWZ := Lib.hid hwz
  obtain ⟨ok, hok⟩ : ∃ ok, ok = okC c := ⟨_, rfl⟩
  rw [← hok]
  obtain ⟨a, ha⟩ : ∃ a, a = askedF x y ok k := ⟨_, rfl⟩
  rw [← ha]
  have HOK := Lib.hid hok; have HA := Lib.hid ha
  have hcase : (c < 1 ∧ ok = false) ∨ (1 ≤ c ∧ 1000000 < c ∧ ok = false) ∨ (1 ≤ c ∧ c ≤ 1000000 ∧ ok = true) := by
    rw [hok]; unfold okC; simp; omega
  have fin : ∀ w1 w2 : World, Same (w.alloc (.cells #[.int .i64 c] 3)) w1 → Same w1 w2 → a ≠ 0 → Same w w2 ∧ w2.ownsRow w.heap.size 35 3 (.slice none 0 0) ([] : List VP).length (cells3 []) ∧ FuR x y (rkB c) (rkB c) k a [] :=
    fun w1 w2 h1 h2 h3 => ⟨(hS1.then h1).then h2, ⟨by simp [cells3], .inl ⟨rfl, rfl⟩⟩, fun h => absurd h h3, fun _ => rfl⟩
  have FIN := Lib.hid fin
  clear hx hy ix iy hS1 hok ha hwz fin
  rcases hcase with ⟨h1, rfl⟩ | ⟨h1, h2, rfl⟩ | ⟨h1, h2, rfl⟩
  · have hd1 : decide (1 ≤ c) = false := decide_eq_false (by omega)
    have hane : (a != 0) = true := by
      have : a ≠ 0 := by rw [HA.out]; intro h; have := (asked_zero.1 h).2.2.1; cases this
      simpa using this
    have HN : Hid (a ≠ 0) := Lib.hid (by simpa using hane)
    go_enter Try.func9, Try.ntmps9
    go_upto_region 1 with fail
    generalize w.alloc (.cells #[.int .i64 c] 3) = w1 at *
    go_wp2_with fail
    refine (C1.out _ _ (Only.refl _ _)).mono ?_
    rintro e w2 ⟨rfl, hS2⟩
    rw [← HA.out]
    have HS2 := Lib.hid hS2
    clear hS2
    go_wp2_with fail
    go_ret2
    exact ⟨_, [], rfl, FIN.out w1 w2 (Only.refl _ _) HS2.out HN.out⟩
  · have hd1 : decide (1 ≤ c) = true := decide_eq_true h1
    have hd2 : decide (c ≤ 1000000) = false := decide_eq_false (by omega)
    have hane : (a != 0) = true := by
      have : a ≠ 0 := by rw [HA.out]; intro h; have := (asked_zero.1 h).2.2.1; cases this
      simpa using this
    have HN : Hid (a ≠ 0) := Lib.hid (by simpa using hane)
    go_enter Try.func9, Try.ntmps9
    go_upto_region 1 with fail
    generalize w.alloc (.cells #[.int .i64 c] 3) = w1 at *
    go_wp2_with fail
    refine (C1.out _ _ (Only.refl _ _)).mono ?_
    rintro e w2 ⟨rfl, hS2⟩
    rw [← HA.out]
    have HS2 := Lib.hid hS2
    clear hS2
    go_wp2_with fail
    go_ret2
    exact ⟨_, [], rfl, FIN.out w1 w2 (Only.refl _ _) HS2.out HN.out⟩
  · have hd1 : decide (1 ≤ c) = true := decide_eq_true h1
    have hd2 : decide (c ≤ 1000000) = true := decide_eq_true h2
    by_cases ha0 : a = 0
    rotate_left
    · have hane : (a != 0) = true := by simpa using ha0
      have HN : Hid (a ≠ 0) := Lib.hid ha0
      clear ha0
      go_enter Try.func9, Try.ntmps9
      go_upto_region 1 with fail
      generalize w.alloc (.cells #[.int .i64 c] 3) = w1 at *
      go_wp2_with fail
      refine (C1.out _ _ (Only.refl _ _)).mono ?_
      rintro e w2 ⟨rfl, hS2⟩
      rw [← HA.out]
      have HS2 := Lib.hid hS2
      clear hS2
      go_wp2_with fail
      go_ret2
      exact ⟨_, [], rfl, FIN.out w1 w2 (Only.refl _ _) HS2.out HN.out⟩
    · obtain ⟨hrx, hry, _, hk1, hk2⟩ := asked_zero.1 (HA.out.symm.trans ha0)
      have HRX := Lib.hid hrx; have HRY := Lib.hid hry
      have CF := Lib.hid (fun w0 (h : Same (w.alloc (.cells #[.int .i64 c] 3)) w0) => fusedR_any vx vy x y k (rkB c) (rkB c) w.heap.size w0 (HX.out.same h) (HY.out.same h) hrx.1 hry.1 hrx.2.2 hry.2.2 HIX.out HIY.out ⟨hk1, hk2⟩
        (fun w3 h3 i hi => by
          have := ranks1_any 0 ((i : Int) + 1) x[i].2 c w.heap.size w3 ((h.then h3).cell_eq hb1 (fun h => h)) ⟨h1, h2⟩ (by have := hrx.2.2; omega)
          rwa [show ((i : Int) + 1).toNat = i + 1 by omega] at this)
        (fun w3 h3 i hi => by
          have := ranks1_any 1 ((i : Int) + 1) y[i].2 c w.heap.size w3 ((h.then h3).cell_eq hb1 (fun h => h)) ⟨h1, h2⟩ (by have := hry.2.2; omega)
          rwa [show ((i : Int) + 1).toNat = i + 1 by omega] at this)
        (fun i j hi hj => by
          rw [rkB_val c _ _ ⟨h1, h2⟩ (by have := hrx.2.2; omega), rkB_val c _ _ ⟨h1, h2⟩ (by have := hry.2.2; omega)]
          have := hrx.2.2; have := hry.2.2
          exact unit_sum_in _ _ (by omega) (by omega) (by omega) (by omega)))
      subst ha0
      have hz : w.heap.size ≤ w.heap.size := Nat.le_refl _
      generalize hzz : w.heap.size = z at *
      have HZZ := Lib.hid hzz
      clear hrx hry hzz hz hk1 hk2 h1 h2
      go_enter Try.func9, Try.ntmps9
      go_upto_region 1 with fail
      rw [HZZ.out]
      generalize w.alloc (.cells #[.int .i64 c] 3) = w1 at *
      go_wp2_with fail
      refine (C1.out _ _ (Only.refl _ _)).mono ?_
      rintro e w2 ⟨rfl, hS2⟩
      rw [← HA.out]
      have HS2 := Lib.hid hS2
      clear hS2
      go_wp2_with fail
      refine (CF.out _ HS2.out).mono ?_
      rintro e w3 ⟨v, F, rfl, hS3, hF, hown⟩
      have HS3 := Lib.hid hS3; have HF := Lib.hid hF
      have HOW := Lib.hid (own_lo hown (Nat.le_trans HS1.out.size HS2.out.size))
      clear hS3 hF hown
      go_wp2_with fail
      go_ret2
      exact ⟨_, _, rfl, (HS1.out.then HS2.out).then HS3.out, HZZ.out ▸ HOW.out, fun _ => ⟨F, HF.out, rfl⟩, fun h => absurd rfl h⟩
end Go.Proofs.Ytpgbnjneoejebaa

namespace Go.Proofs.Ytpgbnjneoejebaa
open Go.RowKit
attribute [local go_sem ↓] Go.wp_at_zero Go.wp_at_succ

theorem wtB_mk (a : Int) (r : Nat) (s : Int) (h : i64in (a * s)) : ratV (wtB a r s) = .agg #[.int .i64 (a * s), .int .i64 1] := by
  have h2 := qmk_val (whole_in (a * s) h)
  obtain ⟨e1, e2⟩ := mkRat_whole (a * s)
  unfold ratV wtB
  rw [h2, e1, e2]; rfl
theorem mul_rng (a s : Int) (ha : 0 ≤ a ∧ a ≤ 1000000) (hs : -1099511627776 ≤ s ∧ s ≤ 1099511627776) : -1099511627776000000 ≤ a * s ∧ a * s ≤ 1099511627776000000 := by
  have h1 := Int.mul_le_mul_of_nonneg_left hs.2 ha.1
  have h2 := Int.mul_le_mul_of_nonneg_left hs.1 ha.1
  constructor <;> omega
set_option maxRecDepth 100000 in
set_option maxHeartbeats 4000000 in
theorem weights1_any (l1 : Bool) (r : Int) (s a b : Int) (bc : Nat) (w : World) (h0 : w.cell? ⟨bc, 0, none⟩ = some (.int .i64 a)) (h1 : w.cell? ⟨bc, 1, none⟩ = some (.int .i64 b)) (ha : 0 ≤ a ∧ a ≤ 1000000) (hb : 0 ≤ b ∧ b ≤ 1000000) (hs : -1099511627776 ≤ s ∧ s ≤ 1099511627776) :
    Calls Try.prog 35 #[.int .i64 (if l1 then 1 else 0), .int .i64 r, .int .i64 s, .pointer (some ⟨bc, 0, none⟩)] w fun e w' => e = .returned (ratV (wtB (if l1 then b else a) r.toNat s)) ∧ Same w w' := by
  have hS1 : Same w (w.alloc (.cells #[.int .i64 0, .int .i64 0] 33)) := (Only.refl _ w).alloc _
  have hA1 := blk_new w (.cells #[.int .i64 0, .int .i64 0] 33)
  have k0 := hS1.cell_eq h0 (fun h => h)
  have k1 := hS1.cell_eq h1 (fun h => h)
  have HS1 := Lib.hid hS1
  clear h0 h1 hS1
  cases l1
  · have hm := mul_rng a s ha hs
    rw [wtB_mk _ _ _ (by show i64in (a * s); unfold i64in; omega)]
    obtain ⟨m, hme⟩ : ∃ m, m = a * s := ⟨_, rfl⟩
    have hw : wrap64 (a * s) = m := by unfold wrap64; omega
    show Calls Try.prog 35 #[.int .i64 0, .int .i64 r, .int .i64 s, .pointer (some ⟨bc, 0, none⟩)] w fun e w' => e = .returned (.agg #[.int .i64 (a * s), .int .i64 1]) ∧ Same w w'
    rw [← hme]
    clear hm hme
    go_enter Try.func35, Try.ntmps35
    go_upto_region 1 with fail
    generalize w.alloc (.cells #[.int .i64 0, .int .i64 0] 33) = w1 at *
    obtain ⟨r0, r1, f0, f1⟩ := two_facts hA1
    have HA1 := Lib.hid hA1
    generalize hz : w.heap.size = z at *
    clear hA1
    go_wp2_with fail
    have hX := blk_set (j := 1) (v := .int .i64 1) (blk_set (j := 0) (v := .int .i64 m) HA1.out)
    refine bodyPost_ret (results_c1 rfl _ _ z 33 _ _ _ rfl hX Try.underlying33 rfl (by kernel_rfl)) rfl ?_
    refine ⟨rfl, HS1.out.trans ((((Only.refl (· = z) w1).setCell (fun _ => rfl) _).setCell (fun _ => rfl) _)) (fun k hk e => by omega)⟩
  · have hm := mul_rng b s hb hs
    rw [wtB_mk _ _ _ (by show i64in (b * s); unfold i64in; omega)]
    obtain ⟨m, hme⟩ : ∃ m, m = b * s := ⟨_, rfl⟩
    have hw : wrap64 (b * s) = m := by unfold wrap64; omega
    show Calls Try.prog 35 #[.int .i64 1, .int .i64 r, .int .i64 s, .pointer (some ⟨bc, 0, none⟩)] w fun e w' => e = .returned (.agg #[.int .i64 (b * s), .int .i64 1]) ∧ Same w w'
    rw [← hme]
    clear hm hme
    go_enter Try.func35, Try.ntmps35
    go_upto_region 1 with fail
    generalize w.alloc (.cells #[.int .i64 0, .int .i64 0] 33) = w1 at *
    obtain ⟨r0, r1, f0, f1⟩ := two_facts hA1
    have HA1 := Lib.hid hA1
    generalize hz : w.heap.size = z at *
    clear hA1
    go_wp2_with fail
    have hX := blk_set (j := 1) (v := .int .i64 1) (blk_set (j := 0) (v := .int .i64 m) HA1.out)
    refine bodyPost_ret (results_c1 rfl _ _ z 33 _ _ _ rfl hX Try.underlying33 rfl (by kernel_rfl)) rfl ?_
    refine ⟨rfl, HS1.out.trans ((((Only.refl (· = z) w1).setCell (fun _ => rfl) _).setCell (fun _ => rfl) _)) (fun k hk e => by omega)⟩
theorem wt_sum_in (m n : Int) (hm : -1099511627776000000 ≤ m ∧ m ≤ 1099511627776000000) (hn : -1099511627776000000 ≤ n ∧ n ≤ 1099511627776000000) : QIn (mkRat m 1 + mkRat n 1) := by
  rw [Rat.mkRat_add_mkRat m n (d₁ := 1) (d₂ := 1) (by omega) (by omega)]
  exact whole_in _ (by unfold i64in; omega)
def okW (a b : Int) : Bool := decide (0 ≤ a) && decide (a ≤ 1000000) && decide (0 ≤ b) && decide (b ≤ 1000000) && (decide (0 < a) || decide (0 < b))
set_option maxRecDepth 100000 in
set_option maxHeartbeats 16000000 in
theorem weights_any (vx vy : Value) (x y : List (Int × Int)) (a b k : Int) (w : World) (hx : SlP w vx x) (hy : SlP w vy y) (ix : I64L x) (iy : I64L y) :
    Calls Try.prog 10 #[vx, vy, .int .i64 a, .int .i64 b, .int .i64 k] w fun e w' => ∃ v l, e = .returned (.tuple #[v, .int .i64 (askedF x y (okW a b) k)]) ∧ Same w w' ∧ w'.ownsRow w.heap.size 35 3 v l.length (cells3 l) ∧ FuR x y (wtB a) (wtB b) k (askedF x y (okW a b) k) l := by
  have C1 := Lib.hid (fun ok => asked_any vx vy x y ok k w hx hy ix iy)
  have HX := Lib.hid hx; have HY := Lib.hid hy; have HIX := Lib.hid ix; have HIY := Lib.hid iy
  obtain ⟨ok, hok⟩ : ∃ ok, ok = okW a b := ⟨_, rfl⟩
  rw [← hok]
  obtain ⟨q, ha⟩ : ∃ q, q = askedF x y ok k := ⟨_, rfl⟩
  rw [← ha]
  have HOK := Lib.hid hok; have HA := Lib.hid ha
  have fin : ∀ w2 : World, Same w w2 → q ≠ 0 → Same w w2 ∧ w2.ownsRow w.heap.size 35 3 (.slice none 0 0) ([] : List VP).length (cells3 []) ∧ FuR x y (wtB a) (wtB b) k q [] :=
    fun w2 h2 h3 => ⟨h2, ⟨by simp [cells3], .inl ⟨rfl, rfl⟩⟩, fun h => absurd h h3, fun _ => rfl⟩
  have FIN := Lib.hid fin
  have hqn : ok = false → q ≠ 0 := fun e h => by rw [HA.out] at h; have := (asked_zero.1 h).2.2.1; rw [e] at this; cases this
  have HQN := Lib.hid hqn
  have hcase : (a < 0 ∧ ok = false) ∨ (0 ≤ a ∧ 1000000 < a ∧ ok = false) ∨ (0 ≤ a ∧ a ≤ 1000000 ∧ b < 0 ∧ ok = false) ∨ (0 ≤ a ∧ a ≤ 1000000 ∧ 0 ≤ b ∧ 1000000 < b ∧ ok = false) ∨ (0 ≤ a ∧ a ≤ 1000000 ∧ 0 ≤ b ∧ b ≤ 1000000 ∧ a ≤ 0 ∧ b ≤ 0 ∧ ok = false) ∨ (0 ≤ a ∧ a ≤ 1000000 ∧ 0 ≤ b ∧ b ≤ 1000000 ∧ a ≤ 0 ∧ 0 < b ∧ ok = true) ∨ (0 ≤ a ∧ a ≤ 1000000 ∧ 0 ≤ b ∧ b ≤ 1000000 ∧ 0 < a ∧ ok = true) := by
    rw [hok]; unfold okW; simp; omega
  clear hx hy ix iy hok ha fin hqn
  rcases hcase with ⟨h1, rfl⟩ | ⟨h1, h2, rfl⟩ | ⟨h1, h2, h3, rfl⟩ | ⟨h1, h2, h3, h4, rfl⟩ | ⟨h1, h2, h3, h4, h5, h6, rfl⟩ | ⟨h1, h2, h3, h4, h5, h6, rfl⟩ | ⟨h1, h2, h3, h4, h5, rfl⟩
  · have hd1 : decide (0 ≤ a) = false := decide_eq_false (by omega)
    have HN : Hid (q ≠ 0) := Lib.hid (HQN.out rfl)
    have hqe : (q != 0) = true := by simpa using HN.out
    clear h1
    go_enter Try.func10, Try.ntmps10
    go_wp2_with fail
    refine (C1.out _).mono ?_
    rintro e w2 ⟨rfl, hS2⟩
    rw [← HA.out]
    have HS2 := Lib.hid hS2
    clear hS2
    go_wp2_with fail
    go_ret2
    exact ⟨_, [], rfl, FIN.out w2 HS2.out HN.out⟩
  · have hd1 : decide (0 ≤ a) = true := decide_eq_true (by omega)
    have hd2 : decide (a ≤ 1000000) = false := decide_eq_false (by omega)
    have HN : Hid (q ≠ 0) := Lib.hid (HQN.out rfl)
    have hqe : (q != 0) = true := by simpa using HN.out
    clear h1 h2
    go_enter Try.func10, Try.ntmps10
    go_wp2_with fail
    refine (C1.out _).mono ?_
    rintro e w2 ⟨rfl, hS2⟩
    rw [← HA.out]
    have HS2 := Lib.hid hS2
    clear hS2
    go_wp2_with fail
    go_ret2
    exact ⟨_, [], rfl, FIN.out w2 HS2.out HN.out⟩
  · have hd1 : decide (0 ≤ a) = true := decide_eq_true (by omega)
    have hd2 : decide (a ≤ 1000000) = true := decide_eq_true (by omega)
    have hd3 : decide (0 ≤ b) = false := decide_eq_false (by omega)
    have HN : Hid (q ≠ 0) := Lib.hid (HQN.out rfl)
    have hqe : (q != 0) = true := by simpa using HN.out
    clear h1 h2 h3
    go_enter Try.func10, Try.ntmps10
    go_wp2_with fail
    refine (C1.out _).mono ?_
    rintro e w2 ⟨rfl, hS2⟩
    rw [← HA.out]
    have HS2 := Lib.hid hS2
    clear hS2
    go_wp2_with fail
    go_ret2
    exact ⟨_, [], rfl, FIN.out w2 HS2.out HN.out⟩
  · have hd1 : decide (0 ≤ a) = true := decide_eq_true (by omega)
    have hd2 : decide (a ≤ 1000000) = true := decide_eq_true (by omega)
    have hd3 : decide (0 ≤ b) = true := decide_eq_true (by omega)
    have hd4 : decide (b ≤ 1000000) = false := decide_eq_false (by omega)
    have HN : Hid (q ≠ 0) := Lib.hid (HQN.out rfl)
    have hqe : (q != 0) = true := by simpa using HN.out
    clear h1 h2 h3 h4
    go_enter Try.func10, Try.ntmps10
    go_wp2_with fail
    refine (C1.out _).mono ?_
    rintro e w2 ⟨rfl, hS2⟩
    rw [← HA.out]
    have HS2 := Lib.hid hS2
    clear hS2
    go_wp2_with fail
    go_ret2
    exact ⟨_, [], rfl, FIN.out w2 HS2.out HN.out⟩
  · have hd1 : decide (0 ≤ a) = true := decide_eq_true (by omega)
    have hd2 : decide (a ≤ 1000000) = true := decide_eq_true (by omega)
    have hd3 : decide (0 ≤ b) = true := decide_eq_true (by omega)
    have hd4 : decide (b ≤ 1000000) = true := decide_eq_true (by omega)
    have hd5 : decide (0 < a) = false := decide_eq_false (by omega)
    have hd6 : decide (0 < b) = false := decide_eq_false (by omega)
    have HN : Hid (q ≠ 0) := Lib.hid (HQN.out rfl)
    have hqe : (q != 0) = true := by simpa using HN.out
    clear h1 h2 h3 h4 h5 h6
    go_enter Try.func10, Try.ntmps10
    go_wp2_with fail
    refine (C1.out _).mono ?_
    rintro e w2 ⟨rfl, hS2⟩
    rw [← HA.out]
    have HS2 := Lib.hid hS2
    clear hS2
    go_wp2_with fail
    go_ret2
    exact ⟨_, [], rfl, FIN.out w2 HS2.out HN.out⟩
  · have hd1 : decide (0 ≤ a) = true := decide_eq_true (by omega)
    have hd2 : decide (a ≤ 1000000) = true := decide_eq_true (by omega)
    have hd3 : decide (0 ≤ b) = true := decide_eq_true (by omega)
    have hd4 : decide (b ≤ 1000000) = true := decide_eq_true (by omega)
    have hd5 : decide (0 < a) = false := decide_eq_false (by omega)
    have hd6 : decide (0 < b) = true := decide_eq_true (by omega)
    by_cases hq0 : q = 0
    rotate_left
    · have hqe : (q != 0) = true := by simpa using hq0
      have HN : Hid (q ≠ 0) := Lib.hid hq0
      clear hq0 h1 h2 h3 h4 h5 h6
      go_enter Try.func10, Try.ntmps10
      go_wp2_with fail
      refine (C1.out _).mono ?_
      rintro e w2 ⟨rfl, hS2⟩
      rw [← HA.out]
      have HS2 := Lib.hid hS2
      clear hS2
      go_wp2_with fail
      go_ret2
      exact ⟨_, [], rfl, FIN.out w2 HS2.out HN.out⟩
    · obtain ⟨hrx, hry, _, hk1, hk2⟩ := asked_zero.1 (HA.out.symm.trans hq0)
      have CF := Lib.hid (fun bc w0 (h : Same w w0) (g0 : w0.cell? ⟨bc, 0, none⟩ = some (.int .i64 a)) (g1 : w0.cell? ⟨bc, 1, none⟩ = some (.int .i64 b)) => fusedW_any vx vy x y k (wtB a) (wtB b) bc w0 (HX.out.same h) (HY.out.same h) hrx.1 hry.1 hrx.2.2 hry.2.2 HIX.out HIY.out ⟨hk1, hk2⟩
        (fun w3 g3 i hi => by
          have := weights1_any false ((i : Int) + 1) x[i].2 a b bc w3 (g3.cell_eq g0 (fun h => h)) (g3.cell_eq g1 (fun h => h)) ⟨h1, h2⟩ ⟨h3, h4⟩ (hrx.2.1 _ (List.getElem_mem hi))
          rwa [show ((i : Int) + 1).toNat = i + 1 by omega] at this)
        (fun w3 g3 i hi => by
          have := weights1_any true ((i : Int) + 1) y[i].2 a b bc w3 (g3.cell_eq g0 (fun h => h)) (g3.cell_eq g1 (fun h => h)) ⟨h1, h2⟩ ⟨h3, h4⟩ (hry.2.1 _ (List.getElem_mem hi))
          rwa [show ((i : Int) + 1).toNat = i + 1 by omega] at this)
        (fun i j hi hj => by
          have e1 := mul_rng a _ ⟨h1, h2⟩ (hrx.2.1 _ (List.getElem_mem hi))
          have e2 := mul_rng b _ ⟨h3, h4⟩ (hry.2.1 _ (List.getElem_mem hj))
          unfold wtB
          rw [qmk_val (whole_in _ (by unfold i64in; omega)), qmk_val (whole_in _ (by unfold i64in; omega))]
          exact wt_sum_in _ _ e1 e2))
      subst hq0
      clear hrx hry hk1 hk2 h1 h2 h3 h4 h5 h6
      go_enter Try.func10, Try.ntmps10
      go_wp2_with fail
      refine (C1.out _).mono ?_
      rintro e w2 ⟨rfl, hS2⟩
      rw [← HA.out]
      have HS2 := Lib.hid hS2
      clear hS2
      go_upto_region 6 with fail
      have hS3 : Same w2 (w2.alloc (.cells #[.int .i64 a, .int .i64 b] 81)) := (Only.refl (fun _ => False) w2).alloc _
      obtain ⟨p0, p1, _, _⟩ := two_facts (blk_new w2 (.cells #[.int .i64 a, .int .i64 b] 81))
      have HS3 := Lib.hid (HS2.out.then hS3); have HP := Lib.hid (And.intro p0 p1)
      clear hS3 p0 p1
      generalize w2.alloc (.cells #[.int .i64 a, .int .i64 b] 81) = w3 at *
      go_wp2_with fail
      refine (CF.out _ _ HS3.out HP.out.1 HP.out.2).mono ?_
      rintro e w4 ⟨v, F, rfl, hS4, hF, hown⟩
      have HS4 := Lib.hid hS4; have HF := Lib.hid hF
      have HOW := Lib.hid (own_lo hown HS3.out.size)
      clear hS4 hF hown
      go_wp2_with fail
      go_ret2
      exact ⟨_, _, rfl, HS3.out.then HS4.out, HOW.out, fun _ => ⟨F, HF.out, rfl⟩, fun h => absurd rfl h⟩
  · have hd1 : decide (0 ≤ a) = true := decide_eq_true (by omega)
    have hd2 : decide (a ≤ 1000000) = true := decide_eq_true (by omega)
    have hd3 : decide (0 ≤ b) = true := decide_eq_true (by omega)
    have hd4 : decide (b ≤ 1000000) = true := decide_eq_true (by omega)
    have hd5 : decide (0 < a) = true := decide_eq_true (by omega)
    by_cases hq0 : q = 0
    rotate_left
    · have hqe : (q != 0) = true := by simpa using hq0
      have HN : Hid (q ≠ 0) := Lib.hid hq0
      clear hq0 h1 h2 h3 h4 h5
      go_enter Try.func10, Try.ntmps10
      go_wp2_with fail
      refine (C1.out _).mono ?_
      rintro e w2 ⟨rfl, hS2⟩
      rw [← HA.out]
      have HS2 := Lib.hid hS2
      clear hS2
      go_wp2_with fail
      go_ret2
      exact ⟨_, [], rfl, FIN.out w2 HS2.out HN.out⟩
    · obtain ⟨hrx, hry, _, hk1, hk2⟩ := asked_zero.1 (HA.out.symm.trans hq0)
      have CF := Lib.hid (fun bc w0 (h : Same w w0) (g0 : w0.cell? ⟨bc, 0, none⟩ = some (.int .i64 a)) (g1 : w0.cell? ⟨bc, 1, none⟩ = some (.int .i64 b)) => fusedW_any vx vy x y k (wtB a) (wtB b) bc w0 (HX.out.same h) (HY.out.same h) hrx.1 hry.1 hrx.2.2 hry.2.2 HIX.out HIY.out ⟨hk1, hk2⟩
        (fun w3 g3 i hi => by
          have := weights1_any false ((i : Int) + 1) x[i].2 a b bc w3 (g3.cell_eq g0 (fun h => h)) (g3.cell_eq g1 (fun h => h)) ⟨h1, h2⟩ ⟨h3, h4⟩ (hrx.2.1 _ (List.getElem_mem hi))
          rwa [show ((i : Int) + 1).toNat = i + 1 by omega] at this)
        (fun w3 g3 i hi => by
          have := weights1_any true ((i : Int) + 1) y[i].2 a b bc w3 (g3.cell_eq g0 (fun h => h)) (g3.cell_eq g1 (fun h => h)) ⟨h1, h2⟩ ⟨h3, h4⟩ (hry.2.1 _ (List.getElem_mem hi))
          rwa [show ((i : Int) + 1).toNat = i + 1 by omega] at this)
        (fun i j hi hj => by
          have e1 := mul_rng a _ ⟨h1, h2⟩ (hrx.2.1 _ (List.getElem_mem hi))
          have e2 := mul_rng b _ ⟨h3, h4⟩ (hry.2.1 _ (List.getElem_mem hj))
          unfold wtB
          rw [qmk_val (whole_in _ (by unfold i64in; omega)), qmk_val (whole_in _ (by unfold i64in; omega))]
          exact wt_sum_in _ _ e1 e2))
      subst hq0
      clear hrx hry hk1 hk2 h1 h2 h3 h4 h5
      go_enter Try.func10, Try.ntmps10
      go_wp2_with fail
      refine (C1.out _).mono ?_
      rintro e w2 ⟨rfl, hS2⟩
      rw [← HA.out]
      have HS2 := Lib.hid hS2
      clear hS2
      go_upto_region 6 with fail
      have hS3 : Same w2 (w2.alloc (.cells #[.int .i64 a, .int .i64 b] 81)) := (Only.refl (fun _ => False) w2).alloc _
      obtain ⟨p0, p1, _, _⟩ := two_facts (blk_new w2 (.cells #[.int .i64 a, .int .i64 b] 81))
      have HS3 := Lib.hid (HS2.out.then hS3); have HP := Lib.hid (And.intro p0 p1)
      clear hS3 p0 p1
      generalize w2.alloc (.cells #[.int .i64 a, .int .i64 b] 81) = w3 at *
      go_wp2_with fail
      refine (CF.out _ _ HS3.out HP.out.1 HP.out.2).mono ?_
      rintro e w4 ⟨v, F, rfl, hS4, hF, hown⟩
      have HS4 := Lib.hid hS4; have HF := Lib.hid hF
      have HOW := Lib.hid (own_lo hown HS3.out.size)
      clear hS4 hF hown
      go_wp2_with fail
      go_ret2
      exact ⟨_, _, rfl, HS3.out.then HS4.out, HOW.out, fun _ => ⟨F, HF.out, rfl⟩, fun h => absurd rfl h⟩
end Go.Proofs.Ytpgbnjneoejebaa
