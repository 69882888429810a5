import Derived.Test.YtjegohibpojneaaPackRefF
import Derived.Test.YtjegohibpojneaaPackFix
import Derived.Laws.ResultCell
set_option linter.unusedVariables false
set_option linter.unusedSimpArgs false
namespace Go.Proofs.Ytjegohibpojneaa
open Go.RowKit

/-- A reader by value. -/
abbrev rdV (st : RS) : Value := .agg #[.string (str (st.getD [])), .bool st.isNone]

theorem rfail2_any (w : World) : Calls Try.prog 142 #[] w fun e w' => e = .returned (rdV none) ∧ Same w w' := by
  go_enter Try.func142, Try.ntmps142
  go_wp2
  go_returns
  exact ⟨rfl, by first | exact ((Only.refl _ w).alloc _) | exact (((Only.refl _ w).alloc _).setCell (fun h => absurd h (by simp)) _).setCell (fun h => absurd h (by simp)) _⟩
theorem pair_facts {w : World} {b : Nat} {u v : Value} {t : TypeId} (h : w.heap[b]? = some (.cells #[u, v] t (0, 0))) :
    w.cell? ⟨b, 0, none⟩ = some u ∧ w.cell? ⟨b, 1, none⟩ = some v ∧ w.frozen? ⟨b, 0, none⟩ = false ∧ w.frozen? ⟨b, 1, none⟩ = false := ⟨blk_cells h 0, blk_cells h 1, blk_frozen h 0, blk_frozen h 1⟩
theorem blk2 (w : World) (o o' : Obj) : ((w.alloc o).alloc o').heap[w.heap.size + 1]? = some o' := by
  have := blk_new (w.alloc o) o'
  rwa [World.size_alloc] at this
theorem pair_set {w : World} {b : Nat} {u v : Value} {t : TypeId} (h : w.heap[b]? = some (.cells #[u, v] t (0, 0))) (x y : Value) : ((w.setCell ⟨b, 0, none⟩ x).setCell ⟨b, 1, none⟩ y).heap[b]? = some (.cells #[x, y] t (0, 0)) := by
  have := blk_set (j := 1) (v := y) (blk_set (j := 0) (v := x) h)
  simpa using this
theorem results_ct {P : Program} {fn : Func} {p u : Tmp} {ty : TypeId} (h : fn.results = #[.cell p ty, .tmp u]) (tmps : Array Value) (w : World) (g : Nat) (t : TypeId) (cs : Array Value) (fr : Nat × Nat) (d : TypeDesc)
    (hp : tmps.getD p undef = .pointer (some ⟨g, 0, none⟩)) (hg : w.heap[g]? = some (.cells cs t fr))
    (hu : P.underlying ty = some d) (hd : (match d with | .struct _ | .array _ _ => true | _ => false) = true) (hi : (P.info? ty).map (·.size) = some cs.size) :
    (results fn tmps).run P w = .ok (.tuple #[.agg cs, tmps.getD u undef]) w := by
  rw [results_cell_tmp h, hp]
  simp [asAddr, run_loadVar_row w g t ty cs fr d hg hu hd hi, Result.andThen]
set_option maxRecDepth 100000 in
theorem rbytes2_any (st : RS) (n : Int) (w : World) (hlen : (st.getD []).length ≤ 1000000000000) :
    Calls Try.prog 143 #[rdV st, .int .i64 n] w fun e w' => e = .returned (.tuple #[rdV (bytesS st n).2, .string (str (bytesS st n).1)]) ∧ Same w w' := by
  have hst := str_size (st.getD [])
  cases st with
  | none =>
    go_enter Try.func143, Try.ntmps143
    simp only [Option.getD_none, Option.isNone_none, List.length_nil] at *
    go_wp2_with (go_at_call 142; refine (rfail2_any _).mono ?_; rintro e w1 ⟨rfl, hS⟩; have hb := hS.heap (blk2 w _ _) (fun h => h); obtain ⟨k0, k1, k2, k3⟩ := pair_facts hb)
    have hfin := pair_set hb (.string (str [])) (.bool true)
    (try simp only [Exit.inBlock, Exit.then])
    refine bodyPost_ret (results_ct rfl _ _ _ _ _ _ _ rfl hfin Try.underlying156 rfl (by kernel_rfl)) rfl ?_
    exact ⟨rfl, (((((Only.refl (fun _ => False) w).alloc _).alloc _).then hS).setCell (fun h => absurd h (by simp)) _).setCell (fun h => absurd h (by simp)) _⟩
  | some l =>
    simp only [Option.getD_some, Option.isNone_some] at *
    by_cases hbad : n < 0 ∨ (l.length : Int) < n
    · have e : bytesS (some l) n = ([], none) := by unfold bytesS; simp only; rw [if_pos hbad]
      have HE := Lib.hid e
      clear e
      go_enter Try.func143, Try.ntmps143
      rcases hbad with hn | hn
      all_goals
        go_wp2_with (go_at_call 142; refine (rfail2_any _).mono ?_; rintro e w1 ⟨rfl, hS⟩; have hb := hS.heap (blk2 w _ _) (fun h => h); obtain ⟨k0, k1, k2, k3⟩ := pair_facts hb)
        have hfin := pair_set hb (.string (str [])) (.bool true)
        (try simp only [Exit.inBlock, Exit.then])
        refine bodyPost_ret (results_ct rfl _ _ _ _ _ _ _ rfl hfin Try.underlying156 rfl (by kernel_rfl)) rfl ?_
        rw [HE.out]
        exact ⟨rfl, (((((Only.refl (fun _ => False) w).alloc _).alloc _).then hS).setCell (fun h => absurd h (by simp)) _).setCell (fun h => absurd h (by simp)) _⟩
    · have e : bytesS (some l) n = (l.take n.toNat, some (l.drop n.toNat)) := by unfold bytesS; simp only; rw [if_neg hbad]
      obtain ⟨m, rfl⟩ := Int.eq_ofNat_of_zero_le (show 0 ≤ n by omega)
      rw [Int.toNat_natCast] at e
      have hm : m ≤ l.length := by omega
      have ht := str_take l m
      have hd := str_drop l m l.length (Nat.le_refl _)
      have HE := Lib.hid e
      clear e hbad
      go_enter Try.func143, Try.ntmps143
      go_wp2_with fail
      go_region
      go_wp2
      have hfin := blk2 w (.cells #[.string (str l), .bool false] 156) (.cells #[.string (str (l.drop m)), .bool false] 156)
      (try simp only [Exit.inBlock, Exit.then])
      refine bodyPost_ret (results_ct rfl _ _ _ _ _ _ _ rfl hfin Try.underlying156 rfl (by kernel_rfl)) rfl ?_
      rw [HE.out]
      exact ⟨rfl, (((Only.refl (fun _ => False) w).alloc _).alloc _).drew⟩

theorem wdS_step (k v : Nat) (x : UInt8) (l : List UInt8) (hk : k < 10) : wdS k v (some (x :: l)) = if 128 ≤ x.toNat then (if k = 9 then (0, none) else wdS (k + 1) (v + (x.toNat - 128) * 128 ^ k) (some l)) else if x.toNat = 0 ∧ 0 < k ∨ k = 9 ∧ 1 < x.toNat then (0, none) else (v + x.toNat * 128 ^ k, some l) := by
  conv => lhs; unfold wdS wd
  simp only
  rw [if_neg (by omega)]
  by_cases h1 : 128 ≤ x.toNat
  · rw [if_pos h1, if_pos h1]
    by_cases h2 : k = 9
    · rw [if_pos h2, if_pos h2]
    · rw [if_neg h2, if_neg h2]; rfl
  · rw [if_neg h1, if_neg h1]
    by_cases h2 : x.toNat = 0 ∧ 0 < k ∨ k = 9 ∧ 1 < x.toNat
    · rw [if_pos h2, if_pos h2]
    · rw [if_neg h2, if_neg h2]
set_option maxHeartbeats 2000000 in
set_option maxRecDepth 100000 in
theorem rtake2_any (st : RS) (w : World) (hlen : (st.getD []).length ≤ 1000000000000) :
    Calls Try.prog 141 #[rdV st] w fun e w' => e = .returned (.tuple #[rdV (wordS st).2, .int .u64 (wordS st).1]) ∧ Same w w' := by
  have hst := str_size (st.getD [])
  cases st with
  | none =>
    simp only [Option.getD_none, Option.isNone_none, List.length_nil] at *
    go_enter Try.func141, Try.ntmps141
    go_wp2_with (go_at_call 142; refine (rfail2_any _).mono ?_; rintro e w1 ⟨rfl, hS⟩; have hb := hS.heap (blk2 w _ _) (fun h => h); obtain ⟨k0, k1, k2, k3⟩ := pair_facts hb)
    have hfin := pair_set hb (.string (str [])) (.bool true)
    (try simp only [Exit.inBlock, Exit.then])
    refine bodyPost_ret (results_ct rfl _ _ _ _ _ _ _ rfl hfin Try.underlying156 rfl (by kernel_rfl)) rfl ?_
    exact ⟨rfl, (((((Only.refl (fun _ => False) w).alloc _).alloc _).then hS).setCell (fun h => absurd h (by simp)) _).setCell (fun h => absurd h (by simp)) _⟩
  | some l =>
    simp only [Option.getD_some, Option.isNone_some] at *
    obtain ⟨W, hW⟩ : ∃ W, W = (w.alloc (.cells #[.string (str l), .bool false] 156)).alloc (.cells #[.string ⟨#[]⟩, .bool false] 156) := ⟨_, rfl⟩
    have hb := blk2 w (.cells #[.string (str l), .bool false] 156) (.cells #[.string ⟨#[]⟩, .bool false] 156)
    rw [← hW] at hb
    have ha : W.heap[w.heap.size]? = some (.cells #[.string (str l), .bool false] 156 (0, 0)) := by rw [hW]; exact blk_old _ (blk_new _ _)
    have hSW : Same w W := by rw [hW]; exact ((Only.refl (fun _ => False) w).alloc _).alloc _
    have hsz : W.heap.size = w.heap.size + 2 := by rw [hW, World.size_alloc, World.size_alloc]
    have HA := Lib.hid ha; have HB := Lib.hid hb; have HSW := Lib.hid hSW; have HW := Lib.hid hW; have HSZ := Lib.hid hsz
    clear ha hb hSW hW hsz
    go_enter Try.func141, Try.ntmps141
    go_wp2_with fail
    rw [← HW.out]
    obtain ⟨k0, k1, k2, k3⟩ := pair_facts HB.out
    obtain ⟨j0, j1, j2, j3⟩ := pair_facts HA.out
    go_loop [4, 5, 6] (fun vv un i => ∃ (k v : Nat) (l' : List UInt8), k ≤ 10 ∧ k ≤ l.length ∧ i = .int .i64 k ∧ l.drop k = l' ∧ (∃ z : Int, vv = .int .u64 z) ∧ (∃ z : Int, un = .int .u64 z) ∧
      (k < 10 → vv = .int .u64 v ∧ un = .int .u64 ((128 ^ k : Nat) : Int) ∧ v < 128 ^ k ∧ wdS k v (some l') = wordS (some l)) ∧ (k = 10 → wordS (some l) = (0, none))) (fun _ _ i => 10 - (intOf i).toNat)
    case atStart => exact ⟨0, 0, l, by omega, by omega, rfl, rfl, ⟨0, rfl⟩, ⟨1, rfl⟩, fun _ => ⟨rfl, rfl, by decide, (wordS_eq (some l)).symm⟩, fun h => by omega⟩
    case round =>
      obtain ⟨k, v, l', hk, hkl, rfl, hl', hvz, huz, hin, hten⟩ := hrel
      have hfail : wordS (some l) = (0, none) → ∀ w1, Same W w1 → Same w ((w1.setCell ⟨w.heap.size + 1, 0, none⟩ (.string (str []))).setCell ⟨w.heap.size + 1, 1, none⟩ (.bool true)) := fun _ w1 h1 => ((HSW.out.then h1).setCell (fun h => absurd h (by simp)) _).setCell (fun h => absurd h (by simp)) _
      have HF := Lib.hid hfail; have HT := Lib.hid hten
      clear hfail hten
      by_cases hgo : k < l.length ∧ k < 10
      · obtain ⟨hlt, hk10⟩ := hgo
        obtain ⟨rfl, rfl, hv, heq⟩ := hin hk10
        have hks : k < (str l).size := by rw [hst]; exact hlt
        have hcons : l' = ((str l)[k]'hks) :: l.drop (k + 1) := by rw [← hl', List.drop_eq_getElem_cons hlt]; rfl
        rw [hcons, wdS_step k v _ _ hk10] at heq
        have hxl : ((str l)[k]'hks).toNat < 256 := UInt8.toNat_lt _
        have hcut : (str l).extract (k + 1) l.length = str (l.drop (k + 1)) := str_drop l (k + 1) l.length (Nat.le_refl _)
        have HE := Lib.hid heq; have HCO := Lib.hid hcons
        clear hl' hin hvz huz heq hcons
        generalize hxx : ((str l)[k]'hks).toNat = xn at *
        have HXX := Lib.hid hxx
        by_cases h9 : k = 9 ∧ 1 < xn
        · obtain ⟨rfl, hx1⟩ := h9
          have e : wordS (some l) = (0, none) := by
            rw [← HE.out]
            by_cases h : 128 ≤ xn
            · rw [if_pos h, if_pos rfl]
            · rw [if_neg h, if_pos (Or.inr ⟨rfl, hx1⟩)]
          have HE2 := Lib.hid e
          clear e
          go_wp2_with (go_at_call 142; refine (rfail2_any _).mono ?_; rintro e w1 ⟨rfl, hS⟩; have hb := hS.heap HB.out (fun h => h); obtain ⟨m0, m1, m2, m3⟩ := pair_facts hb)
          have hfin := pair_set hb (.string (str [])) (.bool true)
          (try simp only [Exit.inBlock, Exit.then])
          refine bodyPost_ret (results_ct rfl _ _ _ _ _ _ _ rfl hfin Try.underlying156 rfl (by kernel_rfl)) rfl ?_
          rw [HE2.out]
          exact ⟨rfl, HF.out HE2.out w1 hS⟩
        · have hy1 : xn % 128 * 128 ^ k ≤ 9223372036854775808 ∧ (k < 9 → v + xn % 128 * 128 ^ k < 128 ^ (k + 1)) ∧ v + xn % 128 * 128 ^ k < 18446744073709551616 ∧ 128 ^ k ≤ 9223372036854775808 := by
            have hp : 128 ^ k ≤ 128 ^ 9 := Nat.pow_le_pow_right (by omega) (by omega)
            have hlt9 : k < 9 → v + xn % 128 * 128 ^ k < 128 ^ (k + 1) := by
              intro _
              have : xn % 128 * 128 ^ k ≤ 127 * 128 ^ k := Nat.mul_le_mul (by omega) (Nat.le_refl _)
              rw [Nat.pow_succ]; omega
            rcases Nat.lt_or_ge k 9 with hk9 | hk9
            · have h1 := hlt9 hk9
              have h2 : 128 ^ (k + 1) ≤ 128 ^ 9 := Nat.pow_le_pow_right (by omega) (by omega)
              exact ⟨by omega, hlt9, by omega, by omega⟩
            · obtain rfl : k = 9 := by omega
              have h1 : xn % 128 ≤ 1 := by omega
              have : xn % 128 * 128 ^ 9 ≤ 1 * 128 ^ 9 := Nat.mul_le_mul h1 (Nat.le_refl _)
              exact ⟨by omega, hlt9, by omega, by omega⟩
          obtain ⟨hy, hy2, hy3, hu⟩ := hy1
          have HY2 := Lib.hid hy2
          clear hy2
          have e1 : IntKind.u64.wrap ((xn : Int) % 128 * ((128 ^ k : Nat) : Int)) = ((xn % 128 * 128 ^ k : Nat) : Int) := by
            have e : ((xn : Int) % 128 * ((128 ^ k : Nat) : Int)) = ((xn % 128 * 128 ^ k : Nat) : Int) := by simp
            rw [e, IntKind.wrap_u64]; generalize xn % 128 * 128 ^ k = y at *; omega
          have hpw : 128 ^ (k + 1) = 128 ^ k * 128 := Nat.pow_succ ..
          have e3 : k < 9 → IntKind.u64.wrap (((128 ^ k : Nat) : Int) * 128) = ((128 ^ (k + 1) : Nat) : Int) := by
            intro hk9
            have h2 : 128 ^ (k + 1) ≤ 128 ^ 9 := Nat.pow_le_pow_right (by omega) (by omega)
            rw [hpw, IntKind.wrap_u64]; omega
          have HPW := Lib.hid hpw; have HE3 := Lib.hid e3
          clear hpw e3
          by_cases h128 : 128 ≤ xn
          · have hk9 : k < 9 := by omega
            have heq := HE.out
            rw [if_pos h128, if_neg (by omega), show xn - 128 = xn % 128 by omega] at heq
            have e3 := HE3.out hk9
            have hz := HY2.out hk9
            generalize xn % 128 * 128 ^ k = y at *
            obtain ⟨z, hzz⟩ : ∃ z : Nat, v + y = z := ⟨_, rfl⟩
            have e2 : IntKind.u64.wrap ((v : Int) + (y : Int)) = (z : Int) := by rw [IntKind.wrap_u64]; omega
            rw [hzz] at heq hz
            have HQ := Lib.hid heq; have HZ := Lib.hid hz
            clear heq hz hzz
            obtain ⟨u, hu1⟩ : ∃ u : Nat, 128 ^ k = u := ⟨_, rfl⟩
            obtain ⟨u', hu2⟩ : ∃ u : Nat, 128 ^ (k + 1) = u := ⟨_, rfl⟩
            rw [hu1] at e1 e3 hu ⊢
            rw [hu2] at e3
            have HU2 := Lib.hid hu2; have HU1 := Lib.hid hu1
            clear hu1 hu2
            go_wp2_with fail
            exact ⟨⟨k + 1, z, l.drop (k + 1), by omega, by omega, by go_num, rfl, ⟨_, rfl⟩, ⟨_, rfl⟩, fun _ => ⟨rfl, by rw [HU2.out], HZ.out, HQ.out⟩, fun h => by omega⟩, by simp [intOf]; omega⟩
          · have heq := HE.out
            rw [if_neg h128] at heq
            by_cases hz0 : xn = 0 ∧ 0 < k
            · rw [if_pos (Or.inl hz0)] at heq
              have HE2 := Lib.hid heq.symm
              obtain ⟨hz0, hk0⟩ := hz0
              clear heq
              subst hz0
              have hk9 : k = 9 ∨ k < 9 := by omega
              have e5 : IntKind.u64.wrap (0 * ((128 ^ k : Nat) : Int)) = 0 := by rw [Int.zero_mul]; rfl
              have e6 : IntKind.u64.wrap ((v : Int) + 0) = v := by rw [IntKind.wrap_u64]; omega
              obtain ⟨u, hu1⟩ : ∃ u : Nat, 128 ^ k = u := ⟨_, rfl⟩
              rw [hu1]
              clear e1 hu1 e5 e6
              go_wp2_with (go_at_call 142; refine (rfail2_any _).mono ?_; rintro e w1 ⟨rfl, hS⟩; have hb := hS.heap HB.out (fun h => h); obtain ⟨m0, m1, m2, m3⟩ := pair_facts hb)
              all_goals
                have hfin := pair_set hb (.string (str [])) (.bool true)
                (try simp only [Exit.inBlock, Exit.then])
                refine bodyPost_ret (results_ct rfl _ _ _ _ _ _ _ rfl hfin Try.underlying156 rfl (by kernel_rfl)) rfl ?_
                rw [HE2.out]
                exact ⟨rfl, HF.out HE2.out w1 hS⟩
            · have hb2 : ¬ (xn = 0 ∧ 0 < k ∨ k = 9 ∧ 1 < xn) := by omega
              rw [if_neg hb2] at heq
              obtain ⟨r, hr⟩ : ∃ r, l.drop (k + 1) = r := ⟨_, rfl⟩
              rw [hr] at heq hcut
              clear hr
              have hk1 : (k : Int) + 1 ≤ l.length := by omega
              by_cases hx0 : xn = 0
              · obtain rfl : k = 0 := by omega
                subst hx0
                rw [Nat.zero_mul, Nat.add_zero] at heq
                have HQ := Lib.hid heq
                clear heq e1
                have hcut1 : (str l).extract 1 l.length = str r := hcut
                go_wp2_with fail
                have hfin := pair_set HB.out (.string (str r)) (.bool false)
                (try simp only [Exit.inBlock, Exit.then])
                refine bodyPost_ret (results_ct rfl _ _ _ _ _ _ _ rfl hfin Try.underlying156 rfl (by kernel_rfl)) rfl ?_
                rw [← HQ.out]
                exact ⟨rfl, (HSW.out.setCell (fun h => absurd h (by simp)) _).setCell (fun h => absurd h (by simp)) _⟩
              · rw [show xn * 128 ^ k = xn % 128 * 128 ^ k by rw [Nat.mod_eq_of_lt (by omega)]] at heq
                generalize xn % 128 * 128 ^ k = y at *
                obtain ⟨z, hzz⟩ : ∃ z : Nat, v + y = z := ⟨_, rfl⟩
                have e2 : IntKind.u64.wrap ((v : Int) + (y : Int)) = (z : Int) := by rw [IntKind.wrap_u64]; omega
                rw [hzz] at heq
                have HQ := Lib.hid heq
                clear heq hzz hb2
                obtain ⟨u, hu1⟩ : ∃ u : Nat, 128 ^ k = u := ⟨_, rfl⟩
                rw [hu1] at e1 hu ⊢
                have HU1 := Lib.hid hu1
                clear hu1
                have hxb : ((xn : Int) == 0) = false := by simp; omega
                by_cases hk9 : k = 9
                · subst hk9
                  have hcut9 : (str l).extract 10 l.length = str r := hcut
                  go_wp2_with fail
                  have hfin := pair_set HB.out (.string (str r)) (.bool false)
                  (try simp only [Exit.inBlock, Exit.then])
                  refine bodyPost_ret (results_ct rfl _ _ _ _ _ _ _ rfl hfin Try.underlying156 rfl (by kernel_rfl)) rfl ?_
                  rw [← HQ.out]
                  exact ⟨rfl, (HSW.out.setCell (fun h => absurd h (by simp)) _).setCell (fun h => absurd h (by simp)) _⟩
                · have hkb : ((k : Int) == 9) = false := by simp; omega
                  go_wp2_with fail
                  have hfin := pair_set HB.out (.string (str r)) (.bool false)
                  (try simp only [Exit.inBlock, Exit.then])
                  refine bodyPost_ret (results_ct rfl _ _ _ _ _ _ _ rfl hfin Try.underlying156 rfl (by kernel_rfl)) rfl ?_
                  rw [← HQ.out]
                  exact ⟨rfl, (HSW.out.setCell (fun h => absurd h (by simp)) _).setCell (fun h => absurd h (by simp)) _⟩
      · have e : wordS (some l) = (0, none) := by
          by_cases h10 : k = 10
          · exact HT.out h10
          · obtain ⟨_, _, _, h4⟩ := hin (by omega)
            rw [← h4, ← hl', List.drop_of_length_le (by omega)]
            unfold wdS wd
            rfl
        have HE2 := Lib.hid e
        have hgo2 : k = l.length ∨ (k = 10 ∧ k < l.length) := by omega
        clear e hin hl'
        obtain ⟨z1, rfl⟩ := hvz
        obtain ⟨z2, rfl⟩ := huz
        rcases hgo2 with rfl | ⟨rfl, hlt⟩
        all_goals
          go_wp2_with (go_at_call 142; refine (rfail2_any _).mono ?_; rintro e w1 ⟨rfl, hS⟩; have hb := hS.heap HB.out (fun h => h); obtain ⟨m0, m1, m2, m3⟩ := pair_facts hb)
          have hfin := pair_set hb (.string (str [])) (.bool true)
          (try simp only [Exit.inBlock, Exit.then])
          refine bodyPost_ret (results_ct rfl _ _ _ _ _ _ _ rfl hfin Try.underlying156 rfl (by kernel_rfl)) rfl ?_
          rw [HE2.out]
          exact ⟨rfl, HF.out HE2.out w1 hS⟩
end Go.Proofs.Ytjegohibpojneaa
