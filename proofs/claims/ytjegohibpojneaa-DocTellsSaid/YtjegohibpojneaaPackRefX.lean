import Derived.Test.YtjegohibpojneaaPackNum
import Derived.Test.YtjegohibpojneaaPackRefR
import Derived.Test.YtjegohibpojneaaPackRefS
import Derived.Deep.Cut
set_option linter.unusedVariables false
set_option linter.unusedSimpArgs false
namespace Go.Proofs.Ytjegohibpojneaa
open Go.RowKit

theorem wrap_two (a b : Nat) (ha : a < 2147483648) (hb : b ≤ 1) : wrap64 ((a : Int) * 2 + (b : Int)) = ((b + 2 * a : Nat) : Int) := by unfold wrap64; omega
set_option maxHeartbeats 4000000 in
set_option maxRecDepth 100000 in
theorem rtf2_fr (st : RS) (wd_ n : Int) (w : World) (hlen : (st.getD []).length ≤ 1000000000000) :
    Calls Try.prog 94 #[rdV st, .int .i64 wd_, .int .i64 n] w fun e w' => ∃ v, e = .returned (.tuple #[rdV (fixR st wd_ n).2, v]) ∧ Same w w' ∧ SlF w' w.heap.size v (fixR st wd_ n).1 := by
  have hb := fun o => blk2 w o (.cells #[.string ⟨#[]⟩, .bool false] 156)
  have HB := Lib.hid hb
  clear hb
  by_cases hg : wd_ < 0 ∨ 32 < wd_ ∨ n < 0 ∨ 65536 < n
  · have HE : Hid (fixR st wd_ n = ([], none)) := Lib.hid (by unfold fixR; rw [if_pos hg])
    have hcase : wd_ < 0 ∨ (¬ wd_ < 0 ∧ 32 < wd_) ∨ (¬ wd_ < 0 ∧ ¬ 32 < wd_ ∧ n < 0) ∨ (¬ wd_ < 0 ∧ ¬ 32 < wd_ ∧ ¬ n < 0 ∧ 65536 < n) := by omega
    clear hg
    rcases hcase with g1 | ⟨g1, g2⟩ | ⟨g1, g2, g3⟩ | ⟨g1, g2, g3, g4⟩
    all_goals
      go_enter Try.func94, Try.ntmps94
      go_wp2_with (go_at_call 142; refine (rfail2_any _).mono ?_; rintro e w2 ⟨rfl, hS2⟩; have hb2 := hS2.heap (HB.out _) (fun h => h); obtain ⟨m0, m1, m2, m3⟩ := pair_facts hb2)
      have hfin := pair_set hb2 (.string (str [])) (.bool true)
      (try simp only [Exit.inBlock, Exit.then])
      refine bodyPost_ret (results_ct rfl _ _ _ _ _ _ _ rfl hfin Try.underlying156 rfl (by kernel_rfl)) rfl ?_
      rw [HE.out]
      exact ⟨_, rfl, ((((((Only.refl (fun _ => False) w).alloc _).alloc _).then hS2).setCell (fun h => absurd h (by simp)) _).setCell (fun h => absurd h (by simp)) _), SlF.nil _ _⟩
  · obtain ⟨wn, rfl⟩ := Int.eq_ofNat_of_zero_le (show 0 ≤ wd_ by omega)
    obtain ⟨nn, rfl⟩ := Int.eq_ofNat_of_zero_le (show 0 ≤ n by omega)
    have hw32 : wn ≤ 32 := by omega
    have hn64 : nn ≤ 65536 := by omega
    have hmul : (wn : Int) * (nn : Int) = ((wn * nn : Nat) : Int) := by simp
    have hb1 : wn * nn ≤ 32 * 65536 := Nat.mul_le_mul hw32 hn64
    have hfr : fixR st wn nn = match (bytesS st (((wn : Int) * nn + 7) / 8)).2 with
      | none => ([], none)
      | some r => if padBad (bytesS st (((wn : Int) * nn + 7) / 8)).1 (wn * nn) then ([], none) else ((List.range nn).map fun i => (numAt (bytesS st (((wn : Int) * nn + 7) / 8)).1 (wn * i) wn : Int), some r) := by
      unfold fixR; rw [if_neg hg, hmul]; simp only [Int.toNat_natCast]
      generalize bytesS st _ = B0
      obtain ⟨t0, s0⟩ := B0
      cases s0 <;> rfl
    have hcb := fun w0 => rbytes2_any st (((wn : Int) * nn + 7) / 8) w0 hlen
    have hsome := fun t r => bytesS_some (st := st) (n := ((wn : Int) * nn + 7) / 8) (t := t) (r := r)
    generalize hBB : bytesS st (((wn : Int) * nn + 7) / 8) = B at *
    obtain ⟨t, st'⟩ := B
    simp only at hfr hcb
    have HCB := Lib.hid hcb; have HFR := Lib.hid hfr; have HSM := Lib.hid hsome; have HM := Lib.hid hmul
    clear hcb hfr hsome hBB hmul hg
    cases st' with
    | none =>
      simp only [Option.getD_none, Option.isNone_none] at *
      go_enter Try.func94, Try.ntmps94
      go_wp2_with (first | (go_at_call 143; refine (HCB.out _).mono ?_; rintro e w1 ⟨rfl, hS1⟩) | (go_at_call 142; refine (rfail2_any _).mono ?_; rintro e w2 ⟨rfl, hS2⟩; have hb2 := hS2.heap (((Only.refl (fun _ => False) w1).alloc _).heap (hS1.heap (HB.out _) (fun h => h)) (fun h => h)) (fun h => h); obtain ⟨m0, m1, m2, m3⟩ := pair_facts hb2))
      have hfin := pair_set hb2 (.string (str [])) (.bool true)
      (try simp only [Exit.inBlock, Exit.then])
      refine bodyPost_ret (results_ct rfl _ _ _ _ _ _ _ rfl hfin Try.underlying156 rfl (by kernel_rfl)) rfl ?_
      rw [HFR.out]
      exact ⟨_, rfl, ((((((((Only.refl (fun _ => False) w).alloc _).alloc _).then hS1).alloc _).then hS2).setCell (fun h => absurd h (by simp)) _).setCell (fun h => absurd h (by simp)) _), SlF.nil _ _⟩
    | some r =>
      obtain ⟨hs1, hs2, lst, rfl, hs3⟩ := HSM.out t r rfl
      simp only at HFR
      have htl : t.length = (wn * nn + 7) / 8 := by have := HM.out; rw [this] at hs2; omega
      have HTL := Lib.hid htl
      clear hs1 hs2 hs3 HSM htl
      have hst := str_size t
      simp only [Option.getD_some, Option.isNone_some] at *
      go_enter Try.func94, Try.ntmps94
      go_upto_region 6 with (go_at_call 143; refine (HCB.out _).mono ?_; rintro e w1 ⟨rfl, hS1⟩; have hs1 := hS1.size; rw [World.size_alloc, World.size_alloc] at hs1; have hbR := hS1.heap (HB.out _) (fun h => h))
      obtain ⟨W0, hW0⟩ : ∃ W0, W0 = w1.alloc (.cells #[.string (str r), .bool false] 156) := ⟨_, rfl⟩
      rw [← hW0]
      have hSW : Same w W0 := by rw [hW0]; exact ((((Only.refl (fun _ => False) w).alloc _).alloc _).then hS1).alloc _
      have hb8 : W0.heap[w1.heap.size]? = some (.cells #[.string (str r), .bool false] 156 (0, 0)) := by rw [hW0]; exact blk_new _ _
      have hbR0 : W0.heap[w.heap.size + 1]? = some (.cells #[.string ⟨#[]⟩, .bool false] 156 (0, 0)) := by rw [hW0]; exact blk_old _ hbR
      have hsz0 : W0.heap.size = w1.heap.size + 1 := by rw [hW0, World.size_alloc]
      have HSW := Lib.hid hSW; have HB8 := Lib.hid hb8; have HBR := Lib.hid hbR0; have HSZ := Lib.hid hsz0; have HS1 := Lib.hid hs1
      clear hSW hb8 hbR0 hsz0 hbR hS1 hW0 hs1
      go_cut [10] from 12 (fun s10 wx => wx = W0 ∧ s10 = .slice none 0 0)
      case first =>
        go_wp2
        go_meet
        case rel => exact ⟨rfl, rfl⟩
      case rest =>
      obtain ⟨hcut, rfl⟩ := hcut
      rw [hcut]
      clear hcut HCB HB
      go_wp2_with fail
      go_loopw [10, 11] (fun ov i wr => ∃ k : Nat, k ≤ nn ∧ i = .int .i64 k ∧ Only (fun k => W0.heap.size ≤ k) W0 wr ∧ wr.ownsRow W0.heap.size 3 1 ov k (((List.range k).map fun i => (numAt t (wn * i) wn : Int)).map num)) (fun _ i _ => nn - (intOf i).toNat)
      case atStart => exact ⟨0, by omega, rfl, Only.refl _ _, World.ownsRow_nil _ _ _ _⟩
      case round =>
        obtain ⟨k, hk, rfl, hO, hown⟩ := hrel
        have HO := Lib.hid hO; have HW := Lib.hid hown
        clear hO hown
        by_cases hlt : k < nn
        · go_wp2_with fail
          have hA : wn * k + wn ≤ wn * nn := by
            have : wn * (k + 1) ≤ wn * nn := Nat.mul_le_mul (Nat.le_refl _) hlt
            rw [Nat.mul_add] at this; omega
          have hkm : (k : Int) * (wn : Int) = ((wn * k : Nat) : Int) := by rw [Int.mul_comm]; simp
          go_loop [12, 13, 14] (fun v k13 _ => ∃ j : Nat, j ≤ wn ∧ k13 = .int .i64 ((j : Int) - 1) ∧ v = .int .i64 ((numAt t (wn * k + j) (wn - j) : Nat) : Int)) (fun _ k13 _ => (intOf k13 + 1).toNat)
          case atStart => exact ⟨wn, by omega, rfl, by rw [Nat.sub_self]; rfl⟩
          case round =>
            obtain ⟨j, hj, rfl, rfl⟩ := hrel
            by_cases hj0 : 0 < j
            · obtain ⟨m, rfl⟩ : ∃ m, j = m + 1 := ⟨j - 1, by omega⟩
              have e0 : ((m + 1 : Nat) : Int) - 1 = (m : Int) := by omega
              have hfront := numAt_front t (wn * k + m) (wn - (m + 1))
              rw [show wn - (m + 1) + 1 = wn - m by omega, show wn * k + m + 1 = wn * k + (m + 1) by omega] at hfront
              have ha := numAt_lt t (wn * k + (m + 1)) (wn - (m + 1))
              have ha2 : 2 ^ (wn - (m + 1)) ≤ 2 ^ 31 := Nat.pow_le_pow_right (by omega) (by omega)
              generalize numAt t (wn * k + (m + 1)) (wn - (m + 1)) = a at *
              have ha3 : a < 2147483648 := by omega
              clear ha ha2
              obtain ⟨p, hp⟩ : ∃ p, wn * k + m = p := ⟨_, rfl⟩
              have hidx : p / 8 < t.length := by have := HTL.out; omega
              have hidx2 : p / 8 < (str t).size := by rw [hst]; exact hidx
              have hgd : t.getD (p / 8) 0 = (str t)[p / 8]'hidx2 := by rw [List.getD_eq_getElem?_getD, List.getElem?_eq_getElem hidx]; rfl
              have hbt : (bitAt t p).toNat = ((str t)[p / 8]'hidx2).toNat / 2 ^ (p % 8) % 2 := by unfold bitAt; rw [hgd, Nat.toNat_testBit]
              rw [hp] at hfront
              have hbb : (bitAt t p).toNat ≤ 1 := Bool.toNat_le _
              generalize (bitAt t p).toNat = bt at *
              have hxl : ((str t)[p / 8]'hidx2).toNat < 256 := UInt8.toNat_lt _
              have em : Int.tmod ((((str t)[p / 8]'hidx2).toNat : Int) / 2 ^ (p % 8)) 2 = (bt : Int) := by
                have e : ((((str t)[p / 8]'hidx2).toNat : Nat) : Int) / 2 ^ (p % 8) = ((((str t)[p / 8]'hidx2).toNat / 2 ^ (p % 8) : Nat) : Int) := by simp
                rw [e, hbt]
                clear e
                generalize ((str t)[p / 8]'hidx2).toNat / 2 ^ (p % 8) = y at *
                rw [Int.tmod_eq_emod_of_nonneg (Int.natCast_nonneg _)]; omega
              have em2 : Int.tmod (wrap64 ((((str t)[p / 8]'hidx2).toNat : Int) / 2 ^ (p % 8))) 2 = (bt : Int) := by
                have e : ((((str t)[p / 8]'hidx2).toNat : Nat) : Int) / 2 ^ (p % 8) = ((((str t)[p / 8]'hidx2).toNat / 2 ^ (p % 8) : Nat) : Int) := by simp
                have hle : ((str t)[p / 8]'hidx2).toNat / 2 ^ (p % 8) ≤ ((str t)[p / 8]'hidx2).toNat := Nat.div_le_self _ _
                have ew : wrap64 ((((str t)[p / 8]'hidx2).toNat : Int) / 2 ^ (p % 8)) = (((str t)[p / 8]'hidx2).toNat : Int) / 2 ^ (p % 8) := by
                  rw [e]; clear e em
                  generalize ((str t)[p / 8]'hidx2).toNat / 2 ^ (p % 8) = y at *
                  unfold wrap64; omega
                rw [ew]; exact em
              have eat : (k : Int) * (wn : Int) + (m : Int) = (p : Int) := by rw [hkm]; omega
              have e1 : IntKind.i64.wrap ((p : Int) / 8) = (p : Int) / 8 := by rw [IntKind.wrap_i64]; omega
              have e5 : ((p : Int) / 8).toNat = p / 8 := by omega
              have e6 : ((p : Int) % 8).toNat = p % 8 := by omega
              have e7 : (p : Int).tmod 8 = ((p % 8 : Nat) : Int) := by rw [Int.tmod_eq_emod_of_nonneg (by omega)]; omega
              have hbd : (p : Int) / 8 < t.length ∧ 0 ≤ (p : Int) / 8 := by omega
              have hp2 : p < 2097152 + 1 := by omega
              have HP := Lib.hid hp; have HFT := Lib.hid hfront
              have hkw : k * wn ≤ 2097152 := by rw [Nat.mul_comm]; omega
              have HKM := Lib.hid hkm
              clear hp hfront hgd hbt hkm
              rw [e0]
              go_wp2_with fail
              refine ⟨⟨m, by omega, rfl, ?_⟩, by simp [intOf]⟩
              rw [HP.out, HFT.out]
              congr 1
              exact wrap_two a bt ha3 hbb
            · obtain rfl : j = 0 := by omega
              rw [Nat.add_zero, Nat.sub_zero]
              have HA := Lib.hid hA; have HKM := Lib.hid hkm
              clear hA hkm
              go_wp2_with (at_builtin; refine app_one [.int .i64 ((numAt t (wn * k) wn : Nat) : Int)] rfl (.tmp 73) (.tmp 75) 23 rfl W0.heap.size 3 (.int .i64 0) 1 8 Try.underlying23 (by kernel_rfl) rfl (by decide) _ k _ rfl HW.out rfl ?_ ?c1 ?c2 ?c3 ?c4 ?c5; intro v' w5 hown5 hO5)
              (try case c1 => rfl)
              case c2 => first | rfl | (intro u hu; simp at hu; subst hu; rfl)
              case c3 => unfold maxLen; omega
              case c4 => omega
              case c5 => exact HO.out.size
              refine ⟨⟨k + 1, by omega, by go_num, HO.out.same hO5, ?_⟩, by simp [intOf]; omega⟩
              rw [List.range_succ]
              simpa using hown5
        · obtain rfl : k = nn := by omega
          clear hlt
          have hS2 : Same w wr := (HSW.out).trans HO.out (fun g hg hge => by have := HSW.out.size; omega)
          have hb8 : wr.heap[w1.heap.size]? = some (.cells #[.string (str r), .bool false] 156 (0, 0)) := HO.out.heap HB8.out (by have := HSZ.out; omega)
          have hbR : wr.heap[w.heap.size + 1]? = some (.cells #[.string ⟨#[]⟩, .bool false] 156 (0, 0)) := HO.out.heap HBR.out (by have := HSZ.out; have := HS1.out; omega)
          have HSO := Lib.hid hS2; have HB82 := Lib.hid hb8; have HBR2 := Lib.hid hbR
          clear hS2 hb8 hbR
          have hq8 : wn * k ≤ 8 * t.length := by have := HTL.out; omega
          have htl2 : t.length ≤ 300000 := by have := HTL.out; omega
          go_wp2_with fail
          go_loopw [15] (fun at_ wx => ∃ p : Nat, wn * k ≤ p ∧ p ≤ 8 * t.length ∧ at_ = .int .i64 p ∧ wx = wr ∧ ∀ q, wn * k ≤ q → q < p → bitAt t q = false) (fun at_ _ => 8 * t.length - (intOf at_).toNat)
          case atStart => exact ⟨wn * k, by omega, hq8, by first | rfl | (rw [HM.out]), rfl, fun q h1 h2 => absurd h1 (by omega)⟩
          case round =>
            obtain ⟨p, hp1, hp2, rfl, rfl, hno⟩ := hrel
            have HNO := Lib.hid hno; have HP1 := Lib.hid hp1
            clear hno
            by_cases hlt : p < 8 * t.length
            · have hidx : p / 8 < t.length := by omega
              have hidx2 : p / 8 < (str t).size := by rw [hst]; exact hidx
              have hgd : t.getD (p / 8) 0 = (str t)[p / 8]'hidx2 := by rw [List.getD_eq_getElem?_getD, List.getElem?_eq_getElem hidx]; rfl
              have hbt : (bitAt t p).toNat = ((str t)[p / 8]'hidx2).toNat / 2 ^ (p % 8) % 2 := by unfold bitAt; rw [hgd, Nat.toNat_testBit]
              have hxl : ((str t)[p / 8]'hidx2).toNat < 256 := UInt8.toNat_lt _
              have em : Int.tmod ((((str t)[p / 8]'hidx2).toNat : Int) / 2 ^ (p % 8)) 2 = (((bitAt t p).toNat : Nat) : Int) := by
                have e : ((((str t)[p / 8]'hidx2).toNat : Nat) : Int) / 2 ^ (p % 8) = ((((str t)[p / 8]'hidx2).toNat / 2 ^ (p % 8) : Nat) : Int) := by simp
                rw [e, hbt]
                clear e
                generalize ((str t)[p / 8]'hidx2).toNat / 2 ^ (p % 8) = y at *
                rw [Int.tmod_eq_emod_of_nonneg (Int.natCast_nonneg _)]; omega
              have e1 : IntKind.i64.wrap ((p : Int) / 8) = (p : Int) / 8 := by rw [IntKind.wrap_i64]; omega
              have e5 : ((p : Int) / 8).toNat = p / 8 := by omega
              have e6 : ((p : Int) % 8).toNat = p % 8 := by omega
              have e7 : (p : Int).tmod 8 = ((p % 8 : Nat) : Int) := by rw [Int.tmod_eq_emod_of_nonneg (by omega)]; omega
              have hbd : (p : Int) / 8 < t.length ∧ 0 ≤ (p : Int) / 8 := by omega
              clear hgd hbt
              cases hb : bitAt t p
              · rw [hb] at em
                have HBT := Lib.hid hb
                clear hb
                go_wp2_with fail
                refine ⟨⟨p + 1, by omega, by omega, by go_num, by first | trivial | rfl, fun q h1 h2 => ?_⟩, by simp [intOf]; omega⟩
                by_cases hq : q = p
                · subst hq; exact HBT.out
                · exact HNO.out q h1 (by omega)
              · rw [hb] at em
                have HBT := Lib.hid hb
                clear hb
                go_wp2_with (go_at_call 142; refine (rfail2_any _).mono ?_; rintro e w2 ⟨rfl, hS2⟩; have hb2 := hS2.heap HBR2.out (fun h => h); obtain ⟨m0, m1, m2, m3⟩ := pair_facts hb2)
                have hfin := pair_set hb2 (.string (str [])) (.bool true)
                (try simp only [Exit.inBlock, Exit.then])
                refine bodyPost_ret (results_ct rfl _ _ _ _ _ _ _ rfl hfin Try.underlying156 rfl (by kernel_rfl)) rfl ?_
                have hpad : padBad t (wn * k) = true := (padBad_iff _ _ HTL.out).2 ⟨p, HP1.out, hlt, HBT.out⟩
                rw [HFR.out, hpad, if_pos rfl]
                exact ⟨_, rfl, (HSO.out.then hS2).put2 (fun h => absurd h (by simp)) _ _, SlF.nil _ _⟩
            · obtain rfl : p = 8 * t.length := by omega
              have hpad : padBad t (wn * k) = false := by
                rw [Bool.eq_false_iff]
                intro hc
                obtain ⟨q, h1, h2, h3⟩ := (padBad_iff _ _ HTL.out).1 hc
                rw [HNO.out q h1 h2] at h3
                cases h3
              have hfr := HFR.out
              rw [hpad, if_neg (by decide)] at hfr
              have HFR2 := Lib.hid hfr
              clear hfr hpad
              obtain ⟨n0, n1, n2, n3⟩ := pair_facts HB82.out
              obtain ⟨m0, m1, m2, m3⟩ := pair_facts HBR2.out
              go_wp2_with fail
              have hfin := pair_set HBR2.out (.string (str r)) (.bool false)
              (try simp only [Exit.inBlock, Exit.then])
              refine bodyPost_ret (results_ct rfl _ _ _ _ _ _ _ rfl hfin Try.underlying156 rfl (by kernel_rfl)) rfl ?_
              rw [HFR2.out]
              exact ⟨_, rfl, HSO.out.put2 (fun h => absurd h (by simp)) _ _, own_sl (own_keep HW.out ((Only.refl (· = w.heap.size + 1) wr).put2 (fun _ => rfl) _ _) (fun g hg e => by have h1 := (HW.out.lt g hg).1; have := HSZ.out; have := HS1.out; omega)), (own_fr HW.out).mono (by have := HSZ.out; have := HS1.out; omega)⟩
theorem rtf2_any (st : RS) (wd_ n : Int) (w : World) (hlen : (st.getD []).length ≤ 1000000000000) :
    Calls Try.prog 94 #[rdV st, .int .i64 wd_, .int .i64 n] w fun e w' => ∃ v, e = .returned (.tuple #[rdV (fixR st wd_ n).2, v]) ∧ Same w w' ∧ Sl w' num v (fixR st wd_ n).1 :=
  (rtf2_fr st wd_ n w hlen).mono fun e w' ⟨v, h1, h2, h3⟩ => ⟨v, h1, h2, h3.1⟩
end Go.Proofs.Ytjegohibpojneaa
