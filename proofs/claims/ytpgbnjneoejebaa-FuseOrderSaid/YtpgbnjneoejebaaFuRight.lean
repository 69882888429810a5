import Derived.Test.YtpgbnjneoejebaaIPlain
import Derived.Test.YtpgbnjneoejebaaFacts
set_option linter.unusedVariables false
set_option linter.unusedSimpArgs false
namespace Go.Proofs.Ytpgbnjneoejebaa
open Go.RowKit
attribute [local go_sem ↓] Go.wp_at_zero Go.wp_at_succ

/-- A list of documents as fuse takes it. -/
def RightF (l : List (Int × Int)) : Prop := (l.map (·.1)).Nodup ∧ (∀ p ∈ l, -1099511627776 ≤ p.2 ∧ p.2 ≤ 1099511627776) ∧ l.length ≤ 1000
instance (l : List (Int × Int)) : Decidable (RightF l) := inferInstanceAs (Decidable (_ ∧ _ ∧ _))
def docsF (l : List (Int × Int)) : List Int := l.map (·.1)
theorem fdocs_take (l : List (Int × Int)) (r : Nat) (h : r < l.length) : docsF (l.take (r + 1)) = docsF (l.take r) ++ [l[r].1] := by
  unfold docsF
  rw [take_snocI l r h, List.map_append]; rfl
set_option maxRecDepth 100000 in
set_option maxHeartbeats 4000000 in
theorem fright_any (v : Value) (l : List (Int × Int)) (w : World) (hv : SlP w v l) (hi : ∀ p ∈ l, -9223372036854775808 ≤ p.1 ∧ p.1 ≤ 9223372036854775807) :
    Calls Try.prog 30 #[v] w fun e w' => e = .returned (.bool (decide (RightF l))) ∧ Same w w' := by
  obtain ⟨res, hres⟩ : ∃ res, res = decide (RightF l) := ⟨_, rfl⟩
  rw [← hres]
  have HV := Lib.hid hv; have HI := Lib.hid hi; have HR := Lib.hid hres
  obtain ⟨a, c, rfl, hc1, hc2⟩ := hv.lit
  unfold maxLen at hc2
  obtain ⟨m, hm⟩ : ∃ m, m = w.heap.size := ⟨_, rfl⟩
  have hmm := @run_makeMap Try.prog
  have hmp := MpJ.made Value.bool Try.prog 3 w
  have hS : Same w (w.alloc (.map #[] 0)) := (Only.refl _ w).alloc _
  clear hv hi hres
  go_enter Try.func30, Try.ntmps30
  go_upto_region 2 with fail
  rw [← hm] at hmp ⊢
  generalize w.alloc (.map #[] 0) = w1 at *
  have HM := Lib.hid hmp; have HS := Lib.hid hS
  have HMW : Hid (w.heap.size ≤ m) := Lib.hid (by omega)
  clear hmp hS hmm hm
  go_wp2_with fail
  go_loopw [9] (fun i wr => ∃ (r : Nat) (F : EnI Bool), r ≤ l.length ∧ i = .int .i64 r ∧ Same w wr ∧ MpJ Value.bool Try.prog 3 wr m F ∧ F.length ≤ r ∧ (∀ d, getI F d = if d ∈ docsF (l.take r) then some true else none) ∧ (docsF (l.take r)).Nodup ∧ ∀ p ∈ l.take r, -1099511627776 ≤ p.2 ∧ p.2 ≤ 1099511627776) (fun i _ => l.length - (intOf i).toNat)
  case atStart => exact ⟨0, [], by omega, rfl, HS.out, HM.out, by simp, fun d => by simp [getI, docsF], by simp [docsF], by simp⟩
  case round =>
    obtain ⟨r, F, hr, rfl, hS, hmp, hml, hg, hn, hp⟩ := hrel
    obtain ⟨w3, hw3⟩ : ∃ x, x = wr := ⟨_, rfl⟩
    subst hw3
    have HS3 := Lib.hid hS; have HM3 := Lib.hid hmp; have HL3 := Lib.hid hml; have HG3 := Lib.hid hg; have HN3 := Lib.hid hn; have HP3 := Lib.hid hp
    clear hS hmp hml hg hn hp
    by_cases hlt : r < l.length
    · obtain ⟨b1, o1, rfl, hcell⟩ := HV.out.spot (by omega)
      obtain ⟨k0, k1⟩ := hcell r hlt
      have k0 := HS3.out.cell_eq k0 (fun h => h)
      have k1 := HS3.out.cell_eq k1 (fun h => h)
      have hin := List.getElem_mem hlt
      have hi := HI.out _ hin
      have hdt := fdocs_take l r hlt
      have htk := take_snocI l r hlt
      have HIN := Lib.hid hin; have HDT := Lib.hid hdt; have HTK := Lib.hid htk
      have hd8 : decide ((r : Int) < (l.length : Int)) = true := decide_eq_true (by omega)
      have hd9 : decide (r < l.length) = true := decide_eq_true hlt
      have hw6 : IntKind.i64.wrap ((r : Int) + 1) = (r : Int) + 1 := by rw [IntKind.wrap_i64]; omega
      generalize l[r] = x at *
      obtain ⟨d, s⟩ := x
      simp only at k0 k1 hi
      have hx := wf_i64 hi
      have HX := Lib.hid hx
      have hzv : ∀ w', (zeroValue 4).run Try.prog w' = .ok (.bool false) w' := fun w' => rfl
      have hS4 : Same w3 (w3.alloc (.cells #[.int .i64 d, .int .i64 s] 37)) := (Only.refl _ w3).alloc _
      obtain ⟨p0, p1, _, _⟩ := two_facts (blk_new w3 (.cells #[.int .i64 d, .int .i64 s] 37))
      have hl := (HM3.out.same hS4).run_look (t := 39) (e := 4) Try.underlying3 Try.underlying39 (hzv _) d hx
      rw [HG3.out d] at hl
      have HMP4 := Lib.hid (HM3.out.same hS4); have HS4 := Lib.hid (HS3.out.then hS4)
      clear hcell hin hi hdt htk hx hzv
      by_cases hm : d ∈ docsF (l.take r)
      · have hres : res = false := by
          rw [HR.out]
          refine decide_eq_false (fun h => ?_)
          have h1 : (docsF (l.take (r + 1))).Nodup := h.1.sublist ((List.take_sublist _ _).map _)
          rw [HDT.out, List.nodup_append] at h1
          exact h1.2.2 d hm d (by simp) rfl
        have HRES := Lib.hid hres
        rw [if_pos hm] at hl
        simp only [Option.map_some, Option.getD_some] at hl
        clear hres hm
        go_upto_region 5 with fail
        generalize w3.alloc (.cells #[.int .i64 d, .int .i64 s] 37) = w4 at *
        go_wp2_with fail
        go_ret
        exact ⟨by rw [HRES.out]; rfl, HS4.out⟩
      · rw [if_neg hm] at hl
        simp only [Option.map_none, Option.getD_none] at hl
        by_cases hs1 : s < -1099511627776
        · have hres : res = false := by
            rw [HR.out]
            exact decide_eq_false (fun h => by have := (h.2.1 _ HIN.out).1; simp only at this; omega)
          have HRES := Lib.hid hres
          have hd1 : decide (s < -1099511627776) = true := decide_eq_true hs1
          clear hres hm hs1
          go_upto_region 5 with fail
          generalize w3.alloc (.cells #[.int .i64 d, .int .i64 s] 37) = w4 at *
          go_wp2_with fail
          go_ret
          exact ⟨by rw [HRES.out]; rfl, HS4.out⟩
        have hd1 : decide (s < -1099511627776) = false := decide_eq_false hs1
        by_cases hs2 : 1099511627776 < s
        · have hres : res = false := by
            rw [HR.out]
            exact decide_eq_false (fun h => by have := (h.2.1 _ HIN.out).2; simp only at this; omega)
          have HRES := Lib.hid hres
          have hd2 : decide (1099511627776 < s) = true := decide_eq_true hs2
          clear hres hm hs1 hs2
          go_upto_region 5 with fail
          generalize w3.alloc (.cells #[.int .i64 d, .int .i64 s] 37) = w4 at *
          go_wp2_with fail
          go_ret
          exact ⟨by rw [HRES.out]; rfl, HS4.out⟩
        have hd2 : decide (1099511627776 < s) = false := decide_eq_false hs2
        have HMN := Lib.hid hm; have HSS : Hid (-1099511627776 ≤ s ∧ s ≤ 1099511627776) := Lib.hid (by omega)
        have hmx : F.length < maxLen := by have := HL3.out; unfold maxLen; omega
        have HMX := Lib.hid hmx
        clear hm hs1 hs2 hmx
        go_upto_region 5 with fail
        generalize w3.alloc (.cells #[.int .i64 d, .int .i64 s] 37) = w4 at *
        go_wp2_with (at_mapUpdate; refine mpj_put Value.bool _ rfl (.tmp 27) (.tmp 29) (.const (.bool true)) 39 rfl 3 4 Try.underlying3 Try.underlying39 m F rfl HMP4.out HMX.out d true rfl rfl HX.out ?_; intro w5 hm5 hO5)
        have HM5 := Lib.hid hm5
        have HS5 : Hid (Same w w5) := Lib.hid (HS4.out.trans hO5 (fun i hi h => by have h2 : i = m := h; have := HMW.out; omega))
        have hg5 : ∀ d', getI (putI F d true) d' = if d' ∈ docsF (l.take (r + 1)) then some true else none := by
          intro d'
          rw [getI_put (HMP4.out.sort Try.underlying3), HDT.out, HG3.out d']
          by_cases e : d' = d
          · subst e; rw [if_pos rfl, if_pos (by simp)]
          · rw [if_neg e]
            by_cases e2 : d' ∈ docsF (l.take r)
            · rw [if_pos e2, if_pos (List.mem_append_left _ e2)]
            · rw [if_neg e2, if_neg (fun h => by rcases List.mem_append.1 h with h | h; exact e2 h; exact e (List.mem_singleton.1 h))]
        have hn5 : (docsF (l.take (r + 1))).Nodup := by
          rw [HDT.out, List.nodup_append]
          exact ⟨HN3.out, by simp, fun a ha b hb e => by simp at hb; subst hb; subst e; exact HMN.out ha⟩
        have hp5 : ∀ p ∈ l.take (r + 1), -1099511627776 ≤ p.2 ∧ p.2 ≤ 1099511627776 := by
          rw [HTK.out]
          intro p hp
          rcases List.mem_append.1 hp with hp | hp
          · exact HP3.out p hp
          · simp at hp; subst hp; exact HSS.out
        have hl5 : (putI F d true).length ≤ r + 1 := by have := len_putI d true F; have := HL3.out; omega
        have HG5 := Lib.hid hg5; have HN5 := Lib.hid hn5; have HP5 := Lib.hid hp5; have HL5 := Lib.hid hl5
        clear hm5 hO5 hg5 hn5 hp5 hl5 hl
        go_wp2_with fail
        go_roundw
        case rel => exact ⟨r + 1, putI F d true, by omega, by go_num, HS5.out, HM5.out, HL5.out, HG5.out, HN5.out, HP5.out⟩
        case measure => simp [intOf]; omega
    · obtain rfl : r = l.length := by omega
      have hd8 : decide ((l.length : Int) < (l.length : Int)) = false := by simp
      have hres : res = decide (l.length ≤ 1000) := by
        rw [HR.out]
        have h1 := HN3.out; have h2 := HP3.out
        rw [List.take_length] at h1 h2
        by_cases h3 : l.length ≤ 1000
        · rw [decide_eq_true h3]; exact decide_eq_true ⟨h1, h2, h3⟩
        · rw [decide_eq_false h3]; exact decide_eq_false (fun h => h3 h.2.2)
      have HRES := Lib.hid hres
      clear hres
      by_cases h3 : l.length ≤ 1000
      · have hd9 : decide ((l.length : Int) ≤ 1000) = true := decide_eq_true (by omega)
        have hd10 : decide (l.length ≤ 1000) = true := decide_eq_true h3
        go_wp2_with fail
        go_ret
        exact ⟨by rw [HRES.out, hd10]; rfl, HS3.out⟩
      · have hd9 : decide ((l.length : Int) ≤ 1000) = false := decide_eq_false (by omega)
        have hd10 : decide (l.length ≤ 1000) = false := decide_eq_false h3
        go_wp2_with fail
        go_ret
        exact ⟨by rw [HRES.out, hd10]; rfl, HS3.out⟩
end Go.Proofs.Ytpgbnjneoejebaa

namespace Go.Proofs.Ytpgbnjneoejebaa
open Go.RowKit
attribute [local go_sem ↓] Go.wp_at_zero Go.wp_at_succ

def askedF (x y : List (Int × Int)) (ok : Bool) (k : Int) : Int := if RightF x ∧ RightF y then (if ok = true ∧ 1 ≤ k ∧ k ≤ 1000 then 0 else 1) else 2
def I64L (l : List (Int × Int)) : Prop := ∀ p ∈ l, -9223372036854775808 ≤ p.1 ∧ p.1 ≤ 9223372036854775807
set_option maxRecDepth 100000 in
set_option maxHeartbeats 4000000 in
theorem asked_any (vx vy : Value) (x y : List (Int × Int)) (ok : Bool) (k : Int) (w : World) (hx : SlP w vx x) (hy : SlP w vy y) (ix : I64L x) (iy : I64L y) :
    Calls Try.prog 31 #[vx, vy, .bool ok, .int .i64 k] w fun e w' => e = .returned (.int .i64 (askedF x y ok k)) ∧ Same w w' := by
  obtain ⟨res, hres⟩ : ∃ res, res = askedF x y ok k := ⟨_, rfl⟩
  rw [← hres]
  have HR := Lib.hid hres
  unfold askedF at HR
  have C1 := Lib.hid (fun w0 (h : Same w w0) => fright_any vx x w0 (hx.same h) ix)
  have C2 := Lib.hid (fun w0 (h : Same w w0) => fright_any vy y w0 (hy.same h) iy)
  clear hres hx hy ix iy
  by_cases h1 : RightF x
  rotate_left
  · have hres : res = 2 := by rw [HR.out, if_neg (fun h => h1 h.1)]
    have HRES := Lib.hid hres
    have hd := decide_eq_false h1
    clear hres
    go_enter Try.func31, Try.ntmps31
    go_wp2_with fail
    refine (C1.out _ (Only.refl _ _)).mono ?_
    rintro e w1 ⟨rfl, hS1⟩
    rw [hd]
    go_wp2_with fail
    go_ret
    exact ⟨by rw [HRES.out]; rfl, hS1⟩
  have hd1 := decide_eq_true h1
  by_cases h2 : RightF y
  rotate_left
  · have hres : res = 2 := by rw [HR.out, if_neg (fun h => h2 h.2)]
    have HRES := Lib.hid hres
    have hd := decide_eq_false h2
    clear hres h1 h2
    go_enter Try.func31, Try.ntmps31
    go_wp2_with fail
    refine (C1.out _ (Only.refl _ _)).mono ?_
    rintro e w1 ⟨rfl, hS1⟩
    rw [hd1]
    go_wp2_with fail
    refine (C2.out _ hS1).mono ?_
    rintro e w2 ⟨rfl, hS2⟩
    rw [hd]
    go_wp2_with fail
    go_ret
    exact ⟨by rw [HRES.out]; rfl, hS1.then hS2⟩
  have hd2 := decide_eq_true h2
  have hres : res = if ok = true ∧ 1 ≤ k ∧ k ≤ 1000 then 0 else 1 := by rw [HR.out, if_pos ⟨h1, h2⟩]
  clear h1 h2
  cases ok with
  | false =>
    have HRES : Hid (res = 1) := Lib.hid (by rw [hres, if_neg (fun h => by cases h.1)])
    clear hres
    go_enter Try.func31, Try.ntmps31
    go_wp2_with fail
    refine (C1.out _ (Only.refl _ _)).mono ?_
    rintro e w1 ⟨rfl, hS1⟩
    rw [hd1]
    go_wp2_with fail
    refine (C2.out _ hS1).mono ?_
    rintro e w2 ⟨rfl, hS2⟩
    rw [hd2]
    go_wp2_with fail
    go_ret
    exact ⟨by rw [HRES.out]; rfl, hS1.then hS2⟩
  | true =>
    by_cases h3 : k < 1
    · have HRES : Hid (res = 1) := Lib.hid (by rw [hres, if_neg (fun h => by omega)])
      have hd3 : decide (k < 1) = true := decide_eq_true h3
      clear hres
      go_enter Try.func31, Try.ntmps31
      go_wp2_with fail
      refine (C1.out _ (Only.refl _ _)).mono ?_
      rintro e w1 ⟨rfl, hS1⟩
      rw [hd1]
      go_wp2_with fail
      refine (C2.out _ hS1).mono ?_
      rintro e w2 ⟨rfl, hS2⟩
      rw [hd2]
      go_wp2_with fail
      go_ret
      exact ⟨by rw [HRES.out]; rfl, hS1.then hS2⟩
    · have hd3 : decide (k < 1) = false := decide_eq_false h3
      by_cases h4 : 1000 < k
      · have HRES : Hid (res = 1) := Lib.hid (by rw [hres, if_neg (fun h => by omega)])
        have hd4 : decide (1000 < k) = true := decide_eq_true h4
        clear hres
        go_enter Try.func31, Try.ntmps31
        go_wp2_with fail
        refine (C1.out _ (Only.refl _ _)).mono ?_
        rintro e w1 ⟨rfl, hS1⟩
        rw [hd1]
        go_wp2_with fail
        refine (C2.out _ hS1).mono ?_
        rintro e w2 ⟨rfl, hS2⟩
        rw [hd2]
        go_wp2_with fail
        go_ret
        exact ⟨by rw [HRES.out]; rfl, hS1.then hS2⟩
      · have HRES : Hid (res = 0) := Lib.hid (by rw [hres, if_pos ⟨rfl, by omega, by omega⟩])
        have hd4 : decide (1000 < k) = false := decide_eq_false h4
        clear hres
        go_enter Try.func31, Try.ntmps31
        go_wp2_with fail
        refine (C1.out _ (Only.refl _ _)).mono ?_
        rintro e w1 ⟨rfl, hS1⟩
        rw [hd1]
        go_wp2_with fail
        refine (C2.out _ hS1).mono ?_
        rintro e w2 ⟨rfl, hS2⟩
        rw [hd2]
        go_wp2_with fail
        go_ret
        exact ⟨by rw [HRES.out]; rfl, hS1.then hS2⟩
end Go.Proofs.Ytpgbnjneoejebaa
