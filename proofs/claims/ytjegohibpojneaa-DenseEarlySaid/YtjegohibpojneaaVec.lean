import Derived.Test.YtjegohibpojneaaFun
import Derived.Test.YtjegohibpojneaaFacts
import Derived.Deep.Cut
import Derived.Deep.CutRange
import Derived.Deep.CutBlock
set_option linter.unusedVariables false
set_option linter.unusedSimpArgs false
namespace Go.Proofs.Ytjegohibpojneaa
open Go.RowKit

/-! vectors: is one right? -/
def vecB (v : List Int) : Bool := decide (v.length = 8) && v.all fun x => decide (-127 ≤ x) && decide (x ≤ 127)
abbrev i64b (a : Int) : Prop := -9223372036854775808 ≤ a ∧ a ≤ 9223372036854775807
def numBad (x : Int) : Bool := decide (x < -127) || decide (127 < x)
theorem vec_any (l : List Int) : (!l.any numBad) = l.all fun x => decide (-127 ≤ x) && decide (x ≤ 127) := by
  rw [Bool.eq_iff_iff]
  simp [numBad, List.any_eq, List.all_eq]
theorem dright1_any (x : Int) (w : World) (hx : i64b x) : Calls Try.prog 128 #[.int .i64 x] w fun e w' => e = .returned (.bool (numBad x)) ∧ Same w w' := by
  unfold numBad
  by_cases h1 : x < -127
  · rw [decide_eq_true h1]
    go_enter Try.func128, Try.ntmps128
    go_wp2
    go_ret
    exact ⟨rfl, Only.refl _ _⟩
  · by_cases h2 : 127 < x
    · rw [decide_eq_false h1, decide_eq_true h2]
      go_enter Try.func128, Try.ntmps128
      go_wp2
      go_ret
      exact ⟨rfl, Only.refl _ _⟩
    · rw [decide_eq_false h1, decide_eq_false h2]
      go_enter Try.func128, Try.ntmps128
      go_wp2
      go_ret
      exact ⟨rfl, Only.refl _ _⟩
theorem enters_dright1 (args : Array Value) (w : World) : (callFunc 128 args).run Try.prog w = .ok (.enter 128 args) w := by kernel_rfl
set_option maxRecDepth 100000 in
theorem dright_any (v : Value) (l : List Int) (w : World) (hv : Sl w (.int .i64) v l) (hl : ∀ x ∈ l, i64b x) :
    Calls Try.prog 77 #[v] w fun e w' => e = .returned (.bool (vecB l)) ∧ Same w w' := by
  have c := conI_any v l 128 numBad w hv enters_dright1 (fun x w1 hx => dright1_any x w1 (hl x hx))
  have C := Lib.hid c
  have hvb : vecB l = (decide (l.length = 8) && !l.any numBad) := by unfold vecB; rw [vec_any]
  have HVB := Lib.hid hvb
  obtain ⟨ad, cp, rfl, hc, hm, _, _⟩ := hv
  unfold maxLen at hm
  obtain ⟨r0, hr0⟩ : ∃ r0, r0 = l.any numBad := ⟨_, rfl⟩
  have HR0 := Lib.hid hr0
  clear c hl hvb hr0
  by_cases h8 : l.length = 8
  · have HL := Lib.hid h8
    have h8' : ((l.length : Int) == 8) = true := by simp; omega
    clear h8
    go_enter Try.func77, Try.ntmps77
    go_wp2_with fail
    refine C.out.mono ?_
    rw [← HR0.out]
    rintro e w1 ⟨rfl, hS⟩
    go_wp2_with fail
    go_ret
    rw [HVB.out, ← HR0.out, decide_eq_true HL.out]
    exact ⟨by cases r0 <;> rfl, hS⟩
  · have HL := Lib.hid h8
    have h8' : ((l.length : Int) == 8) = false := by simp; omega
    clear h8
    go_enter Try.func77, Try.ntmps77
    go_wp2_with fail
    go_ret
    rw [HVB.out, decide_eq_false HL.out]
    exact ⟨rfl, Only.refl _ _⟩
theorem Sl.spot {α : Type} {w : World} {enc : α → Value} {ad : Option Addr} {n c : Nat} {l : List α} (h : Sl w enc (.slice ad n c) l) (h0 : 0 < l.length) : ∃ b off, ad = some ⟨b, off, none⟩ ∧ ∀ i (h : i < l.length), w.cell? ⟨b, off + i, none⟩ = some (enc l[i]) := by
  obtain ⟨ad', c', e, _, _, _, h4⟩ := h
  simp only [Value.slice.injEq] at e
  obtain ⟨rfl, _, rfl⟩ := e
  exact h4 h0
set_option maxRecDepth 100000 in
theorem vright_any (v : Value) (l : List Int) (w : World) (hv : Sl w (.int .i64) v l) (hl : ∀ x ∈ l, i64b x) :
    Calls Try.prog 78 #[v] w fun e w' => e = .returned (.bool (vecB l)) ∧ Same w w' := by
  have H := Lib.hid hv
  obtain ⟨ad, cp, rfl, hc, hm, _, _⟩ := hv
  unfold maxLen at hm
  obtain ⟨r0, hr0⟩ : ∃ r0, r0 = vecB l := ⟨_, rfl⟩
  rw [← hr0]
  have hvb : r0 = (decide (l.length = 8) && !l.any numBad) := by rw [hr0]; unfold vecB; rw [vec_any]
  have HVB := Lib.hid hvb; have HL := Lib.hid hl
  clear hr0 hvb hl
  go_enter Try.func78, Try.ntmps78
  go_wp2_with fail
  go_loopw [3] (fun i wr => ∃ k : Nat, k ≤ l.length ∧ i = .int .i64 k ∧ Same w wr ∧ (l.take k).any numBad = false) (fun i _ => l.length - (intOf i).toNat)
  case atStart => exact ⟨0, by omega, rfl, Only.refl _ _, rfl⟩
  case round =>
    obtain ⟨k, hk, rfl, hS, hno⟩ := hrel
    have HNO := Lib.hid hno
    clear hno
    by_cases hlt : k < l.length
    · obtain ⟨b, off, rfl, hcc⟩ := H.out.spot (by omega)
      have hck := hS.cell_eq (hcc k hlt) (fun h => h)
      have hxr := HL.out l[k] (List.getElem_mem hlt)
      have hst := take_snocI l k hlt
      have hany : numBad l[k] = true → l.any numBad = true := fun h => List.any_eq_true.2 ⟨l[k], List.getElem_mem hlt, h⟩
      generalize l[k] = x at *
      have HST := Lib.hid hst; have HANY := Lib.hid hany
      clear hst hany hcc
      by_cases g1 : x < -127
      · have hr : r0 = false := by rw [HVB.out, HANY.out (by unfold numBad; rw [decide_eq_true g1]; rfl)]; simp
        subst hr
        go_wp2_with fail
        go_ret
        exact ⟨rfl, hS⟩
      · by_cases g2 : 127 < x
        · have hr : r0 = false := by rw [HVB.out, HANY.out (by unfold numBad; rw [decide_eq_true g2]; simp)]; simp
          subst hr
          go_wp2_with fail
          go_ret
          exact ⟨rfl, hS⟩
        · have hnb : numBad x = false := by unfold numBad; rw [decide_eq_false g1, decide_eq_false g2]; rfl
          have HNB := Lib.hid hnb
          clear hnb
          go_wp2_with fail
          go_roundw
          case rel => exact ⟨k + 1, by omega, by go_num, hS, by rw [HST.out, List.any_append, HNO.out, List.any_cons, HNB.out]; rfl⟩
          case measure => simp [intOf]; omega
    · obtain rfl : k = l.length := by omega
      have hr : r0 = decide (l.length = 8) := by have := HNO.out; rw [List.take_length] at this; rw [HVB.out, this]; simp
      have HR := Lib.hid hr
      clear hr
      by_cases h8 : l.length = 8
      · have HL8 := Lib.hid h8
        have h8' : ((l.length : Int) == 8) = true := beq_iff_eq.2 (by omega)
        clear h8
        go_wp2_with fail
        go_ret
        exact ⟨by rw [HR.out, decide_eq_true HL8.out]; rfl, hS⟩
      · have HL8 := Lib.hid h8
        have h8' : ((l.length : Int) == 8) = false := beq_eq_false_iff_ne.2 (by omega)
        clear h8
        go_wp2_with fail
        go_ret
        exact ⟨by rw [HR.out, decide_eq_false HL8.out]; rfl, hS⟩

end Go.Proofs.Ytjegohibpojneaa
