import Derived.Test.YtjegohibpojneaaPairs
import Derived.Shelf.Abstract
set_option linter.unusedVariables false
set_option linter.unusedSimpArgs false
namespace Go.Proofs.Ytjegohibpojneaa
open Go.RowKit

/-! library functions that are handed a predicate of no captures -/
set_option maxRecDepth 100000 in
set_option maxHeartbeats 1000000 in
theorem idxT_any (v : Value) (l : List (Int × Int)) (f : Nat) (p : (Int × Int) → Bool) (w : World) (hv : SlP w v l)
    (hE : ∀ (args : Array Value) (w : World), (callFunc f args).run Try.prog w = .ok (.enter f args) w)
    (hC : ∀ x w1, x ∈ l → Calls Try.prog f #[pairV x] w1 fun e w' => e = .returned (.bool (p x)) ∧ Same w1 w') :
    Calls Try.prog 144 #[v, .func (.func f) #[] #[]] w fun e w' => ∃ r : Int, e = .returned (.int .i64 r) ∧ (r = -1 ∨ 0 ≤ r) ∧ (0 ≤ r ↔ l.any p = true) ∧ Same w w' := by
  have H := Lib.hid hv; have HC := Lib.hid hC
  obtain ⟨ad, c, rfl, hc, hm, _, hx⟩ := hv
  have HX := Lib.hid hx
  unfold maxLen at hm
  clear hx hC
  go_enter Try.func144, Try.ntmps144
  go_wp2_with fail
  go_loopw [8] (fun i wr => ∃ k : Nat, k ≤ l.length ∧ i = .int .i64 k ∧ Same w wr ∧ (l.take k).any p = false) (fun i _ => l.length - (intOf i).toNat)
  case atStart => exact ⟨0, by omega, rfl, Only.refl _ _, rfl⟩
  case round =>
    obtain ⟨k, hk, rfl, hS, hno⟩ := hrel
    have HNO := Lib.hid hno
    clear hno
    by_cases hlt : k < l.length
    · obtain ⟨b, off, rfl, hcc⟩ := HX.out (by omega)
      have hck := hS.cell_eq (hcc k hlt).1 (fun h => h)
      have hck2 := hS.cell_eq (hcc k hlt).2 (fun h => h)
      have hst : l.take (k + 1) = l.take k ++ [l[k]] := (List.take_append_getElem hlt).symm
      have HST := Lib.hid hst
      clear hcc hst
      have hcall := HC.out l[k] wr (List.getElem_mem hlt)
      have hmem : l[k] ∈ l := List.getElem_mem hlt
      have HMEM := Lib.hid hmem
      clear hmem
      generalize hxx : l[k] = x at *
      have HXX := Lib.hid hxx
      clear hxx
      cases hp : p x with
      | true =>
        rw [hp] at hcall
        have HCALL := Lib.hid hcall; have HP := Lib.hid hp
        clear hcall hp
        go_wp2_with (go_at_fn f; refine HCALL.out.mono ?_; rintro e w1 ⟨rfl, hS1⟩)
        go_ret
        have hany : l.any p = true := List.any_eq_true.2 ⟨x, HMEM.out, HP.out⟩
        exact ⟨k, rfl, .inr (by omega), ⟨fun _ => hany, fun _ => by omega⟩, hS.then hS1⟩
      | false =>
        rw [hp] at hcall
        have HCALL := Lib.hid hcall; have HP := Lib.hid hp
        clear hcall hp
        go_wp2_with (go_at_fn f; refine HCALL.out.mono ?_; rintro e w1 ⟨rfl, hS1⟩)
        refine ⟨⟨k + 1, by omega, by go_num, hS.then hS1, ?_⟩, by simp [intOf]; omega⟩
        rw [HST.out, List.any_append, HNO.out, List.any_cons, HP.out]
        rfl
    · obtain rfl : k = l.length := by omega
      go_wp2
      go_ret
      have hany := HNO.out
      rw [List.take_length] at hany
      exact ⟨-1, rfl, .inl rfl, ⟨fun h => by omega, fun h => by rw [hany] at h; cases h⟩, hS⟩
theorem conT_any (v : Value) (l : List (Int × Int)) (f : Nat) (p : (Int × Int) → Bool) (w : World) (hv : SlP w v l)
    (hE : ∀ (args : Array Value) (w : World), (callFunc f args).run Try.prog w = .ok (.enter f args) w)
    (hC : ∀ x w1, x ∈ l → Calls Try.prog f #[pairV x] w1 fun e w' => e = .returned (.bool (p x)) ∧ Same w1 w') :
    Calls Try.prog 96 #[v, .func (.func f) #[] #[]] w fun e w' => e = .returned (.bool (l.any p)) ∧ Same w w' := by
  have c := idxT_any v l f p w hv hE hC
  have C := Lib.hid c
  clear c hC hv
  obtain ⟨r0, hr0⟩ : ∃ r0, r0 = l.any p := ⟨_, rfl⟩
  rw [← hr0]
  have HR0 := Lib.hid hr0
  clear hr0
  go_enter Try.func96, Try.ntmps96
  go_wp2_with fail
  refine C.out.mono ?_
  rintro e w1 ⟨r, rfl, hr, hiff, hS⟩
  rw [← HR0.out] at hiff
  rcases hr with rfl | hr
  · obtain rfl : r0 = false := by cases r0; rfl; exact absurd (hiff.2 rfl) (by omega)
    clear hiff
    go_wp2
    go_ret
    exact ⟨rfl, hS⟩
  · obtain rfl : r0 = true := hiff.1 hr
    clear hiff
    go_wp2
    go_ret
    exact ⟨rfl, hS⟩

set_option maxRecDepth 100000 in
set_option maxHeartbeats 1000000 in
theorem idxI_any (v : Value) (l : List Int) (f : Nat) (p : Int → Bool) (w : World) (hv : Sl w (.int .i64) v l)
    (hE : ∀ (args : Array Value) (w : World), (callFunc f args).run Try.prog w = .ok (.enter f args) w)
    (hC : ∀ x w1, x ∈ l → Calls Try.prog f #[.int .i64 x] w1 fun e w' => e = .returned (.bool (p x)) ∧ Same w1 w') :
    Calls Try.prog 162 #[v, .func (.func f) #[] #[]] w fun e w' => ∃ r : Int, e = .returned (.int .i64 r) ∧ (r = -1 ∨ 0 ≤ r) ∧ (0 ≤ r ↔ l.any p = true) ∧ Same w w' := by
  have H := Lib.hid hv; have HC := Lib.hid hC
  obtain ⟨ad, c, rfl, hc, hm, _, hx⟩ := hv
  have HX := Lib.hid hx
  unfold maxLen at hm
  clear hx hC
  go_enter Try.func162, Try.ntmps162
  go_wp2_with fail
  go_loopw [8] (fun i wr => ∃ k : Nat, k ≤ l.length ∧ i = .int .i64 k ∧ Same w wr ∧ (l.take k).any p = false) (fun i _ => l.length - (intOf i).toNat)
  case atStart => exact ⟨0, by omega, rfl, Only.refl _ _, rfl⟩
  case round =>
    obtain ⟨k, hk, rfl, hS, hno⟩ := hrel
    have HNO := Lib.hid hno
    clear hno
    by_cases hlt : k < l.length
    · obtain ⟨b, off, rfl, hcc⟩ := HX.out (by omega)
      have hck := hS.cell_eq (hcc k hlt) (fun h => h)
      have hst : l.take (k + 1) = l.take k ++ [l[k]] := (List.take_append_getElem hlt).symm
      have HST := Lib.hid hst
      clear hcc hst
      have hcall := HC.out l[k] wr (List.getElem_mem hlt)
      have hmem : l[k] ∈ l := List.getElem_mem hlt
      have HMEM := Lib.hid hmem
      clear hmem
      generalize hxx : l[k] = x at *
      have HXX := Lib.hid hxx
      clear hxx
      cases hp : p x with
      | true =>
        rw [hp] at hcall
        have HCALL := Lib.hid hcall; have HP := Lib.hid hp
        clear hcall hp
        go_wp2_with (go_at_fn f; refine HCALL.out.mono ?_; rintro e w1 ⟨rfl, hS1⟩)
        go_ret
        have hany : l.any p = true := List.any_eq_true.2 ⟨x, HMEM.out, HP.out⟩
        exact ⟨k, rfl, .inr (by omega), ⟨fun _ => hany, fun _ => by omega⟩, hS.then hS1⟩
      | false =>
        rw [hp] at hcall
        have HCALL := Lib.hid hcall; have HP := Lib.hid hp
        clear hcall hp
        go_wp2_with (go_at_fn f; refine HCALL.out.mono ?_; rintro e w1 ⟨rfl, hS1⟩)
        refine ⟨⟨k + 1, by omega, by go_num, hS.then hS1, ?_⟩, by simp [intOf]; omega⟩
        rw [HST.out, List.any_append, HNO.out, List.any_cons, HP.out]
        rfl
    · obtain rfl : k = l.length := by omega
      go_wp2
      go_ret
      have hany := HNO.out
      rw [List.take_length] at hany
      exact ⟨-1, rfl, .inl rfl, ⟨fun h => by omega, fun h => by rw [hany] at h; cases h⟩, hS⟩
theorem conI_any (v : Value) (l : List Int) (f : Nat) (p : Int → Bool) (w : World) (hv : Sl w (.int .i64) v l)
    (hE : ∀ (args : Array Value) (w : World), (callFunc f args).run Try.prog w = .ok (.enter f args) w)
    (hC : ∀ x w1, x ∈ l → Calls Try.prog f #[.int .i64 x] w1 fun e w' => e = .returned (.bool (p x)) ∧ Same w1 w') :
    Calls Try.prog 127 #[v, .func (.func f) #[] #[]] w fun e w' => e = .returned (.bool (l.any p)) ∧ Same w w' := by
  have c := idxI_any v l f p w hv hE hC
  have C := Lib.hid c
  clear c hC hv
  obtain ⟨r0, hr0⟩ : ∃ r0, r0 = l.any p := ⟨_, rfl⟩
  rw [← hr0]
  have HR0 := Lib.hid hr0
  clear hr0
  go_enter Try.func127, Try.ntmps127
  go_wp2_with fail
  refine C.out.mono ?_
  rintro e w1 ⟨r, rfl, hr, hiff, hS⟩
  rw [← HR0.out] at hiff
  rcases hr with rfl | hr
  · obtain rfl : r0 = false := by cases r0; rfl; exact absurd (hiff.2 rfl) (by omega)
    clear hiff
    go_wp2
    go_ret
    exact ⟨rfl, hS⟩
  · obtain rfl : r0 = true := hiff.1 hr
    clear hiff
    go_wp2
    go_ret
    exact ⟨rfl, hS⟩
end Go.Proofs.Ytjegohibpojneaa
