import Derived.Test.YtafhgpknffkjmaaPackAwake
import Derived.Test.YtafhgpknffkjmaaInts
set_option linter.unusedVariables false
set_option linter.unusedSimpArgs false
namespace Go.Proofs.Ytafhgpknffkjmaa
open Go.RowKit

def vS (v : Int) : Option (List UInt8) := if v < 0 then none else some (vint v.toNat)
theorem pvarint_any (v : Int) (w : World) (h : -9223372036854775808 ≤ v ∧ v ≤ 9223372036854775807) : Calls Try.prog 23 #[.int .i64 v] w fun e w' => e = .returned (.tuple #[.string (str ((vS v).getD [])), .int .i64 (eno (vS v))]) ∧ Same w w' := by
  by_cases hn : v < 0
  · rw [show vS v = none by unfold vS; rw [if_pos hn]]
    exact pvarint_neg v w hn
  · obtain ⟨n, rfl⟩ := Int.eq_ofNat_of_zero_le (show 0 ≤ v by omega)
    rw [show vS (n : Int) = some (vint n) by unfold vS; rw [if_neg hn, Int.toNat_natCast]]
    exact pvarint_ok n w (by omega)
theorem varint2_any (v : Int) (w : World) (h : -9223372036854775808 ≤ v ∧ v ≤ 9223372036854775807) : Calls Try.prog 24 #[.int .i64 v] w fun e w' => e = .returned (.tuple #[.string (str ((vS v).getD [])), .int .i64 (eno (vS v))]) ∧ Same w w' := by
  by_cases hn : v < 0
  · rw [show vS v = none by unfold vS; rw [if_pos hn]]
    exact varint2_neg v w hn
  · obtain ⟨n, rfl⟩ := Int.eq_ofNat_of_zero_le (show 0 ≤ v by omega)
    rw [show vS (n : Int) = some (vint n) by unfold vS; rw [if_neg hn, Int.toNat_natCast]]
    exact varint2_ok n w (by omega)

set_option maxRecDepth 100000 in
theorem packTells_walk (v wd_ : Int) (x : Value) (l : List Int) (w : World) (hv : (Lit.int .i64 v).wf = true) (hw : (Lit.int .i64 wd_).wf = true) (hx : Sl w (.int .i64) x l) (hl : ∀ y ∈ l, -9223372036854775808 ≤ y ∧ y ≤ 9223372036854775807) :
    Calls Try.prog 5 #[.int .i64 v, .int .i64 wd_, x] w fun e w' => e = .returned (.bool true) ∧ Same w w' := by
  have hvb := bounds_i64 hv
  have HX := Lib.hid hx; have HL := Lib.hid hl
  obtain ⟨ad, cp, rfl, hcp, hmx, hnil, hcell⟩ := hx
  clear hnil hcell hl hv hw
  by_cases h500 : 500 < l.length
  · go_enter Try.func5, Try.ntmps5
    go_wp2_with (go_at_call 22; refine (awake2_any _).mono ?_; rintro e w1 ⟨rfl, hS1⟩)
    go_ret
    exact ⟨rfl, hS1⟩
  · go_enter Try.func5, Try.ntmps5
    go_wp2_with (go_at_call 22; refine (awake2_any _).mono ?_; rintro e w1 ⟨rfl, hS1⟩)
    refine (pvarint_any v _ hvb).mono ?_
    rintro e w2 ⟨rfl, hS2⟩
    go_wp2_with fail
    refine (varint2_any v _ hvb).mono ?_
    rintro e w3 ⟨rfl, hS3⟩
    have hSa := (hS1.then hS2).then hS3
    clear hS1 hS2 hS3
    go_wp2_with fail
    refine (ris_any _ l _ (HX.out.same hSa) HL.out (by omega)).mono ?_
    rintro e w4 ⟨rfl, hS4⟩
    have hSb := hSa.then hS4
    clear hSa hS4
    go_wp2_with fail
    refine (ris2_any _ l _ (HX.out.same hSb) HL.out (by omega)).mono ?_
    rintro e w5 ⟨rfl, hS5⟩
    have hSc := hSb.then hS5
    clear hSb hS5
    go_wp2_with fail
    refine (fix_any wd_ _ l _ (HX.out.same hSc) HL.out (by omega)).mono ?_
    rintro e w6 ⟨rfl, hS6⟩
    have hSd := hSc.then hS6
    clear hSc hS6
    go_wp2_with fail
    refine (fix2_any wd_ _ l _ (HX.out.same hSd) HL.out (by omega)).mono ?_
    rintro e w7 ⟨rfl, hS7⟩
    have hSe := hSd.then hS7
    clear hSd hS7
    generalize str ((vS v).getD []) = s1
    generalize str ((risS l).getD []) = s2
    generalize str ((fixS wd_ l).getD []) = s3
    generalize eno (vS v) = n1
    generalize eno (risS l) = n2
    generalize eno (fixS wd_ l) = n3
    go_wp2_with fail
    refine (zig_any v _ hvb).mono ?_
    rintro e w8 ⟨rfl, hS8⟩
    go_wp2_with fail
    refine (zig2_any v _ hvb).mono ?_
    rintro e w9 ⟨rfl, hS9⟩
    generalize str (vint (zz v)) = s4
    go_wp2
    go_ret
    exact ⟨rfl, (hSe.then hS8).then hS9⟩
end Go.Proofs.Ytafhgpknffkjmaa
