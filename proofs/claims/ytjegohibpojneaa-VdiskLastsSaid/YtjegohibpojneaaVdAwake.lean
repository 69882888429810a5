import Derived.Test.YtjegohibpojneaaVdFlip
import Derived.Test.YtjegohibpojneaaVdList
set_option linter.unusedVariables false
set_option linter.unusedSimpArgs false
namespace Go.Proofs.Ytjegohibpojneaa
open Go.RowKit
attribute [local go_sem ↓] Go.wp_at_zero Go.wp_at_succ

def nA : ByteArray := ⟨#[97]⟩
def nB : ByteArray := ⟨#[98]⟩
def dA1 : Dk := ⟨100, [([97], (⟨#[120, 121]⟩, 0))], 0, 0, 1, false, 1⟩
def dA2 : Dk := ⟨100, [([97], (⟨#[120, 121]⟩, 2))], 0, 0, 2, false, 2⟩
def dA3 : Dk := ⟨100, [([97], (⟨#[120, 121, 122, 119]⟩, 2))], 0, 0, 3, false, 3⟩
def dA4 : Dk := ⟨100, [([97], (⟨#[120, 121, 122]⟩, 3))], 0, 0, 3, true, 3⟩
def dA5 : Dk := ⟨100, [([97], (⟨#[120, 121, 122]⟩, 3))], 0, 0, 3, false, 3⟩
def dA6 : Dk := ⟨100, [([98], (⟨#[120, 121, 122]⟩, 3))], 0, 0, 4, false, 4⟩
def dA7 : Dk := ⟨100, [([98], (⟨#[121, 121, 122]⟩, 3))], 0, 0, 4, false, 4⟩
theorem av1 : appendD (newD 100) ⟨#[97]⟩ ⟨#[120, 121]⟩ = (dA1, 0) := by kernel_rfl
theorem av2 : syncD dA1 (ByteArray.mk #[97]).data.toList = (dA2, 0) := by kernel_rfl
theorem av3 : appendD dA2 ⟨#[97]⟩ ⟨#[122, 119]⟩ = (dA3, 0) := by kernel_rfl
theorem av4 : crashD dA3 1 = dA4 := by kernel_rfl
theorem av5 : syncD dA4 (ByteArray.mk #[97]).data.toList = (dA4, 7) := by kernel_rfl
theorem av6 : readD dA5 (ByteArray.mk #[97]).data.toList = (⟨#[120, 121, 122]⟩, 0) := by kernel_rfl
theorem av7 : renameD dA5 (ByteArray.mk #[97]).data.toList ⟨#[98]⟩ = (dA6, 0) := by kernel_rfl
theorem av8 : removeD dA6 (ByteArray.mk #[97]).data.toList = (dA6, 4) := by kernel_rfl
theorem av9 : flipD dA6 (ByteArray.mk #[98]).data.toList 0 = (dA7, 0) := by kernel_rfl
theorem av10 : appendD dA7 ⟨#[]⟩ ⟨#[]⟩ = (dA7, 2) := by kernel_rfl
theorem av11 : namesB dA6.F = [⟨#[98]⟩] := by kernel_rfl
theorem av12 : usedP dA6.F = 3 := by kernel_rfl
theorem dk0 : DOK (newD 100) := ⟨by decide, by decide, by intro p hp; simp [newD] at hp, by decide, by decide⟩
theorem dk1 : DOK dA1 := ⟨by decide, by decide, by intro p hp; simp [dA1] at hp; subst hp; decide, by decide, by decide⟩
theorem dk2 : DOK dA2 := ⟨by decide, by decide, by intro p hp; simp [dA2] at hp; subst hp; decide, by decide, by decide⟩
theorem dk3 : DOK dA3 := ⟨by decide, by decide, by intro p hp; simp [dA3] at hp; subst hp; decide, by decide, by decide⟩
theorem dk4 : DOK dA4 := ⟨by decide, by decide, by intro p hp; simp [dA4] at hp; subst hp; decide, by decide, by decide⟩
theorem dk5 : DOK dA5 := ⟨by decide, by decide, by intro p hp; simp [dA5] at hp; subst hp; decide, by decide, by decide⟩
theorem dk6 : DOK dA6 := ⟨by decide, by decide, by intro p hp; simp [dA6] at hp; subst hp; decide, by decide, by decide⟩
theorem dk7 : DOK dA7 := ⟨by decide, by decide, by intro p hp; simp [dA7] at hp; subst hp; decide, by decide, by decide⟩
set_option maxRecDepth 100000 in
set_option maxHeartbeats 8000000 in
theorem vd_awake (w : World) : Calls Try.prog 60 #[] w fun e w' => e = .returned (.bool true) ∧ Same w w' := by
  go_enter Try.func60, Try.ntmps60
  go_wp2_with fail
  refine (vnew_any 100 w (by omega)).mono ?_
  rintro e w1 ⟨rfl, hS1, hd1⟩
  obtain ⟨b, hb⟩ : ∃ b, b = w.heap.size + 1 := ⟨_, rfl⟩
  obtain ⟨mb, hmb⟩ : ∃ b, b = w.heap.size := ⟨_, rfl⟩
  rw [← hb, ← hmb] at hd1
  rw [← hb]
  have HB := Lib.hid (And.intro hb hmb)
  have HS1 := Lib.hid hS1; have H1 := Lib.hid hd1
  clear hb hmb hS1 hd1
  go_wp2_with fail
  refine (vnew_bad 0 w1 (by omega)).mono ?_
  rintro e w2 ⟨rfl, hS2⟩
  have H2 := Lib.hid (H1.out.same hS2)
  have HO2 := Lib.hid ((HS1.out.then hS2).mono (S' := fun i => i = b ∨ i = mb) (fun _ _ h => h.elim))
  clear hS2
  go_wp2_with fail
  refine (vappend_any b mb (newD 100) ⟨#[97]⟩ ⟨#[120, 121]⟩ w2 H2.out (by decide) (by decide) dk0 (by decide) (by decide)).mono ?_
  rintro e w3 ⟨rfl, hd, hO⟩
  rw [av1] at hd
  rw [av1]
  have H3 := Lib.hid hd; have HO3 := Lib.hid (HO2.out.same hO)
  clear hd hO
  go_wp2_with fail
  refine (vsync_any b mb dA1 ⟨#[97]⟩ w3 H3.out (by decide) dk1).mono ?_
  rintro e w4 ⟨rfl, hd, hO⟩
  rw [av2] at hd
  rw [av2]
  have H4 := Lib.hid hd; have HO4 := Lib.hid (HO3.out.same hO)
  clear hd hO
  go_wp2_with fail
  refine (vappend_any b mb dA2 ⟨#[97]⟩ ⟨#[122, 119]⟩ w4 H4.out (by decide) (by decide) dk2 (by decide) (by decide)).mono ?_
  rintro e w5 ⟨rfl, hd, hO⟩
  rw [av3] at hd
  rw [av3]
  have H5 := Lib.hid hd; have HO5 := Lib.hid (HO4.out.same hO)
  clear hd hO
  go_wp2_with fail
  refine (crash_any b mb dA3 1 w5 H5.out dk3.1 dk3.2.1 dk3.2.2.1).mono ?_
  rintro e w6 ⟨rfl, hd, hO⟩
  rw [av4] at hd
  skip
  have H6 := Lib.hid hd; have HO6 := Lib.hid (HO5.out.same hO)
  clear hd hO
  go_wp2_with fail
  refine (vsync_any b mb dA4 ⟨#[97]⟩ w6 H6.out (by decide) dk4).mono ?_
  rintro e w7 ⟨rfl, hd, hO⟩
  rw [av5] at hd
  rw [av5]
  have H7 := Lib.hid hd; have HO7 := Lib.hid (HO6.out.same hO)
  clear hd hO
  go_wp2_with fail
  refine (vstart_any b mb dA4 w7 H7.out).mono ?_
  rintro e w8 ⟨rfl, hd, hO⟩
  have H8 : Hid (DkW w8 b mb dA5) := Lib.hid hd; have HO8 := Lib.hid (HO7.out.same (hO.mono (S' := fun i => i = b ∨ i = mb) (fun _ _ h => .inl h)))
  clear hd hO
  go_wp2_with fail
  refine (vread_any b mb dA5 ⟨#[97]⟩ w8 H8.out (by decide)).mono ?_
  rintro e w9 ⟨rfl, hS⟩
  rw [av6]
  have H9 := Lib.hid (H8.out.same hS); have HO9 := Lib.hid (HO8.out.then hS)
  clear hS
  go_wp2_with fail
  refine (vrename_any b mb dA5 ⟨#[97]⟩ ⟨#[98]⟩ w9 H9.out (by decide) (by decide) dk5).mono ?_
  rintro e w10 ⟨rfl, hd, hO⟩
  rw [av7] at hd
  rw [av7]
  have H10 := Lib.hid hd; have HO10 := Lib.hid (HO9.out.same hO)
  clear hd hO
  go_wp2_with fail
  refine (vremove_any b mb dA6 ⟨#[97]⟩ w10 H10.out (by decide) dk6).mono ?_
  rintro e w11 ⟨rfl, hd, hO⟩
  rw [av8] at hd
  rw [av8]
  have H11 := Lib.hid hd; have HO11 := Lib.hid (HO10.out.same hO)
  clear hd hO
  go_wp2_with fail
  refine (vlist_any b mb dA6 w11 H11.out (by decide)).mono ?_
  rintro e w12 ⟨v, rfl, hS, hsl⟩
  have H12 := Lib.hid (H11.out.same hS); have HO12 := Lib.hid (HO11.out.then hS)
  rw [av11] at hsl
  have hsl := own_sl hsl
  obtain ⟨ad, cp, rfl, hcp, hmx, _, hsp⟩ := hsl
  obtain ⟨b1, o1, rfl, hc⟩ := hsp (by simp)
  have c0 := hc 0 (by simp)
  simp only [Nat.add_zero, List.getElem_cons_zero] at c0
  clear hS hc hsp
  go_wp2_with fail
  refine (used_any b mb dA6 w12 H12.out (by decide)).mono ?_
  rintro e w13 ⟨rfl, hS⟩
  rw [av12]
  have H13 := Lib.hid (H12.out.same hS); have HO13 := Lib.hid (HO12.out.then hS)
  clear hS
  go_wp2_with fail
  refine (veffects_any b mb dA6 w13 H13.out (by decide)).mono ?_
  rintro e w14 ⟨rfl, hS⟩
  skip
  have H14 := Lib.hid (H13.out.same hS); have HO14 := Lib.hid (HO13.out.then hS)
  clear hS
  go_wp2_with fail
  refine (vflip_any b mb dA6 ⟨#[98]⟩ 0 w14 H14.out (by decide) dk6 (by decide)).mono ?_
  rintro e w15 ⟨rfl, hd, hO⟩
  rw [av9] at hd
  rw [av9]
  have H15 := Lib.hid hd; have HO15 := Lib.hid (HO14.out.same hO)
  clear hd hO
  go_wp2_with fail
  refine (vappend_any b mb dA7 ⟨#[]⟩ ⟨#[]⟩ w15 H15.out (by decide) (by decide) dk7 (by decide) (by decide)).mono ?_
  rintro e w16 ⟨rfl, hd, hO⟩
  rw [av10] at hd
  rw [av10]
  have H16 := Lib.hid hd; have HO16 := Lib.hid (HO15.out.same hO)
  clear hd hO
  go_wp2_with fail
  go_ret
  exact ⟨rfl, HO16.out.mono (fun i hi h => by have := HB.out; omega)⟩
end Go.Proofs.Ytjegohibpojneaa
