import Derived.Test.YtjegohibpojneaaVdFns
set_option linter.unusedVariables false
set_option linter.unusedSimpArgs false
namespace Go.Proofs.Ytjegohibpojneaa
open Go.RowKit
attribute [local go_sem ↓] Go.wp_at_zero Go.wp_at_succ

/-- Something is done, unless the power fails. -/
def effR (d : Dk) (F' : EnS FileP) : Dk × Int := if d.count + 1 = d.cat then (crashD { d with count := d.count + 1 } d.ckeep, 7) else ({ d with count := d.count + 1, F := F', eff := d.eff + 1 }, 0)
set_option maxRecDepth 100000 in
set_option maxHeartbeats 4000000 in
theorem effect_any (b mb : Nat) (d : Dk) (F' : EnS FileP) (fd : Nat) (cap : Array Value) (w : World) (h : DkW w b mb d) (hE : ∀ (args : Array Value) (w : World), (callFunc fd args).run Try.prog w = .ok (.enter fd args) w)
    (hD : ∀ w1, Only (fun i => i = b ∨ i = mb) w w1 → DkW w1 b mb { d with count := d.count + 1 } → Calls Try.prog fd cap w1 fun e w' => e = .returned (.tuple #[]) ∧ MpS fileV Try.prog 9 w' mb F' ∧ Only (· = mb) w1 w')
    (hu : usedP d.F ≤ 1099511627776) (hlen : d.F.length ≤ 1000000) (hok : FOK d.F) (hc : -1000000000 ≤ d.count ∧ d.count ≤ 1000000000) (he : -1000000000 ≤ d.eff ∧ d.eff ≤ 1000000000) :
    Calls Try.prog 118 #[.pointer (some ⟨b, 0, none⟩), .func (.func fd) #[] cap] w fun e w' => e = .returned (.int .i64 (effR d F').2) ∧ DkW w' b mb (effR d F').1 ∧ Only (fun i => i = b ∨ i = mb) w w' := by
  have H := Lib.hid h; have HD := Lib.hid hD
  have c4 : w.cell? ⟨b, 4, none⟩ = some (.int .i64 d.count) := blk_cells h.1 4
  have f4 := blk_frozen h.1 4
  have hw := wrapS (x := d.count + 1) (by omega)
  have hO : Only (fun i => i = b) w (w.setCell ⟨b, 4, none⟩ (.int .i64 (d.count + 1))) := (Only.refl (fun i => i = b) w).setCell (fun _ => rfl) _
  have h1 : DkW (w.setCell ⟨b, 4, none⟩ (.int .i64 (d.count + 1))) b mb { d with count := d.count + 1 } := ⟨blk_set (j := 4) h.1, h.2.only hO h.ne⟩
  have HU := Lib.hid (And.intro hu (And.intro hlen hok)); have HR := Lib.hid (And.intro hc he)
  clear h hD hu hlen hok hc he
  go_enter Try.func118, Try.ntmps118
  go_upto_region 2 with fail
  generalize w.setCell ⟨b, 4, none⟩ (.int .i64 (d.count + 1)) = w1 at *
  have k4 : w1.cell? ⟨b, 4, none⟩ = some (.int .i64 (d.count + 1)) := blk_cells h1.1 4
  have k2 : w1.cell? ⟨b, 2, none⟩ = some (.int .i64 d.cat) := blk_cells h1.1 2
  have k3 : w1.cell? ⟨b, 3, none⟩ = some (.int .i64 d.ckeep) := blk_cells h1.1 3
  have H1 := Lib.hid h1; have HO := Lib.hid hO
  clear c4 f4 h1 hO
  by_cases hcat : d.count + 1 = d.cat
  · have hb : (d.count + 1 == d.cat) = true := by simpa using hcat
    have HE : Hid (effR d F' = (crashD { d with count := d.count + 1 } d.ckeep, 7)) := Lib.hid (by unfold effR; rw [if_pos hcat])
    clear hcat
    go_quiet (fail)
    rename_i nq
    have H2 : Hid (DkW (w1.drewN nq) b mb { d with count := d.count + 1 }) := Lib.hid (H1.out.same ((Only.refl _ w1).drewN nq))
    have HO2 : Hid (Only (fun i => i = b) w (w1.drewN nq)) := Lib.hid (HO.out.drewN nq)
    have k3 : (w1.drewN nq).cell? ⟨b, 3, none⟩ = some (.int .i64 d.ckeep) := k3
    clear k4 k2 H1 HO
    generalize w1.drewN nq = w2 at *
    go_wp2_with fail
    refine (crash_any b mb _ d.ckeep w2 H2.out HU.out.1 HU.out.2.1 HU.out.2.2).mono ?_
    rintro e w3 ⟨rfl, hd3, hO3⟩
    have HD3 := Lib.hid hd3; have HO3 := Lib.hid ((HO2.out.mono (S' := fun i => i = b ∨ i = mb) (fun _ _ h => .inl h)).same hO3)
    clear hd3 hO3
    go_wp2_with fail
    go_ret
    rw [HE.out]
    exact ⟨rfl, HD3.out, HO3.out⟩
  · have hb : (d.count + 1 == d.cat) = false := by simpa using hcat
    have HE : Hid (effR d F' = ({ d with count := d.count + 1, F := F', eff := d.eff + 1 }, 0)) := Lib.hid (by unfold effR; rw [if_neg hcat])
    clear hcat
    go_quiet (fail)
    rename_i nq
    have H2 : Hid (DkW (w1.drewN nq) b mb { d with count := d.count + 1 }) := Lib.hid (H1.out.same ((Only.refl _ w1).drewN nq))
    have HO2 : Hid (Only (fun i => i = b) w (w1.drewN nq)) := Lib.hid (HO.out.drewN nq)
    clear k4 k2 k3 H1 HO
    generalize w1.drewN nq = w2 at *
    have hcall := HD.out w2 (HO2.out.mono (fun _ _ h => .inl h)) H2.out
    have HCALL := Lib.hid hcall
    clear hcall HD
    go_wp2_with (go_at_fn fd; refine HCALL.out.mono ?_; rintro e w3 ⟨rfl, hm3, hO3⟩; have hb3 := hO3.heap H2.out.1 (fun h => H2.out.ne h.symm); have hmb := hm3.lt)
    have k6 : w3.cell? ⟨b, 6, none⟩ = some (.int .i64 d.eff) := blk_cells hb3 6
    have ca := addat_any b 6 d.eff w3 k6 (blk_frozen hb3 6) (by have := HR.out; omega)
    have CA := Lib.hid ca; have HB3 := Lib.hid hb3; have HM3 := Lib.hid hm3; have HO3 := Lib.hid hO3
    clear k6 ca hb3 hm3 hO3 HCALL
    refine CA.out.mono ?_
    rintro e w4 ⟨rfl, hw4⟩
    have hO4 : Only (fun i => i = b) w3 w4 := by rw [hw4]; exact (Only.refl (fun i => i = b) w3).setCell (fun _ => rfl) _
    have hd4 : DkW w4 b mb { d with count := d.count + 1, F := F', eff := d.eff + 1 } := ⟨by rw [hw4]; exact blk_set (j := 6) HB3.out, HM3.out.only hO4 H2.out.ne⟩
    have HD4 := Lib.hid hd4; have HO4 := Lib.hid (((HO2.out.mono (S' := fun i => i = b ∨ i = mb) (fun _ _ h => .inl h)).trans HO3.out (fun _ _ h => .inr h)).trans hO4 (fun _ _ h => .inl h))
    clear hw4 hO4 hd4
    go_wp2_with fail
    go_ret
    rw [HE.out]
    exact ⟨rfl, HD4.out, HO4.out⟩
end Go.Proofs.Ytjegohibpojneaa
