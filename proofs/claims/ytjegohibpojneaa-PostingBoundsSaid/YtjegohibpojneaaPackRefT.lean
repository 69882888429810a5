import Derived.Test.YtjegohibpojneaaPackRefR
set_option linter.unusedVariables false
set_option linter.unusedSimpArgs false
namespace Go.Proofs.Ytjegohibpojneaa
open Go.RowKit

set_option maxRecDepth 100000 in
theorem rtv2_any (st : RS) (w : World) (hlen : (st.getD []).length ≤ 1000000000000) :
    Calls Try.prog 92 #[rdV st] w fun e w' => e = .returned (.tuple #[rdV (varS st).2, .int .i64 (varS st).1]) ∧ Same w w' := by
  have hlt := wordS_lt st
  have hv : varS st = if 9223372036854775807 < (wordS st).1 then (0, none) else wordS st := rfl
  have hc := fun w0 => rtake2_any st w0 hlen
  generalize wordS st = p at *
  obtain ⟨n, st'⟩ := p
  simp only at hc hlt hv
  have HV := Lib.hid hv; have HC := Lib.hid hc
  clear hv hc
  generalize str (st.getD []) = s0 at *
  have hb := fun o => blk2 w o (.cells #[.string ⟨#[]⟩, .bool false] 156)
  have HB := Lib.hid hb
  clear hb
  go_enter Try.func92, Try.ntmps92
  by_cases hbig : 9223372036854775807 < n
  · go_wp2_with (first | (go_at_call 141; refine (HC.out _).mono ?_; rintro e w1 ⟨rfl, hS1⟩) | (go_at_call 142; refine (rfail2_any _).mono ?_; rintro e w2 ⟨rfl, hS2⟩; have hb2 := hS2.heap (((Only.refl (fun _ => False) w1).alloc _).heap (hS1.heap (HB.out _) (fun h => h)) (fun h => h)) (fun h => h); obtain ⟨m0, m1, m2, m3⟩ := pair_facts hb2))
    have hfin := pair_set hb2 (.string (str [])) (.bool true)
    (try simp only [Exit.inBlock, Exit.then])
    refine bodyPost_ret (results_ct rfl _ _ _ _ _ _ _ rfl hfin Try.underlying156 rfl (by kernel_rfl)) rfl ?_
    rw [HV.out, if_pos hbig]
    exact ⟨rfl, (((((((Only.refl (fun _ => False) w).alloc _).alloc _).then hS1).alloc _).then hS2).setCell (fun h => absurd h (by simp)) _).setCell (fun h => absurd h (by simp)) _⟩
  · have e : IntKind.i64.wrap (n : Int) = n := by rw [IntKind.wrap_i64]; omega
    go_wp2_with (go_at_call 141; refine (HC.out _).mono ?_; rintro e w1 ⟨rfl, hS1⟩; have hb1 := fun o => ((Only.refl (fun _ => False) w1).alloc o).heap (hS1.heap (HB.out _) (fun h => h)) (fun h => h); have m0 := fun o => (pair_facts (hb1 o)).1; have m1 := fun o => (pair_facts (hb1 o)).2.1; have m2 := fun o => (pair_facts (hb1 o)).2.2.1; have m3 := fun o => (pair_facts (hb1 o)).2.2.2)
    have hfin := pair_set (hb1 (.cells #[.string (str (st'.getD [])), .bool st'.isNone] 156)) (.string (str (st'.getD []))) (.bool st'.isNone)
    (try simp only [Exit.inBlock, Exit.then])
    refine bodyPost_ret (results_ct rfl _ _ _ _ _ _ _ rfl hfin Try.underlying156 rfl (by kernel_rfl)) rfl ?_
    rw [HV.out, if_neg hbig]
    exact ⟨rfl, ((((((Only.refl (fun _ => False) w).alloc _).alloc _).then hS1).alloc _).setCell (fun h => absurd h (by simp)) _).setCell (fun h => absurd h (by simp)) _⟩

end Go.Proofs.Ytjegohibpojneaa
