import Derived.Test.YtjegohibpojneaaVdEff
set_option linter.unusedVariables false
set_option linter.unusedSimpArgs false
namespace Go.Proofs.Ytjegohibpojneaa
open Go.RowKit
attribute [local go_sem ↓] Go.wp_at_zero Go.wp_at_succ

def noF : FileP := (⟨#[]⟩, 0)
/-- A file, if the power is on. -/
def thereO (down : Bool) (o : Option FileP) : FileP × Int := if down then (noF, 7) else match o with | none => (noF, 4) | some f => (f, 0)
def thereD (d : Dk) (k : List UInt8) : FileP × Int := thereO d.down (getS d.F k)
set_option maxRecDepth 100000 in
set_option maxHeartbeats 4000000 in
theorem there_any (b mb : Nat) (d : Dk) (s : ByteArray) (w : World) (h : DkW w b mb d) (hs : s.size ≤ maxLen) :
    Calls Try.prog 122 #[.pointer (some ⟨b, 0, none⟩), .string s] w fun e w' => e = .returned (.tuple #[fileV (thereD d s.data.toList).1, .int .i64 (thereD d s.data.toList).2]) ∧ Same w w' := by
  have hS0 : Same w (w.alloc (.cells #[.string ⟨#[]⟩, .int .i64 0] 190)) := (Only.refl _ w).alloc _
  have hA0 := blk_new w (.cells #[.string ⟨#[]⟩, .int .i64 0] 190)
  have h0 := h.same hS0
  have hlk := h0.2.run_look_ok (t := 186) (e := 190) Try.underlying9 Try.underlying186 (z := .agg #[.string ⟨#[]⟩, .int .i64 0]) (by kernel_rfl) s hs
  have c1 := blk_cells h0.1 1
  have c5 := blk_cells h0.1 5
  simp only [List.getElem?_toArray, List.getElem?_cons_succ, List.getElem?_cons_zero] at c1 c5
  have HS0 := Lib.hid hS0
  obtain ⟨of, hof⟩ : ∃ f, f = getS d.F s.data.toList := ⟨_, rfl⟩
  rw [← hof] at hlk
  have HT : Hid (thereD d s.data.toList = thereO d.down of) := Lib.hid (by unfold thereD; rw [hof])
  obtain ⟨dn, hdn⟩ : ∃ dn, dn = d.down := ⟨_, rfl⟩
  rw [← hdn] at HT c5
  rw [HT.out]
  clear hdn
  obtain ⟨fs, fn, hfv⟩ : ∃ fs fn, ((of.map fileV).getD (.agg #[.string ⟨#[]⟩, .int .i64 0])) = .agg #[.string fs, .int .i64 fn] := by cases of with
    | none => exact ⟨_, _, rfl⟩
    | some f => exact ⟨f.1, f.2, rfl⟩
  rw [hfv] at hlk
  have HFV := Lib.hid hfv
  clear h hS0 h0 hof hfv
  go_enter Try.func122, Try.ntmps122
  go_upto_region 1 with fail
  generalize hw0 : w.alloc (.cells #[.string ⟨#[]⟩, .int .i64 0] 190) = W at *
  have hS1 : Same W (W.alloc (.cells #[.string fs, .int .i64 fn] 190)) := (Only.refl _ W).alloc _
  have hA1 := blk_new W (.cells #[.string fs, .int .i64 fn] 190)
  go_upto_region 2 with fail
  generalize W.alloc (.cells #[.string fs, .int .i64 fn] 190) = w1 at *
  have c5 := hS1.cell_eq c5 (fun h => h)
  have hA0 := hS1.heap hA0 (fun h => h)
  obtain ⟨v0, v1, _, _⟩ := two_facts hA1
  obtain ⟨u0, u1, z0, z1⟩ := two_facts hA0
  have HA0 := Lib.hid hA0; have HS1 := Lib.hid (HS0.out.then hS1)
  clear hlk hA1 hA0 hS1 c1 hw0
  have hfin : ∀ x y, (∀ w', w' = (w1.setCell ⟨w.heap.size, 0, none⟩ x).setCell ⟨w.heap.size, 1, none⟩ y → Same w w') := by
    rintro x y w' rfl
    exact (HS1.out.setCell (fun h => by have h2 : w.heap.size < w.heap.size := h; omega) _).setCell (fun h => by have h2 : w.heap.size < w.heap.size := h; omega) _
  have HFIN := Lib.hid hfin
  clear hfin
  cases dn with
  | true =>
    go_wp2
    refine bodyPost_ret (results_ctb rfl _ _ _ _ _ _ _ rfl (blk_set (j := 1) (blk_set (j := 0) HA0.out)) Try.underlying190 rfl (by kernel_rfl)) rfl ?_
    exact ⟨rfl, HFIN.out _ _ _ rfl⟩
  | false =>
    cases of with
    | none =>
      go_wp2
      refine bodyPost_ret (results_ctb rfl _ _ _ _ _ _ _ rfl (blk_set (j := 1) (blk_set (j := 0) HA0.out)) Try.underlying190 rfl (by kernel_rfl)) rfl ?_
      exact ⟨rfl, HFIN.out _ _ _ rfl⟩
    | some f =>
      have hfe := HFV.out
      simp only [Option.map_some, Option.getD_some, fileV] at hfe
      have HFE := Lib.hid hfe
      clear hfe
      go_wp2
      refine bodyPost_ret (results_ctb rfl _ _ _ _ _ _ _ rfl (blk_set (j := 1) (blk_set (j := 0) HA0.out)) Try.underlying190 rfl (by kernel_rfl)) rfl ?_
      refine ⟨?_, HFIN.out _ _ _ rfl⟩
      show Ending.returned (.tuple #[.agg #[.string fs, .int .i64 fn], .int .i64 0]) = Ending.returned (.tuple #[fileV f, .int .i64 0])
      unfold fileV
      rw [HFE.out]
end Go.Proofs.Ytjegohibpojneaa
