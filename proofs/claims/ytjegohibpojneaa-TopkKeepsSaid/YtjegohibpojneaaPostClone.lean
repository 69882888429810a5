import Derived.Test.YtjegohibpojneaaPairs
import Derived.Test.YtjegohibpojneaaDocPrint
import Derived.WalkSpells
set_option linter.unusedVariables false
set_option linter.unusedSimpArgs false
namespace Go.Proofs.Ytjegohibpojneaa
open Go.RowKit

theorem SlP.news {w : World} {ad : Option Addr} {n c : Nat} {l : List (Int × Int)} (h : SlP w (.slice ad n c) l) :
    n = l.length ∧ (ad = none → n = 0 ∧ c = 0) ∧ ∀ b, ad = some b → ∀ j u, (cells2 l)[j]? = some u → w.cell? (b.add j) = some u := by
  obtain ⟨ad', c', he, h1, h2, h3, h4⟩ := h
  simp only [Value.slice.injEq] at he
  obtain ⟨rfl, rfl, rfl⟩ := he
  refine ⟨rfl, fun h => ⟨by have := h3 h; omega, h3 h⟩, fun b hb j u hu => ?_⟩
  have hj : j < l.length * 2 := by
    rcases Nat.lt_or_ge j (l.length * 2) with h | h
    · exact h
    · rw [List.getElem?_eq_none (by rw [cells2_len]; exact h)] at hu; cases hu
  obtain ⟨b', off, e, hc⟩ := h4 (by omega)
  obtain rfl : b = ⟨b', off, none⟩ := by rw [hb] at e; exact Option.some.inj e
  have e1 : (⟨b', off, none⟩ : Addr).add j = ⟨b', off + j, none⟩ := by unfold Addr.add; split <;> simp_all
  rw [e1]
  have hi : j / 2 < l.length := by omega
  obtain ⟨c1, c2⟩ := cells2_at l (j / 2) hi
  obtain ⟨d1, d2⟩ := hc (j / 2) hi
  rcases Nat.mod_two_eq_zero_or_one j with hm | hm
  · rw [show j / 2 * 2 = j by omega] at c1 d1
    rw [c1] at hu
    rw [d1, ← hu]
  · rw [show j / 2 * 2 + 1 = j by omega] at c2
    rw [show off + j / 2 * 2 + 1 = off + j by omega] at d2
    rw [c2] at hu
    rw [d2, ← hu]
theorem own_blk0 {w : World} {g : Nat} {size : Nat} {e : TypeId} (h : w.heap[g]? = some (.cells #[] e (0, 0))) : w.ownsRow g e size (.slice (some ⟨g, 0, none⟩) 0 0) 0 [] :=
  ⟨by simp, .inr ⟨g, 0, #[], rfl, Nat.le_refl _, h, Nat.le_refl _, by simp [maxLen], by simp, by simp⟩⟩
set_option maxRecDepth 100000 in
set_option maxHeartbeats 1000000 in
/-- slices.Clone at posts. -/
theorem pclone_any (v : Value) (l : List (Int × Int)) (w : World) (hv : SlP w v l) (hl : l.length ≤ 1000000) :
    Calls Try.prog 100 #[v] w fun e w' => ∃ v', e = .returned v' ∧ Same w w' ∧ SlP w' v' l ∧ Fr w.heap.size v' := by
  have HV := Lib.hid hv
  obtain ⟨ad, cp, rfl, hcp, hmx⟩ := hv.lit
  obtain ⟨-, hnil, hnews⟩ := hv.news
  have HN := Lib.hid hnews
  clear hv hnews
  cases ad with
  | none =>
    obtain ⟨h0, rfl⟩ := hnil rfl
    have hl0 : l = [] := List.eq_nil_of_length_eq_zero h0
    subst hl0
    have he := @Lib.run_eql_slice_nil Try.prog
    go_enter Try.func100, Try.ntmps100
    go_wp2_with fail
    go_ret
    exact ⟨_, rfl, Only.refl _ _, SlP.nil _, Fr.nil _ _ _⟩
  | some a =>
    clear hnil
    unfold maxLen at hmx
    have hinf : (Try.prog.info? 77).map (fun i => (i.zero, i.size, i.bytes)) = some (some (.agg #[.int .i64 0, .int .i64 0]), 2, 16) := by kernel_rfl
    have HINF := Lib.hid hinf
    have he := @Lib.run_eql_slice_nil Try.prog
    clear hinf
    go_enter Try.func100, Try.ntmps100
    go_wp2_with (at_builtin; refine app_any rfl (.tmp 5) (.tmp 6) 55 rfl w.heap.size 77 (.agg #[.int .i64 0, .int .i64 0]) 2 16 Try.underlying55 HINF.out rfl (by decide) (.slice (some ⟨w.heap.size, 0, none⟩) 0 0) 0 [] rfl (own_blk0 (blk_new w (.cells #[] 77))) (some a) l.length cp (cells2 l) rfl ?_ (cells2_len l) (by intro h; cases h) (fun b hb j u hu => ((Only.refl (fun _ => False) w).alloc _).cell_at (HN.out b hb j u hu) (fun h => h)) (cells2_one l) (by unfold maxLen; omega) (by omega) (by simp); intro v' w1 hown hO)
    rw [Nat.zero_add, List.nil_append] at hown
    go_ret
    exact ⟨_, rfl, ((Only.refl (fun _ => False) w).alloc (.cells #[] 77)).trans hO (fun k h1 h => by have h2 : w.heap.size ≤ k := h; omega), own_slp hown, own_fr hown⟩
end Go.Proofs.Ytjegohibpojneaa
