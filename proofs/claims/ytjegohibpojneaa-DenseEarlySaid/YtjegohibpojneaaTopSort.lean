import Derived.Test.YtjegohibpojneaaTopSortP
import Derived.Test.YtjegohibpojneaaTopShelf
import Derived.Shelf.SlSortCmp.NoneTotal
set_option linter.unusedVariables false
set_option linter.unusedSimpArgs false
namespace Go.Proofs.Ytjegohibpojneaa
open Go.RowKit

/-- slices.SortFunc at a row of documents, by the order of List. -/
theorem sortfunc_any (t c base : Nat) (v : Value) (l : List (Int × Int)) (w : World) (hown : w.ownsRow base 89 2 v l.length (cells2 l)) (hc : w.cell? ⟨c, 0, none⟩ = some (.pointer (some ⟨t, 0, none⟩))) (hf : w.cell? ⟨t, 2, none⟩ = some (.func (.func 51) #[] #[])) (hne : ∀ g, v.ownBlock = some g → g ≠ c ∧ g ≠ t) (hlen : l.length < 1000000) :
    Calls Try.prog 111 #[v, .func (.func 110) #[] #[.pointer (some ⟨c, 0, none⟩)]] w fun e w' => e = .returned (.tuple #[]) ∧ Only (fun i => v.ownBlock = some i) w w' ∧ w'.ownsRow base 89 2 v l.length (cells2 (sortP l)) := by
  rcases hown.2 with ⟨rfl, h0⟩ | ⟨g, cap, cs, rfl, hbase, hb, h1, h2, h3, h4⟩
  · obtain rfl : l = [] := List.eq_nil_of_length_eq_zero h0
    refine (AnyF.slices_SortFunc_none Try.sortScored none 0 _ w).mono ?_
    rintro e w' ⟨rfl, rfl⟩
    exact ⟨rfl, Only.refl _ _, hown⟩
  · have hH := holds2 hb h4
    have hsw : Go.Sort.SWO (ltOf cmpP) := by
      have : ltOf cmpP = fun x y => betP x y := by funext x y; exact cmp_lt x y
      rw [this]; exact swo2
    have hgn := hne g rfl
    have hcmp : CmpLays Try.prog 110 #[.pointer (some ⟨c, 0, none⟩)] enc2 2 cmpP g 0 l.toArray.size w := by
      intro m os dk hs x y
      have hO := only_sort2 (w := w) (g := g) (n := m) (os := os) dk
      refine (order_fwd x y c t _ (hO.cell_eq hc (fun h => hgn.1 h.symm)) (hO.cell_eq hf (fun h => hgn.2 h.symm))).mono ?_
      rintro e w' ⟨rfl, hF⟩
      exact ⟨rfl, hF.grow⟩
    refine (AnyQ.slices_SortFunc Try.sortScored 2 (fun w => by kernel_rfl) (fun w => by kernel_rfl) enc2 (fun x => rfl) (by intro x v hv; simp [enc2] at hv; rcases hv with rfl | rfl <;> rfl) cmpP hsw _ _ g 0 cap l.toArray w (enters_of Try.func110 (by kernel_rfl) rfl) hcmp hH (heap_lt hb) (by simp; omega)).mono ?_
    rintro e w' ⟨rfl, d', n, os, hp, hs, rfl⟩
    have e1 : d' = (sortP l).toArray := sorted_perm hp (by
      intro i j a b c
      have := hs i j a b c
      unfold ltOf at this
      rw [cmp_lt] at this
      exact this)
    subst e1
    exact ⟨rfl, (only_sort2 _).mono (fun k _ e => by subst e; rfl), own_sort2 (sortP_len l) hbase hb h1 h2 h3⟩
end Go.Proofs.Ytjegohibpojneaa
