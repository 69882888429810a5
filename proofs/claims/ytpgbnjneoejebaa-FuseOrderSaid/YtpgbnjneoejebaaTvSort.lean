import Derived.Test.YtpgbnjneoejebaaTvSortP
import Derived.Test.YtpgbnjneoejebaaTvShelf
import Derived.Shelf.SlSortCmp.NoneTotal
set_option linter.unusedVariables false
set_option linter.unusedSimpArgs false
namespace Go.Proofs.Ytpgbnjneoejebaa
open Go.RowKit

/-- slices.SortFunc at a row of documents, by the order of List. -/
theorem vsortfunc_any (t c base : Nat) (v : Value) (l : List VP) (w : World) (hown : w.ownsRow base 35 3 v l.length (cells3 l)) (hc : w.cell? ⟨c, 0, none⟩ = some (.pointer (some ⟨t, 0, none⟩))) (hf : w.cell? ⟨t, 2, none⟩ = some (.func (.func 14) #[] #[])) (hne : ∀ g, v.ownBlock = some g → g ≠ c ∧ g ≠ t) (hlen : l.length < 1000000) :
    Calls Try.prog 96 #[v, .func (.func 95) #[] #[.pointer (some ⟨c, 0, none⟩)]] w fun e w' => e = .returned (.tuple #[]) ∧ Only (fun i => v.ownBlock = some i) w w' ∧ w'.ownsRow base 35 3 v l.length (cells3 (sortG l)) := by
  rcases hown.2 with ⟨rfl, h0⟩ | ⟨g, cap, cs, rfl, hbase, hb, h1, h2, h3, h4⟩
  · obtain rfl : l = [] := List.eq_nil_of_length_eq_zero h0
    refine (AnyF.slices_SortFunc_none Try.sortValues none 0 _ w).mono ?_
    rintro e w' ⟨rfl, rfl⟩
    exact ⟨rfl, Only.refl _ _, hown⟩
  · have hH := holds3 hb h4
    have hsw : Go.Sort.SWO (ltOf cmpV) := by
      have : ltOf cmpV = fun x y => Bet.bet x y := by funext x y; exact cmpV_lt x y
      rw [this]; exact swo3
    have hgn := hne g rfl
    have hcmp : CmpLays Try.prog 95 #[.pointer (some ⟨c, 0, none⟩)] enc3 3 cmpV g 0 l.toArray.size w := by
      intro m os dk hs x y
      have hO := only_sort3 (w := w) (g := g) (n := m) (os := os) dk
      refine (vorder_fwd x y c t _ (hO.cell_eq hc (fun h => hgn.1 h.symm)) (hO.cell_eq hf (fun h => hgn.2 h.symm))).mono ?_
      rintro e w' ⟨rfl, hF⟩
      exact ⟨rfl, hF.grow⟩
    refine (AnyQ.slices_SortFunc Try.sortValues 3 (fun w => by kernel_rfl) (fun w => by kernel_rfl) enc3 (fun x => rfl) (by intro x v hv; simp [enc3] at hv; rcases hv with rfl | rfl | rfl <;> rfl) cmpV hsw _ _ g 0 cap l.toArray w (enters_of Try.func95 (by kernel_rfl) rfl) hcmp hH (heap_lt hb) (by simp; omega)).mono ?_
    rintro e w' ⟨rfl, d', n, os, hpG, hs, rfl⟩
    have e1 : d' = (sortG l).toArray := gsorted_perm hpG (by
      intro i j a b c
      have := hs i j a b c
      unfold ltOf at this
      rw [cmpV_lt] at this
      exact this)
    subst e1
    exact ⟨rfl, (only_sort3 _).mono (fun k _ e => by subst e; rfl), own_sort3 (sortG_len l) hbase hb h1 h2 h3⟩
end Go.Proofs.Ytpgbnjneoejebaa
