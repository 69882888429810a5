import Derived.Test.YtpgbnjneoejebaaTvOffer
import Derived.Test.YtpgbnjneoejebaaTvSort
set_option linter.unusedVariables false
set_option linter.unusedSimpArgs false
namespace Go.Proofs.Ytpgbnjneoejebaa
open Go.RowKit
attribute [local go_sem ↓] Go.wp_at_zero Go.wp_at_succ

set_option maxRecDepth 100000 in
set_option maxHeartbeats 4000000 in
/-- List: all that is kept, in order, in a row of its own. -/
theorem tvlist_any (b k : Nat) (h : List VP) (w : World) (ht : TvAt w b k h) (hl : h.length ≤ 900000) :
    Calls Try.prog 67 #[.pointer (some ⟨b, 0, none⟩)] w fun e w' => ∃ v', e = .returned v' ∧ Same w w' ∧ w'.ownsRow w.heap.size 35 3 v' h.length (cells3 (sortG h)) := by
  have hS0 : Same w (w.alloc (.cells #[.pointer (some ⟨b, 0, none⟩)] 124)) := (Only.refl _ w).alloc _
  have hA := blk_new w (.cells #[.pointer (some ⟨b, 0, none⟩)] 124)
  have ht1 := ht.same hS0
  have hbw : b < w.heap.size := by obtain ⟨v, h1, _⟩ := ht; exact heap_lt h1
  obtain ⟨v, h1, h2⟩ := ht1
  have HSL := Lib.hid (own_slv h2)
  obtain ⟨⟨k0, k1, k2⟩, _⟩ := three_facts h1
  have p0 := blk_cells hA 0
  simp only [List.getElem?_toArray, List.getElem?_cons_zero] at p0
  have HS0 := Lib.hid hS0
  have hwz := heap_lt hA
  clear ht h1 h2 hA hS0
  go_enter Try.func67, Try.ntmps67
  go_upto_region 1 with fail
  generalize w.alloc (.cells #[.pointer (some ⟨b, 0, none⟩)] 124) = W at *
  go_wp2_with fail
  refine (vclone_any v h W HSL.out (by omega)).mono ?_
  rintro e w1 ⟨v1, rfl, hS1, hown1⟩
  have hc1 := hS1.cell_eq p0 (fun h => h)
  have hf1 := hS1.cell_eq k2 (fun h => h)
  have HS1 := Lib.hid (HS0.out.then hS1)
  have HOW := Lib.hid hown1
  have cs := vsortfunc_any b w.heap.size W.heap.size v1 h w1 hown1 hc1 hf1 (fun g hg => by have := (hown1.lt g hg).1; omega) (by omega)
  have HCS := Lib.hid cs
  clear cs hS1 hown1 k0 k1 k2 p0
  go_wp2_with fail
  refine HCS.out.mono ?_
  rintro e w2 ⟨rfl, hO2, hown2⟩
  have HF := Lib.hid (HS1.out.trans hO2 (S := fun _ => False) (fun k hk h => by have := (HOW.out.lt k h).1; omega))
  have HOW2 := Lib.hid (own_lo hown2 (Nat.le_of_lt hwz))
  clear hO2 hown2 hc1 hf1
  go_wp2_with fail
  go_ret
  exact ⟨_, rfl, HF.out, HOW2.out⟩
end Go.Proofs.Ytpgbnjneoejebaa
