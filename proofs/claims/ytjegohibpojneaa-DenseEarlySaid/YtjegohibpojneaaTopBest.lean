import Derived.Test.YtjegohibpojneaaTopOffer
import Derived.Test.YtjegohibpojneaaTopSort
set_option linter.unusedVariables false
set_option linter.unusedSimpArgs false
namespace Go.Proofs.Ytjegohibpojneaa
open Go.RowKit
attribute [local go_sem ↓] Go.wp_at_zero Go.wp_at_succ

set_option maxRecDepth 100000 in
set_option maxHeartbeats 4000000 in
/-- List: all that is kept, in order, in a row of its own. -/
theorem tlist_any (b k : Nat) (h : List (Int × Int)) (w : World) (ht : TopAt w b k h) (hl : h.length ≤ 900000) :
    Calls Try.prog 58 #[.pointer (some ⟨b, 0, none⟩)] w fun e w' => ∃ v', e = .returned v' ∧ Same w w' ∧ w'.ownsRow w.heap.size 89 2 v' h.length (cells2 (sortP h)) := by
  have hS0 : Same w (w.alloc (.cells #[.pointer (some ⟨b, 0, none⟩)] 86)) := (Only.refl _ w).alloc _
  have hA := blk_new w (.cells #[.pointer (some ⟨b, 0, none⟩)] 86)
  have ht1 := ht.same hS0
  have hbw : b < w.heap.size := by obtain ⟨v, h1, _⟩ := ht; exact heap_lt h1
  obtain ⟨v, h1, h2⟩ := ht1
  have HSL := Lib.hid (own_slp h2)
  obtain ⟨⟨k0, k1, k2⟩, _⟩ := three_facts h1
  have p0 := blk_cells hA 0
  simp only [List.getElem?_toArray, List.getElem?_cons_zero] at p0
  have HS0 := Lib.hid hS0
  have hwz := heap_lt hA
  clear ht h1 h2 hA hS0
  go_enter Try.func58, Try.ntmps58
  go_upto_region 1 with fail
  generalize w.alloc (.cells #[.pointer (some ⟨b, 0, none⟩)] 86) = W at *
  go_wp2_with fail
  refine (sclone_any v h W HSL.out (by omega)).mono ?_
  rintro e w1 ⟨v1, rfl, hS1, hown1⟩
  have hc1 := hS1.cell_eq p0 (fun h => h)
  have hf1 := hS1.cell_eq k2 (fun h => h)
  have HS1 := Lib.hid (HS0.out.then hS1)
  have HOW := Lib.hid hown1
  have cs := sortfunc_any b w.heap.size W.heap.size v1 h w1 hown1 hc1 hf1 (fun g hg => by have := (hown1.lt g hg).1; omega) (by omega)
  have HCS := Lib.hid cs
  clear cs hS1 hown1 k0 k1 k2 p0
  go_wp2_with fail
  refine HCS.out.mono ?_
  rintro e w2 ⟨rfl, hO2, hown2⟩
  have HF := Lib.hid (HS1.out.trans hO2 (S := fun _ => False) (fun k hk h => by have := (HOW.out.lt k h).1; omega))
  have HOW2 := Lib.hid (own_lo hown2 (Nat.le_of_lt hwz))
  clear hO2 hown2 hc1 hf1
  go_wp2_with fail
  go_ret
  exact ⟨_, rfl, HF.out, HOW2.out⟩
set_option maxRecDepth 100000 in
set_option maxHeartbeats 4000000 in
/-- topk.Best of any documents. -/
theorem tbest_any (K : Int) (v : Value) (l : List (Int × Int)) (w : World) (hv : SlP w v l) (hl : l.length ≤ 900000) (hK : -9223372036854775808 ≤ K ∧ K ≤ 9223372036854775807) :
    Calls Try.prog 59 #[.int .i64 K, v] w fun e w' => ∃ v', e = .returned v' ∧ Same w w' ∧ w'.ownsRow w.heap.size 89 2 v' (bestP K l).length (cells2 (bestP K l)) := by
  have HV := Lib.hid hv
  obtain ⟨a1, c1, rfl, hc1, hm1⟩ := hv.lit
  have hmx : l.length ≤ 9223372036854775807 := by omega
  have HK := Lib.hid hK
  clear hv hc1 hm1 hK
  go_enter Try.func59, Try.ntmps59
  go_wp2_with fail
  refine (tnew_any K w HK.out).mono ?_
  rintro e w1 ⟨rfl, hS1, hT1⟩
  have HS1 := Lib.hid hS1; have HT1 := Lib.hid hT1
  clear hS1 hT1
  go_wp2_with fail
  go_loopw [12] (fun i wr => ∃ (k : Nat) (h : List (Int × Int)), k ≤ l.length ∧ i = .int .i64 k ∧ Same w wr ∧ TopAt wr w.heap.size K.toNat h ∧ HeapP h ∧ h.Perm (bestP K (l.take k))) (fun i _ => l.length - (intOf i).toNat)
  case atStart => exact ⟨0, [], by omega, rfl, HS1.out, HT1.out, fun j h0 h1 => by simp at h1, by simp [bestP, sortP]⟩
  case round =>
    obtain ⟨k, h, hk, rfl, hS, hT, hh, hpm⟩ := hrel
    have HS := Lib.hid hS; have HT := Lib.hid hT; have HH := Lib.hid hh; have HP := Lib.hid hpm
    clear hS hT hh hpm
    by_cases hlt : k < l.length
    · obtain ⟨b1, o1, rfl, hcell⟩ := HV.out.spot (by omega)
      have k1 := HS.out.cell_eq (hcell k hlt).1 (fun h => h)
      have k2 := HS.out.cell_eq (hcell k hlt).2 (fun h => h)
      obtain ⟨x, hx⟩ : ∃ x, x = l[k] := ⟨_, rfl⟩
      rw [← hx] at k1 k2
      have HX := Lib.hid hx
      clear hcell hx
      obtain ⟨u, hu⟩ := HT.out
      have HU := Lib.hid (show TopV wr w.heap.size K.toNat u h from hu)
      clear hu
      go_upto_region 5 with fail
      have hSa : Same wr (wr.alloc (.cells #[.int .i64 x.1, .int .i64 x.2] 89)) := (Only.refl _ wr).alloc _
      obtain ⟨p0, p1, _, _⟩ := two_facts (blk_new wr (.cells #[.int .i64 x.1, .int .i64 x.2] 89))
      have HSA := Lib.hid (HS.out.then hSa)
      have HUA := Lib.hid (HU.out.same hSa)
      generalize wr.alloc (.cells #[.int .i64 x.1, .int .i64 x.2] 89) = W at *
      clear hSa HS HT HU k1 k2
      go_wp2_with fail
      refine (toffer_any w.heap.size K u h (l.take k) x W HUA.out HH.out HP.out (by simp; omega) HK.out.2).mono ?_
      rintro e w2 ⟨rfl, h', hT', hh', hpm', hO'⟩
      have HF : Hid (Same w w2 ∧ TopAt w2 w.heap.size K.toNat h' ∧ HeapP h' ∧ h'.Perm (bestP K (l.take (k + 1)))) := Lib.hid (by
        refine ⟨HSA.out.trans hO' (fun i hi e => ?_), hT', hh', ?_⟩
        · rcases e with e | e
          · omega
          · have := (HUA.out.off i e).1; omega
        · have e := HX.out
          rw [← List.take_append_getElem hlt, ← e]
          exact hpm')
      clear hT' hh' hpm' hO' p0 p1
      go_wp2_with fail
      go_roundw
      case rel => exact ⟨k + 1, h', by omega, by go_num, HF.out⟩
      case measure => simp [intOf]; omega
    · obtain rfl : k = l.length := by omega
      rw [List.take_length] at HP
      go_wp2_with fail
      refine (tlist_any w.heap.size K.toNat h wr HT.out (by have := HP.out.length_eq; have := bestP_len K l; omega)).mono ?_
      rintro e w2 ⟨v2, rfl, hS2, hown⟩
      have e1 : sortP h = bestP K l := sort_uniq _ _ ((sortP_perm h).trans HP.out) (sortP_sort h) (bestP_sort K l)
      rw [e1, HP.out.length_eq] at hown
      have HOW := Lib.hid (own_lo hown HS.out.size)
      have HF := Lib.hid (HS.out.then hS2)
      clear hown e1 hS2
      go_wp2_with fail
      go_ret
      exact ⟨_, rfl, HF.out, HOW.out⟩
end Go.Proofs.Ytjegohibpojneaa
