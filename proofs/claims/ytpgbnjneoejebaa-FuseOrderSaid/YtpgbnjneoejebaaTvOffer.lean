import Derived.Test.YtpgbnjneoejebaaTvOfferL
import Derived.Test.YtpgbnjneoejebaaTvOfferY
set_option linter.unusedVariables false
set_option linter.unusedSimpArgs false
namespace Go.Proofs.Ytpgbnjneoejebaa
open Go.RowKit

def lastV (s : List VP) : VP := hpG s (s.length - 1)
/-- The worst of a heap is the last of its order. -/
theorem gheap_last (h s : List VP) (hh : HeapG h) (hpm : h.Perm s) (hs : SortG s) (h0 : 0 < s.length) : hpG h 0 = lastV s := by
  have hlen := hpm.length_eq
  have hl1 : s.length - 1 < s.length := by omega
  have h1 : noG (lastV s) (hpG h 0) := by
    obtain ⟨j, hj, hje⟩ := List.mem_iff_getElem.1 (hpm.mem_iff.2 (List.getElem_mem hl1))
    have := gheap_root h hh j j (Nat.le_refl _) hj
    rw [hpG_eq h j hj, hje] at this
    unfold lastV
    rw [hpG_eq s _ hl1]
    exact this
  have h2 : noG (hpG h 0) (lastV s) := by
    rw [hpG_eq h 0 (by omega)]
    obtain ⟨i, hi, hie⟩ := List.mem_iff_getElem.1 (hpm.mem_iff.1 (List.getElem_mem (l := h) (n := 0) (by omega)))
    rw [← hie]
    unfold lastV
    rw [hpG_eq s _ hl1]
    by_cases e : i = s.length - 1
    · subst e; exact noG_refl _
    · exact (List.pairwise_iff_getElem.1 hs) i (s.length - 1) hi hl1 (by omega)
  exact h2.anti h1
def keptV (K : Int) (l : List VP) (x : VP) : Bool := decide (0 < K) && (decide ((bestG K l).length < K.toNat) || Bet.bet x (lastV (bestG K l)))
/-- Offer, whatever the bound. -/
theorem tvoffer_any (b : Nat) (K : Int) (v : Value) (h l : List VP) (x : VP) (w : World) (ht : TvV w b K.toNat v h) (hh : HeapG h) (hpm : h.Perm (bestG K l)) (hlen : l.length < 1000000) (hK : K ≤ 9223372036854775807) :
    Calls Try.prog 66 #[.pointer (some ⟨b, 0, none⟩), vpV x] w fun e w' => e = .returned (.bool (keptV K l x)) ∧ ∃ h', TvAt w' b K.toNat h' ∧ HeapG h' ∧ h'.Perm (bestG K (l ++ [x])) ∧ Only (fun i => i = b ∨ v.ownBlock = some i) w w' := by
  have hle := hpm.length_eq
  have hbl := bestG_len K l
  have htA : TvAt w b K.toNat h := ⟨v, ht⟩
  by_cases h0 : K.toNat = 0
  · have hk : keptV K l x = false := by unfold keptV; rw [decide_eq_false (by omega)]; rfl
    rw [hk]
    have hl0 : h.length = 0 := by omega
    have htA0 := htA
    rw [h0] at htA0
    refine (tvoffer_zero b h x w htA0 hl0).mono ?_
    rintro e w' ⟨rfl, hS⟩
    exact ⟨rfl, h, htA.same hS, hh, goffer_no h l K x hh hpm (by omega) (.inl h0), hS.mono (fun _ _ h => h.elim)⟩
  by_cases hlt : h.length < K.toNat
  · have hk : keptV K l x = true := by unfold keptV; rw [decide_eq_true (by omega), decide_eq_true (by omega)]; rfl
    rw [hk]
    refine (tvoffer_less b K.toNat v h x w ht hlt (by omega) (by omega) hh).mono ?_
    rintro e w' ⟨rfl, h', hpG', hh', hT', hO⟩
    exact ⟨rfl, h', hT', hh', hpG'.trans (goffer_less h l K x hpm hlt), hO⟩
  have hl : h.length = K.toNat := by omega
  have hlast := gheap_last h _ hh hpm (bestG_sort K l) (by omega)
  have hk : keptV K l x = Bet.bet x (hpG h 0) := by
    unfold keptV
    rw [decide_eq_true (by omega), decide_eq_false (by omega), hlast]
    rfl
  rw [hk]
  cases hb : Bet.bet x (hpG h 0) with
  | false =>
    refine (tvoffer_no b K.toNat h x w htA (by omega) hl (by omega) hb).mono ?_
    rintro e w' ⟨rfl, hS⟩
    exact ⟨rfl, h, htA.same hS, hh, goffer_no h l K x hh hpm hl (.inr hb), hS.mono (fun _ _ h => h.elim)⟩
  | true =>
    refine (tvoffer_yes b K.toNat h x w htA (by omega) hl (by omega) hh hb).mono ?_
    rintro e w' ⟨rfl, g, cap, h', hG, hO, hpG', hh', hG'⟩
    refine ⟨rfl, h', hG'.top, hh', hpG'.trans (goffer_yes h l K x hh hpm hl (by omega) hb), hO.mono (fun k _ e => .inr ?_)⟩
    subst e
    have h1 := ht.1.symm.trans hG.1
    simp at h1
    rw [h1]; rfl
end Go.Proofs.Ytpgbnjneoejebaa
