import Derived.Test.YtjegohibpojneaaTopOfferL
import Derived.Test.YtjegohibpojneaaTopOfferY
set_option linter.unusedVariables false
set_option linter.unusedSimpArgs false
namespace Go.Proofs.Ytjegohibpojneaa
open Go.RowKit

def lastT (s : List (Int × Int)) : Int × Int := hp s (s.length - 1)
/-- The worst of a heap is the last of its order. -/
theorem heap_last (h s : List (Int × Int)) (hh : HeapP h) (hpm : h.Perm s) (hs : SortP s) (h0 : 0 < s.length) : hp h 0 = lastT s := by
  have hlen := hpm.length_eq
  have hl1 : s.length - 1 < s.length := by omega
  have h1 : noP (lastT s) (hp h 0) := by
    obtain ⟨j, hj, hje⟩ := List.mem_iff_getElem.1 (hpm.mem_iff.2 (List.getElem_mem hl1))
    have := heap_root h hh j j (Nat.le_refl _) hj
    rw [hp_eq h j hj, hje] at this
    unfold lastT
    rw [hp_eq s _ hl1]
    exact this
  have h2 : noP (hp h 0) (lastT s) := by
    rw [hp_eq h 0 (by omega)]
    obtain ⟨i, hi, hie⟩ := List.mem_iff_getElem.1 (hpm.mem_iff.1 (List.getElem_mem (l := h) (n := 0) (by omega)))
    rw [← hie]
    unfold lastT
    rw [hp_eq s _ hl1]
    by_cases e : i = s.length - 1
    · subst e; exact noP_refl _
    · exact (List.pairwise_iff_getElem.1 hs) i (s.length - 1) hi hl1 (by omega)
  exact h2.anti h1
def keptP (K : Int) (l : List (Int × Int)) (x : Int × Int) : Bool := decide (0 < K) && (decide ((bestP K l).length < K.toNat) || betP x (lastT (bestP K l)))
def worstQ (K : Int) (s : List (Int × Int)) : (Int × Int) × Bool := if s.length < K.toNat ∨ K.toNat = 0 then ((0, 0), false) else (lastT s, true)
theorem worst_eq (K : Int) (h s : List (Int × Int)) (hh : HeapP h) (hpm : h.Perm s) (hs : SortP s) : worstP K.toNat h = worstQ K s := by
  unfold worstP worstQ
  have hlen := hpm.length_eq
  rw [hlen]
  split
  · rfl
  · rename_i hc
    have := heap_last h s hh hpm hs (by omega)
    unfold hp at this
    rw [this]
/-- Offer, whatever the bound. -/
theorem toffer_any (b : Nat) (K : Int) (v : Value) (h l : List (Int × Int)) (x : Int × Int) (w : World) (ht : TopV w b K.toNat v h) (hh : HeapP h) (hpm : h.Perm (bestP K l)) (hlen : l.length < 1000000) (hK : K ≤ 9223372036854775807) :
    Calls Try.prog 53 #[.pointer (some ⟨b, 0, none⟩), pairV x] w fun e w' => e = .returned (.bool (keptP K l x)) ∧ ∃ h', TopAt w' b K.toNat h' ∧ HeapP h' ∧ h'.Perm (bestP K (l ++ [x])) ∧ Only (fun i => i = b ∨ v.ownBlock = some i) w w' := by
  have hle := hpm.length_eq
  have hbl := bestP_len K l
  have htA : TopAt w b K.toNat h := ⟨v, ht⟩
  by_cases h0 : K.toNat = 0
  · have hk : keptP K l x = false := by unfold keptP; rw [decide_eq_false (by omega)]; rfl
    rw [hk]
    have hl0 : h.length = 0 := by omega
    have htA0 := htA
    rw [h0] at htA0
    refine (toffer_zero b h x w htA0 hl0).mono ?_
    rintro e w' ⟨rfl, hS⟩
    exact ⟨rfl, h, htA.same hS, hh, offer_no h l K x hh hpm (by omega) (.inl h0), hS.mono (fun _ _ h => h.elim)⟩
  by_cases hlt : h.length < K.toNat
  · have hk : keptP K l x = true := by unfold keptP; rw [decide_eq_true (by omega), decide_eq_true (by omega)]; rfl
    rw [hk]
    refine (toffer_less b K.toNat v h x w ht hlt (by omega) (by omega) hh).mono ?_
    rintro e w' ⟨rfl, h', hp', hh', hT', hO⟩
    exact ⟨rfl, h', hT', hh', hp'.trans (offer_less h l K x hpm hlt), hO⟩
  have hl : h.length = K.toNat := by omega
  have hlast := heap_last h _ hh hpm (bestP_sort K l) (by omega)
  have hk : keptP K l x = betP x (hp h 0) := by
    unfold keptP
    rw [decide_eq_true (by omega), decide_eq_false (by omega), hlast]
    rfl
  rw [hk]
  cases hb : betP x (hp h 0) with
  | false =>
    refine (toffer_no b K.toNat h x w htA (by omega) hl (by omega) hb).mono ?_
    rintro e w' ⟨rfl, hS⟩
    exact ⟨rfl, h, htA.same hS, hh, offer_no h l K x hh hpm hl (.inr hb), hS.mono (fun _ _ h => h.elim)⟩
  | true =>
    refine (toffer_yes b K.toNat h x w htA (by omega) hl (by omega) hh hb).mono ?_
    rintro e w' ⟨rfl, g, cap, h', hG, hO, hp', hh', hG'⟩
    refine ⟨rfl, h', hG'.top, hh', hp'.trans (offer_yes h l K x hh hpm hl (by omega) hb), hO.mono (fun k _ e => .inr ?_)⟩
    subst e
    have h1 := ht.1.symm.trans hG.1
    simp at h1
    rw [h1]; rfl
end Go.Proofs.Ytjegohibpojneaa
