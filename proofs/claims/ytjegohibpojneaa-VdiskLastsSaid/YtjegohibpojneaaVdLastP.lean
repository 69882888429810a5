import Derived.Test.YtjegohibpojneaaVdAwake
import Derived.Test.YtjegohibpojneaaVdFew
set_option linter.unusedVariables false
set_option linter.unusedSimpArgs false
namespace Go.Proofs.Ytjegohibpojneaa
open Go.RowKit

/-! what was synced lasts, plain -/
/-- A disk whose files hold just so many synced bytes each. -/
def VInv (wz : List UInt8 → Nat) (d : Dk) (N : Nat) : Prop :=
  d.quota = 1048576 ∧ d.cat = 0 ∧ d.down = false ∧ (0 ≤ d.count ∧ d.count ≤ N) ∧ (0 ≤ d.eff ∧ d.eff ≤ N) ∧ usedP d.F ≤ 1048576 ∧ d.F.length ≤ 64 ∧ SortS d.F ∧
    (∀ k x, getS d.F k = some x → x.2 = (wz k : Int) ∧ wz k ≤ x.1.size) ∧ ∀ k, getS d.F k = none → wz k = 0
theorem VInv.dok {wz : List UInt8 → Nat} {d : Dk} {N : Nat} (h : VInv wz d N) (hN : N ≤ 1000000) : DOK d := by
  obtain ⟨h1, h2, h3, h4, h5, h6, h7, h8, h9, _⟩ := h
  refine ⟨by omega, by omega, fun p hp => ?_, by omega, by omega⟩
  obtain ⟨e1, e2⟩ := h9 p.1 p.2 (getS_has h8 hp)
  omega
theorem VInv.mono {wz : List UInt8 → Nat} {d : Dk} {N M : Nat} (h : VInv wz d N) (hM : N ≤ M) : VInv wz d M := by
  obtain ⟨h1, h2, h3, h4, h5, h6⟩ := h
  exact ⟨h1, h2, h3, by omega, by omega, h6⟩
theorem vinv_new : VInv (fun _ => 0) (newD 1048576) 0 :=
  ⟨rfl, rfl, rfl, by decide, by decide, by decide, by decide, List.Pairwise.nil, fun k x h => by simp [newD, getS] at h, fun k h => rfl⟩
theorem toList_mk (k : List UInt8) : (⟨k.toArray⟩ : ByteArray).data.toList = k := by simp
theorem vinv_append {wz : List UInt8 → Nat} {d : Dk} {N : Nat} (h : VInv wz d N) (name s : ByteArray) (hN : N ≤ 1000000) : VInv wz (appendD d name s).1 (N + 1) := by
  have hk := h
  obtain ⟨h1, h2, h3, h4, h5, h6, h7, h8, h9, h10⟩ := h
  unfold appendD
  rw [h3]
  simp only [Bool.false_eq_true, if_false]
  split
  · exact hk.mono (by omega)
  split
  · exact hk.mono (by omega)
  · rename_i hr hf
    have hcn : ¬ ((grownD d name.data.toList s).count + 1 = (grownD d name.data.toList s).cat) := by
      show ¬ (d.count + 1 = d.cat)
      omega
    unfold effR
    rw [if_neg hcn]
    simp only [Bool.not_eq_true, fullD, Bool.or_eq_false_iff, Bool.and_eq_false_iff, decide_eq_false_iff_not] at hf
    obtain ⟨hf1, hf2⟩ := hf
    obtain ⟨g1, g2⟩ := sum_putS (fun f : FileP => f.1.size) name.data.toList (((getS d.F name.data.toList).getD noF).1 ++ s, ((getS d.F name.data.toList).getD noF).2) h8
    have hsz : ((((getS d.F name.data.toList).getD noF).1 ++ s).size) = ((getS d.F name.data.toList).map (fun f : FileP => f.1.size)).getD 0 + s.size := by
      rw [ByteArray.size_append]
      cases getS d.F name.data.toList with
      | none => rfl
      | some f => rfl
    simp only at g1
    have hud : usedP d.F = (d.F.map fun p => p.2.1.size).sum := rfl
    refine ⟨h1, h2, h3, ?_, ?_, ?_, ?_, sort_putS h8 _ _, fun k x hx => ?_, fun k hx => ?_⟩
    · show 0 ≤ d.count + 1 ∧ d.count + 1 ≤ _; omega
    · show 0 ≤ d.eff + 1 ∧ d.eff + 1 ≤ _; omega
    · show ((putS d.F _ _).map fun p => p.2.1.size).sum ≤ _
      omega
    · show (putS d.F name.data.toList (((getS d.F name.data.toList).getD noF).1 ++ s, ((getS d.F name.data.toList).getD noF).2)).length ≤ 64
      generalize (putS d.F name.data.toList (((getS d.F name.data.toList).getD noF).1 ++ s, ((getS d.F name.data.toList).getD noF).2)).length = L at *
      cases hg : getS d.F name.data.toList with
      | none =>
        rw [hg] at g2 hf1
        simp at g2 hf1
        omega
      | some x =>
        rw [hg] at g2
        simp at g2
        omega
    · have hx2 : getS (putS d.F name.data.toList _) k = some x := hx
      clear hx
      rw [getS_put h8] at hx2
      split at hx2
      · rename_i e
        subst e
        injection hx2 with hx2
        subst hx2
        simp only
        cases hg : getS d.F name.data.toList with
        | none => rw [h10 _ hg]; simp [noF]
        | some f =>
          obtain ⟨e1, e2⟩ := h9 _ _ hg
          simp only [Option.getD_some, ByteArray.size_append]
          omega
      · exact h9 k x hx2
    · have hx2 : getS (putS d.F name.data.toList _) k = none := hx
      clear hx
      rw [getS_put h8] at hx2
      split at hx2
      · cases hx2
      · exact h10 k hx2
theorem keys_get {α : Type} {F : EnS α} {k : List UInt8} : k ∈ F.map (·.1) ↔ (getS F k).isSome = true := by
  constructor
  · intro h
    obtain ⟨p, hp, rfl⟩ := List.mem_map.1 h
    unfold getS
    rw [Option.isSome_map, List.find?_isSome]
    exact ⟨p, hp, by simp⟩
  · intro h
    cases hg : getS F k with
    | none => rw [hg] at h; cases h
    | some x => exact List.mem_map.2 ⟨(k, x), has_getS hg, rfl⟩
/-- The disk amid the syncing of all its files: those of K are synced. -/
def SyI (d1 : Dk) (K : List (List UInt8)) (d : Dk) (N : Nat) : Prop :=
  d.quota = 1048576 ∧ d.cat = 0 ∧ d.down = false ∧ (0 ≤ d.count ∧ d.count ≤ N) ∧ (0 ≤ d.eff ∧ d.eff ≤ N) ∧ usedP d.F = usedP d1.F ∧ d.F.length = d1.F.length ∧ SortS d.F ∧
    (∀ k, (getS d.F k).map (·.1) = (getS d1.F k).map (·.1)) ∧ (∀ k x, getS d.F k = some x → 0 ≤ x.2 ∧ x.2 ≤ (x.1.size : Int) ∧ (k ∈ K → x.2 = (x.1.size : Int)))
theorem syi_start {d1 : Dk} {N : Nat} (h : VInv (fun _ => 0) d1 N) : SyI d1 [] d1 N := by
  obtain ⟨h1, h2, h3, h4, h5, h6, h7, h8, h9, _⟩ := h
  refine ⟨h1, h2, h3, h4, h5, rfl, rfl, h8, fun k => rfl, fun k x hx => ?_⟩
  obtain ⟨e1, e2⟩ := h9 k x hx
  refine ⟨by omega, by omega, fun h => absurd h (by simp)⟩
theorem SyI.dok {d1 d : Dk} {K : List (List UInt8)} {N : Nat} (h : SyI d1 K d N) (hN : N ≤ 1000000) (h1 : usedP d1.F ≤ 1048576) (h2 : d1.F.length ≤ 64) : DOK d := by
  obtain ⟨g1, g2, g3, g4, g5, g6, g7, g8, g9, g10⟩ := h
  refine ⟨by omega, by omega, fun p hp => ?_, by omega, by omega⟩
  obtain ⟨e1, e2, _⟩ := g10 p.1 p.2 (getS_has g8 hp)
  exact ⟨e1, e2⟩
theorem syi_step {d1 d : Dk} {K : List (List UInt8)} {N : Nat} (h : SyI d1 K d N) {k : List UInt8} (hk : k ∈ d1.F.map (·.1)) (hN : N ≤ 1000000) :
    (syncD d k).2 = 0 ∧ SyI d1 (K ++ [k]) (syncD d k).1 (N + 1) ∧ readD (syncD d k).1 k = (((getS d1.F k).map (·.1)).getD ⟨#[]⟩, 0) := by
  obtain ⟨g1, g2, g3, g4, g5, g6, g7, g8, g9, g10⟩ := h
  have hs : (getS d.F k).isSome = true := by
    have h1 := keys_get.1 hk
    have h2 := congrArg Option.isSome (g9 k)
    rw [Option.isSome_map, Option.isSome_map] at h2
    rw [h2]; exact h1
  cases hg : getS d.F k with
  | none => rw [hg] at hs; cases hs
  | some x =>
    have ht : thereD d k = (x, 0) := by unfold thereD thereO; rw [g3, hg]; rfl
    have hcn : ¬ (d.count + 1 = d.cat) := by omega
    have hsy : syncD d k = ({ d with count := d.count + 1, F := putS d.F k (x.1, (x.1.size : Int)), eff := d.eff + 1 }, 0) := by
      unfold syncD effR
      rw [ht]
      simp only [ne_eq, not_true_eq_false, if_false]
      rw [if_neg hcn]
    rw [hsy]
    obtain ⟨q1, q2⟩ := sum_putS (fun f : FileP => f.1.size) k (x.1, (x.1.size : Int)) g8
    rw [hg] at q1 q2
    simp only [Option.map_some, Option.getD_some] at q1
    have hud : ∀ F : EnS FileP, usedP F = (F.map fun p => p.2.1.size).sum := fun _ => rfl
    have hx1 : (getS d1.F k).map (·.1) = some x.1 := by rw [← g9 k, hg]; rfl
    refine ⟨rfl, ⟨g1, g2, g3, ?_, ?_, ?_, ?_, sort_putS g8 _ _, fun k' => ?_, fun k' y hy => ?_⟩, ?_⟩
    · show 0 ≤ d.count + 1 ∧ d.count + 1 ≤ _; omega
    · show 0 ≤ d.eff + 1 ∧ d.eff + 1 ≤ _; omega
    · rw [← g6, hud, hud]
      show ((putS d.F _ _).map fun p => p.2.1.size).sum = _
      omega
    · show (putS d.F _ _).length = _
      simp at q2
      omega
    · show (getS (putS d.F _ _) k').map (·.1) = _
      rw [getS_put g8]
      split
      · rename_i e; subst e; rw [hx1]; rfl
      · exact g9 k'
    · have hy2 : getS (putS d.F k (x.1, (x.1.size : Int))) k' = some y := hy
      clear hy
      rw [getS_put g8] at hy2
      split at hy2
      · injection hy2 with hy2
        subst hy2
        exact ⟨by simp, by simp, fun _ => rfl⟩
      · rename_i e
        obtain ⟨e1, e2, e3⟩ := g10 k' y hy2
        refine ⟨e1, e2, fun h => ?_⟩
        rcases List.mem_append.1 h with h | h
        · exact e3 h
        · exact absurd (List.mem_singleton.1 h) e
    · have ht2 : thereD { d with count := d.count + 1, F := putS d.F k (x.1, (x.1.size : Int)), eff := d.eff + 1 } k = ((x.1, (x.1.size : Int)), 0) := by
        unfold thereD
        show thereO d.down (getS (putS d.F k (x.1, (x.1.size : Int))) k) = _
        rw [g3, getS_put g8, if_pos rfl]
        rfl
      unfold readD
      rw [ht2, hx1]
      rfl
/-- All synced: each file holds what it held. -/
theorem syi_end {d1 d : Dk} {N : Nat} {M : EnS ByteArray} (h : SyI d1 (d1.F.map (·.1)) d N) (h1 : usedP d1.F ≤ 1048576) (h2 : d1.F.length ≤ 64) (hM : ∀ k, getS M k = if k ∈ d1.F.map (·.1) then (getS d1.F k).map (·.1) else none) :
    VInv (fun k => ((getS M k).map ByteArray.size).getD 0) d N := by
  obtain ⟨g1, g2, g3, g4, g5, g6, g7, g8, g9, g10⟩ := h
  refine ⟨g1, g2, g3, g4, g5, by omega, by omega, g8, fun k x hx => ?_, fun k hx => ?_⟩
  · have h3 := g9 k
    rw [hx] at h3
    have hk : k ∈ d1.F.map (·.1) := keys_get.2 (by have := congrArg Option.isSome h3; rw [Option.isSome_map, Option.isSome_map] at this; rw [← this]; rfl)
    obtain ⟨_, _, e3⟩ := g10 k x hx
    have e4 := e3 hk
    simp only
    rw [hM k, if_pos hk, ← h3]
    simp only [Option.map_some, Option.getD_some]
    exact ⟨e4, Nat.le_refl _⟩
  · have h3 := g9 k
    rw [hx] at h3
    have hk : ¬ k ∈ d1.F.map (·.1) := fun h => by
      have h4 := keys_get.1 h
      have := congrArg Option.isSome h3
      rw [Option.isSome_map, Option.isSome_map, h4] at this
      cases this
    simp only
    rw [hM k, if_neg hk]
    rfl
theorem getS_crash (keep : Int) {F : EnS FileP} (k : List UInt8) : getS (F.map fun p => (p.1, cutF keep p.2)) k = (getS F k).map (cutF keep) := by
  unfold getS
  rw [List.find?_map]
  have : ((fun p : List UInt8 × FileP => p.1 == k) ∘ fun p : List UInt8 × FileP => (p.1, cutF keep p.2)) = fun p => p.1 == k := rfl
  rw [this]
  cases F.find? fun p => p.1 == k <;> rfl
theorem extract_ok (s : ByteArray) (n : Nat) (h : n ≤ s.size) : (s.extract 0 n).size = n := by
  rw [ByteArray.size_extract]; omega
/-- What a file is behind the failure. -/
theorem cut_law (keep : Int) (wz : Nat) (f : FileP) (h1 : f.2 = (wz : Int)) (h2 : wz ≤ f.1.size) :
    wz ≤ (cutF (max keep 0) f).1.size ∧ (cutF (max keep 0) f).1.size ≤ f.1.size ∧ (cutF (max keep 0) f).1 = f.1.extract 0 (cutF (max keep 0) f).1.size ∧
      ((cutF (max keep 0) f).1.size : Int) = min (f.1.size : Int) ((wz : Int) + max 0 (min keep (f.1.size : Int))) := by
  unfold cutF
  simp only
  have hn : (f.2 + min (max keep 0) ((f.1.size : Int) - f.2)).toNat ≤ f.1.size := by omega
  have hz := extract_ok f.1 _ hn
  rw [hz]
  refine ⟨by omega, hn, rfl, by omega⟩
end Go.Proofs.Ytjegohibpojneaa
