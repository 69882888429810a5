import Derived.Test.YtjegohibpojneaaDocPlain
import Derived.Test.YtjegohibpojneaaPackFix
import Derived.Test.YtjegohibpojneaaPackRis
set_option linter.unusedVariables false
set_option linter.unusedSimpArgs false
namespace Go.Proofs.Ytjegohibpojneaa
open Go.RowKit

/-! plain: what a reader tells of a change -/
def zChg : Chg := ⟨0, [], [], 0, false⟩
def readA (d : Nat) (ts ws rest : List Int) : Chg := ⟨d, ts.zip ws, (rest.take 8).map (· - 128), rest.getD 8 0, false⟩
def readG (d g : Nat) : Chg := ⟨d, [], [], 0, decide (g = 1)⟩
def okC (c : Chg) : Option Chg := if rightD c = 0 then some c else none
def readD (st : RS) : Option Chg × RS :=
  if (varS (varS st).2).1 = 0 then
    let a := risR (varS (varS st).2).2 64
    let b := fixR a.2 16 a.1.length
    let r := fixR b.2 8 9
    if r.2.isNone then (none, r.2) else (okC (readA (varS st).1 a.1 b.1 r.1), r.2)
  else if 1 < (varS (varS st).2).1 then (none, (varS (varS st).2).2) else (okC (readG (varS st).1 (varS (varS st).2).1), (varS (varS st).2).2)
theorem fixR_none (w n : Int) : fixR none w n = ([], none) := by
  unfold fixR
  by_cases h : w < 0 ∨ 32 < w ∨ n < 0 ∨ 65536 < n
  · rw [if_pos h]
  · rw [if_neg h]; rfl
theorem fixR_some {st : RS} {w n : Int} {t : List UInt8} (h : (fixR st w n).2 = some t) : ∃ s, st = some s ∧ (fixR st w n).1.length = n.toNat ∧ ∀ x ∈ (fixR st w n).1, 0 ≤ x ∧ x < 2 ^ w.toNat := by
  cases st with
  | none => rw [fixR_none] at h; cases h
  | some s =>
    refine ⟨s, rfl, ?_⟩
    unfold fixR at h ⊢
    by_cases hc : w < 0 ∨ 32 < w ∨ n < 0 ∨ 65536 < n
    · rw [if_pos hc] at h; cases h
    rw [if_neg hc] at h ⊢
    cases hb : (bytesS (some s) ((w * n + 7) / 8)).2 with
    | none => rw [hb] at h; cases h
    | some r =>
      rw [hb] at h
      simp only at h ⊢
      by_cases hp : padBad (bytesS (some s) ((w * n + 7) / 8)).1 (w * n).toNat = true
      · rw [if_pos hp] at h; cases h
      rw [if_neg hp]
      refine ⟨by simp, fun x hx => ?_⟩
      obtain ⟨i, hi, rfl⟩ := List.mem_map.1 hx
      have := numAt_lt (bytesS (some s) ((w * n + 7) / 8)).1 (w.toNat * i) w.toNat
      refine ⟨by omega, ?_⟩
      have h2 := Int.ofNat_lt.2 this
      simpa using h2
theorem varS_bad (st : RS) (h : (varS st).2 = none) : (varS st).1 = 0 := by
  unfold varS at h ⊢
  by_cases hb : 9223372036854775807 < (wordS st).1
  · rw [if_pos hb]
  · rw [if_neg hb] at h ⊢
    unfold wordS at h ⊢
    cases st with
    | none => rfl
    | some l =>
      simp only at h ⊢
      cases hw : wd 0 0 l with
      | none => rfl
      | some p => rw [hw] at h; cases h
theorem bytesS_less (st : RS) (n : Int) : ((bytesS st n).2.getD []).length ≤ (st.getD []).length := by
  unfold bytesS
  cases st with
  | none => simp
  | some l =>
    simp only
    split
    · simp
    · simp
theorem fixR_less (st : RS) (w n : Int) : ((fixR st w n).2.getD []).length ≤ (st.getD []).length := by
  unfold fixR
  split
  · simp
  · have h := bytesS_less st ((w * n + 7) / 8)
    cases hb : (bytesS st ((w * n + 7) / 8)).2 with
    | none => simp
    | some r =>
      rw [hb] at h
      simp only
      split
      · simp
      · exact h
theorem risStep_less (s : RS × Int) : ((risStep s).2.1.getD []).length ≤ (s.1.getD []).length := by
  unfold risStep
  split
  · simp
  · exact varS_less s.1
theorem rowL_less {σ : Type} (rs : σ → RS) (step : σ → Int × σ) (h : ∀ s, ((rs (step s).2).getD []).length ≤ ((rs s).getD []).length) : ∀ (n : Nat) (s : σ), ((rs (rowL rs step n s).2).getD []).length ≤ ((rs s).getD []).length
  | 0, s => by simp [rowL]
  | n + 1, s => by
    unfold rowL
    cases hs : rs s with
    | none => simp [hs]
    | some l =>
      have h1 := rowL_less rs step h n (step s).2
      have h2 := h s
      rw [hs] at h2
      simp only
      omega
theorem rowL_len {σ : Type} (rs : σ → RS) (step : σ → Int × σ) : ∀ (n : Nat) (s : σ), (rowL rs step n s).1.length ≤ n
  | 0, s => by simp [rowL]
  | n + 1, s => by
    unfold rowL
    cases hs : rs s with
    | none => simp
    | some l => simp; exact rowL_len rs step n _
theorem rowS_eq {σ : Type} (rs : σ → RS) (step : σ → Int × σ) (n : Nat) (s : σ) : (rowS rs step n s).2 = (rowL rs step n s).2 ∧ ((rowS rs step n s).1 = [] ∨ (rowS rs step n s).1 = (rowL rs step n s).1) := by
  unfold rowS
  cases rs (rowL rs step n s).2 with
  | none => exact ⟨rfl, .inl rfl⟩
  | some _ => exact ⟨rfl, .inr rfl⟩
theorem risR_less (st : RS) (most : Int) : ((risR st most).2.getD []).length ≤ (st.getD []).length := by
  unfold risR
  simp only
  rw [(rowS_eq _ _ _ _).1]
  have h := rowL_less Prod.fst risStep risStep_less (varS st).1 (if most < (varS st).1 then none else (varS st).2, -1)
  refine Nat.le_trans h ?_
  simp only
  split
  · simp
  · exact varS_less st
theorem risR_len (st : RS) (most : Nat) : (risR st most).1.length ≤ most := by
  unfold risR
  simp only
  by_cases hm : (most : Int) < (varS st).1
  · rw [if_pos hm]
    have h : rowL Prod.fst risStep (varS st).1 ((none : RS), (-1 : Int)) = ([], (none, -1)) := rowL_stop _ rfl
    rw [rowS_none h rfl]
    simp
  · rcases (rowS_eq Prod.fst risStep (varS st).1 (if (most : Int) < (varS st).1 then none else (varS st).2, -1)).2 with h | h
    · rw [h]; simp
    · rw [h]
      have := rowL_len Prod.fst risStep (varS st).1 (if (most : Int) < (varS st).1 then none else (varS st).2, -1)
      omega
theorem rowL_inv {σ : Type} (rs : σ → RS) (step : σ → Int × σ) (P : σ → Prop) (Q : Int → Prop) (h : ∀ s, P s → P (step s).2 ∧ Q (step s).1) : ∀ (n : Nat) (s : σ), P s → ∀ x ∈ (rowL rs step n s).1, Q x
  | 0, s, _, x, hx => by simp [rowL] at hx
  | n + 1, s, hs, x, hx => by
    unfold rowL at hx
    cases hr : rs s with
    | none => rw [hr] at hx; simp at hx
    | some l =>
      rw [hr] at hx
      simp only [List.mem_cons] at hx
      rcases hx with rfl | hx
      · exact (h s hs).2
      · exact rowL_inv rs step P Q h n _ (h s hs).1 x hx
theorem risR_rng (st : RS) (most : Int) : ∀ x ∈ (risR st most).1, 0 ≤ x ∧ x ≤ 9223372036854775807 := by
  have h := rowL_inv Prod.fst risStep (fun s => -1 ≤ s.2 ∧ s.2 ≤ 9223372036854775807) (fun x => 0 ≤ x ∧ x ≤ 9223372036854775807) (fun s hs => by
    unfold risStep
    split
    · exact ⟨hs, by omega, by omega⟩
    · simp only
      omega) (varS st).1 (if most < (varS st).1 then none else (varS st).2, -1) ⟨by simp, by simp⟩
  intro x hx
  unfold risR at hx
  simp only at hx
  rcases (rowS_eq Prod.fst risStep (varS st).1 (if most < (varS st).1 then none else (varS st).2, -1)).2 with e | e
  · rw [e] at hx; cases hx
  · rw [e] at hx; exact h x hx
end Go.Proofs.Ytjegohibpojneaa
