import Derived.Test.YtjegohibpojneaaDocSpec
set_option linter.unusedVariables false
set_option linter.unusedSimpArgs false
namespace Go.Proofs.Ytjegohibpojneaa
open Go.RowKit

/-! plain: what a right change is -/
structure RightC (c : Chg) : Prop where
  doc : 0 ≤ c.doc ∧ c.doc ≤ 2147483647
  tags : 0 ≤ c.tags ∧ c.tags ≤ 255
  terms : ∀ t ∈ c.terms, (0 ≤ t.1 ∧ t.1 ≤ 1048575) ∧ 1 ≤ t.2 ∧ t.2 ≤ 65535
  len : c.terms.length ≤ 64
  rises : (c.terms.map (·.1)).Pairwise (· < ·)
  gone : c.gone = true → c.terms = [] ∧ c.v = [] ∧ c.tags = 0
  vec : c.gone = false → c.v.length = 8 ∧ ∀ x ∈ c.v, -127 ≤ x ∧ x ≤ 127
theorem vecB_iff (v : List Int) : vecB v = true ↔ v.length = 8 ∧ ∀ x ∈ v, -127 ≤ x ∧ x ≤ 127 := by
  unfold vecB
  rw [Bool.and_eq_true, decide_eq_true_iff, List.all_eq_true]
  simp
theorem rangeB_false (c : Chg) : rangeB c = false ↔ (0 ≤ c.doc ∧ c.doc ≤ 2147483647) ∧ (0 ≤ c.tags ∧ c.tags ≤ 255) ∧ ∀ t ∈ c.terms, (0 ≤ t.1 ∧ t.1 ≤ 1048575) ∧ 1 ≤ t.2 ∧ t.2 ≤ 65535 := by
  unfold rangeB
  simp only [Bool.or_eq_false_iff, decide_eq_false_iff_not, List.any_eq_false]
  constructor
  · rintro ⟨⟨⟨⟨h1, h2⟩, h3⟩, h4⟩, h5⟩
    refine ⟨by omega, by omega, fun t ht => ?_⟩
    have := h5 t ht
    unfold termBad at this
    simp at this
    omega
  · rintro ⟨h1, h2, h3⟩
    refine ⟨⟨⟨⟨by omega, by omega⟩, by omega⟩, by omega⟩, fun t ht => ?_⟩
    have := h3 t ht
    unfold termBad
    simp
    omega
theorem right0_iff (c : Chg) : rightD c = 0 ↔ RightC c := by
  unfold rightD
  constructor
  · intro h
    by_cases r : rangeB c = true
    · rw [if_pos r] at h; omega
    rw [if_neg r] at h
    by_cases l : 64 < c.terms.length
    · rw [if_pos l] at h; omega
    rw [if_neg l] at h
    by_cases n : ¬ (c.terms.map (·.1)).Nodup
    · rw [if_pos n] at h; omega
    rw [if_neg n] at h
    by_cases q : ¬ (c.terms.map (·.1)).Pairwise (· < ·) ∨ (c.gone = true ∧ emptyB c = false) ∨ (c.gone = false ∧ vecB c.v = false)
    · rw [if_pos q] at h; omega
    obtain ⟨r1, r2, r3⟩ := (rangeB_false c).1 (by simpa using r)
    refine ⟨r1, r2, r3, by omega, Classical.byContradiction fun hp => q (.inl hp), fun hg => ?_, fun hg => ?_⟩
    · have : emptyB c = true := by cases he : emptyB c; exact absurd (.inr (.inl ⟨hg, he⟩)) q; rfl
      unfold emptyB at this
      simpa [and_assoc] using this
    · refine (vecB_iff c.v).1 ?_
      cases he : vecB c.v
      · exact absurd (.inr (.inr ⟨hg, he⟩)) q
      · rfl
  · rintro ⟨r1, r2, r3, l, p, g, v⟩
    rw [if_neg (by rw [(rangeB_false c).2 ⟨r1, r2, r3⟩]; decide), if_neg (by omega), if_neg (by simpa using pw_nodup p), if_neg]
    rintro (h | ⟨hg, he⟩ | ⟨hg, he⟩)
    · exact h p
    · obtain ⟨e1, e2, e3⟩ := g hg
      unfold emptyB at he
      rw [e1, e2, e3] at he
      simp at he
    · rw [(vecB_iff c.v).2 (v hg)] at he
      cases he
theorem risb_len : ∀ (l : List Int) (last : Int) (t : List UInt8), -1 ≤ last → (∀ x ∈ l, x ≤ 9223372036854775807) → risb last l = some t → t.length ≤ 10 * l.length
  | [], _, t, _, _, h => by simp [risb] at h; subst h; simp
  | x :: l, last, t, h0, h1, h => by
    unfold risb at h
    by_cases hx : x ≤ last
    · rw [if_pos hx] at h; cases h
    · rw [if_neg hx] at h
      obtain ⟨u, hu, rfl⟩ := Option.map_eq_some_iff.1 h
      have ih := risb_len l x u (by omega) (fun y hy => h1 y (by simp [hy])) hu
      have h2 := h1 x (by simp)
      have := vint_le10 (x - last - 1).toNat (by omega)
      rw [List.length_append, List.length_cons]
      omega
theorem risS_some (l : List Int) (hp : l.Pairwise (· < ·)) (h0 : ∀ x ∈ l, 0 ≤ x ∧ x ≤ 9223372036854775807) (hn : l.length ≤ 1000000) : ∃ t, risS l = some t ∧ t.length ≤ 10 * l.length + 10 := by
  have h := risb_some l (-1) hp (fun x hx => by have := h0 x hx; omega)
  obtain ⟨u, hu⟩ := Option.isSome_iff_exists.1 h
  refine ⟨vint l.length ++ u, by unfold risS; rw [hu]; rfl, ?_⟩
  have := risb_len l (-1) u (by omega) (fun x hx => (h0 x hx).2) hu
  have := vint_le10 l.length (by omega)
  rw [List.length_append]
  omega
theorem fixB_len (w : Nat) (l : List Int) : (fixB w l).length = (w * l.length + 7) / 8 := by unfold fixB; simp
theorem fixS_some (w : Nat) (l : List Int) (hw : w ≤ 32) (h : ∀ x ∈ l, 0 ≤ x ∧ x < 2 ^ w) : fixS w l = some (fixB w l) := by
  unfold fixS
  rw [if_neg (by omega), Int.toNat_natCast, if_pos]
  unfold fixOk
  rw [List.all_eq_true]
  intro x hx
  have := h x hx
  simp only [Bool.and_eq_true, decide_eq_true_iff]
  exact this
/-- A row of bytes in eight bits each is these bytes. -/
theorem fixB8 (l : List Int) (h : ∀ x ∈ l, 0 ≤ x ∧ x < 256) : fixB 8 l = l.map fun x => UInt8.ofNat x.toNat := by
  apply List.ext_getElem
  · rw [fixB_len, List.length_map]; omega
  · intro j h1 h2
    rw [List.length_map] at h2
    have e : (fixB 8 l)[j] = UInt8.ofNat (byteOf (fun p => decide (p < 8 * l.length) && bitsW 8 l p) j) := by simp [fixB]
    rw [e, List.getElem_map]
    congr 1
    have hx := h l[j] (List.getElem_mem h2)
    apply Nat.eq_of_testBit_eq
    intro p
    by_cases hp : p < 8
    · rw [byteOf_bit _ _ _ hp]
      simp only [bitsW]
      rw [show (8 * j + p) / 8 = j by omega, show (8 * j + p) % 8 = p by omega, List.getD_eq_getElem?_getD, List.getElem?_eq_getElem h2, decide_eq_true (by omega)]
      simp
    · rw [Nat.testBit_lt_two_pow (x := (l[j]).toNat) (by have : 2 ^ 8 ≤ 2 ^ p := Nat.pow_le_pow_right (by omega) (by omega); omega)]
      have hb : byteOf (fun p => decide (p < 8 * l.length) && bitsW 8 l p) j < 256 := byteOf_lt _ _
      exact Nat.testBit_lt_two_pow (by have : 2 ^ 8 ≤ 2 ^ p := Nat.pow_le_pow_right (by omega) (by omega); omega)
theorem fixB8_snoc (l : List Int) (x : Int) (h : ∀ y ∈ l, 0 ≤ y ∧ y < 256) (hx : 0 ≤ x ∧ x < 256) : fixB 8 (l ++ [x]) = fixB 8 l ++ [UInt8.ofNat x.toNat] := by
  rw [fixB8 (l ++ [x]) (fun y hy => by rcases List.mem_append.1 hy with hy | hy; exact h y hy; simp at hy; subst hy; exact hx), fixB8 l h]
  simp
end Go.Proofs.Ytjegohibpojneaa
