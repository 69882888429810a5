import Derived.Test.YtjegohibpojneaaPostPrint
import Derived.Test.YtjegohibpojneaaDocBackP
set_option linter.unusedVariables false
set_option linter.unusedSimpArgs false
namespace Go.Proofs.Ytjegohibpojneaa
open Go.RowKit

theorem openP_seal (s : ByteArray) : openOf (sealOf s) = (s, 0) := by
  have hsz : (sealOf s).size = s.size + 4 := by unfold sealOf; simp [ByteArray.size_append, strOfNums_size]
  have hex : (sealOf s).extract 0 ((sealOf s).size - 4) = s := by
    rw [hsz]
    apply ByteArray.ext
    unfold sealOf
    simp
  unfold openOf
  rw [if_neg (by omega), hex, if_pos (by simp)]
/-- The posts that the bytes tell, if they tell any. -/
def readPs (t : List UInt8) : Option (List (Int × Int)) :=
  match (fixR (risR (some t) t.length).2 16 (risR (some t) t.length).1.length).2 with
  | none => none
  | some u => if u.length = 0 then some ((risR (some t) t.length).1.zip (fixR (risR (some t) t.length).2 16 (risR (some t) t.length).1.length).1) else none
def parsePs (s : ByteArray) : Option (List (Int × Int)) × Int :=
  if (openOf s).2 = 0 then
    match readPs (openOf s).1.data.toList with
    | none => (none, 2)
    | some l => if rightB l = true then (some l, 0) else (none, 2)
  else (none, (openOf s).2)
theorem num16 (t : List UInt8) (i : Nat) : numAt t (16 * i) 16 = (t.getD (2 * i) 0).toNat + 256 * (t.getD (2 * i + 1) 0).toNat := by
  apply Nat.eq_of_testBit_eq
  intro c
  have h1 := (t.getD (2 * i) 0).toNat_lt
  have h2 := (t.getD (2 * i + 1) 0).toNat_lt
  have hlt := numAt_lt t (16 * i) 16
  rw [show (t.getD (2 * i) 0).toNat + 256 * (t.getD (2 * i + 1) 0).toNat = 2 ^ 8 * (t.getD (2 * i + 1) 0).toNat + (t.getD (2 * i) 0).toNat by omega, Nat.testBit_two_pow_mul_add _ (by omega)]
  by_cases hc : c < 16
  · rw [numAt_bit t (16 * i) 16 c hc]
    unfold bitAt
    by_cases h8 : c < 8
    · rw [if_pos h8, show (16 * i + c) / 8 = 2 * i by omega, show (16 * i + c) % 8 = c by omega]
    · rw [if_neg h8, show (16 * i + c) / 8 = 2 * i + 1 by omega, show (16 * i + c) % 8 = c - 8 by omega]
  · rw [if_neg (by omega), Nat.testBit_lt_two_pow (Nat.lt_of_lt_of_le hlt (Nat.pow_le_pow_right (by omega) (by omega))), Nat.testBit_lt_two_pow (Nat.lt_of_lt_of_le h2 (Nat.pow_le_pow_right (n := 2) (i := 8) (by omega) (by omega)))]
theorem fix16 (r : List UInt8) (n : Nat) (hn : n ≤ 65536) :
    (r.length = 2 * n → fixR (some r) 16 n = ((List.range n).map fun i => (numAt r (16 * i) 16 : Int), some [])) ∧
    (r.length ≠ 2 * n → (fixR (some r) 16 n).2 = none ∨ ∃ u, (fixR (some r) 16 n).2 = some u ∧ u.length ≠ 0) := by
  have e1 : ((16 : Int) * (n : Int) + 7) / 8 = ((2 * n : Nat) : Int) := by omega
  have e2 : ((16 : Int) * (n : Int)).toNat = 16 * n := by omega
  have hw : ¬ ((16 : Int) < 0 ∨ 32 < (16 : Int) ∨ (n : Int) < 0 ∨ 65536 < (n : Int)) := by omega
  have hpad : ∀ t, padBad t (16 * n) = false := fun t => by unfold padBad; rw [show 16 * n % 8 = 0 by omega]; rfl
  have hunf : fixR (some r) 16 n = match (bytesS (some r) ((2 * n : Nat) : Int)).2 with
    | none => ([], none)
    | some s => ((List.range n).map fun i => (numAt (bytesS (some r) ((2 * n : Nat) : Int)).1 (16 * i) 16 : Int), some s) := by
    unfold fixR
    rw [if_neg hw, e1]
    cases h : (bytesS (some r) ((2 * n : Nat) : Int)).2 with
    | none => rfl
    | some s =>
      simp only [e2]
      rw [hpad, if_neg (by simp)]
      rfl
  by_cases hlt : r.length < 2 * n
  · have hb : bytesS (some r) ((2 * n : Nat) : Int) = ([], none) := by unfold bytesS; simp only; rw [if_pos (by omega)]
    rw [hunf, hb]
    exact ⟨fun h => by omega, fun _ => .inl rfl⟩
  · have hb : bytesS (some r) ((2 * n : Nat) : Int) = (r.take (2 * n), some (r.drop (2 * n))) := by unfold bytesS; simp only; rw [if_neg (by omega), Int.toNat_natCast]
    rw [hunf, hb]
    refine ⟨fun h => ?_, fun h => .inr ⟨_, rfl, by rw [List.length_drop]; omega⟩⟩
    simp only
    rw [List.take_of_length_le (by omega), List.drop_of_length_le (by omega)]
/-- The reference's way comes to the same. -/
theorem readPs_ref (t : List UInt8) (ds : List Int) (s3 : RS) (hra : risR (some t) t.length = (ds, s3)) (hd : ds.length ≤ 65536) :
    (s3 = none → readPs t = none) ∧ (∀ r, s3 = some r → r.length ≠ 2 * ds.length → readPs t = none) ∧
    (∀ r, s3 = some r → r.length = 2 * ds.length → readPs t = some (ds.zip ((List.range ds.length).map fun i => (((r.getD (2 * i) 0).toNat + 256 * (r.getD (2 * i + 1) 0).toNat : Nat) : Int)))) := by
  unfold readPs
  rw [hra]
  simp only
  refine ⟨fun h => ?_, fun r h hl => ?_, fun r h hl => ?_⟩
  · rw [h, fixR_none]
  · subst h
    rcases (fix16 r ds.length hd).2 hl with h1 | ⟨u, h1, h2⟩
    · rw [h1]
    · rw [h1]; simp only; rw [if_neg h2]
  · subst h
    rw [(fix16 r ds.length hd).1 hl]
    simp only [List.length_nil, if_true, num16]
theorem readPs_print (l : List (Int × Int)) (h : RightP l) (hn : l.length ≤ 1000) : readPs ((risS (docsP l)).getD [] ++ fixB 16 (wtsP l)) = some l := by
  have hdr := print_docs l h
  have hwr := print_wts l h
  have hdl := docsP_len l
  have hwl := wtsP_len l
  obtain ⟨rb, hrb, hrbl⟩ := risS_some (docsP l) h.rises (fun x hx => by have := hdr x hx; omega) (by omega)
  have hfw := fixS_some 16 (wtsP l) (by omega) (fun x hx => by have := hwr x hx; omega)
  have hfl := fixB_len 16 (wtsP l)
  rw [hrb, Option.getD_some]
  have e1 := risR_fwd (docsP l) (rb ++ fixB 16 (wtsP l)).length rb (fixB 16 (wtsP l)) (fun x hx => by have := hdr x hx; omega) (by omega) (by rw [List.length_append]; omega) hrb
  have e2 := fixR_back 16 (wtsP l) (fixB 16 (wtsP l)) [] (by omega) hfw
  rw [List.append_nil, hwl, ← hdl] at e2
  unfold readPs
  rw [e1]
  simp only
  rw [e2]
  simp only [List.length_nil, if_true]
  congr 1
  have hz := List.zip_unzip l
  rw [List.unzip_eq_map] at hz
  exact hz
theorem parsePs_print (l : List (Int × Int)) (h : RightP l) (hn : l.length ≤ 1000) : parsePs (printP l) = (some l, 0) := by
  unfold parsePs printP
  rw [openP_seal]
  simp only [if_true]
  rw [show (str ((risS (docsP l)).getD [] ++ fixB 16 (wtsP l))).data.toList = (risS (docsP l)).getD [] ++ fixB 16 (wtsP l) from str_list _, readPs_print l h hn]
  simp only
  rw [if_pos ((rightB_iff l).2 h)]
end Go.Proofs.Ytjegohibpojneaa
