import Derived.Test.YtafhgpknffkjmaaCrcMath
set_option linter.unusedVariables false
set_option linter.unusedSimpArgs false
namespace Go.Proofs.Ytafhgpknffkjmaa
open Go.RowKit

/-! ### bursts: what 32 neighbouring bits turn is seen -/
def b1 (b : Bool) : V32 := if b then 1#32 else 0#32
/-- The register, bit by bit. -/
def pb : List Bool → V32 → V32
  | [], v => v
  | b :: l, v => pb l (zb (v ^^^ b1 b))
theorem pb_append (l m : List Bool) (v : V32) : pb (l ++ m) v = pb m (pb l v) := by
  induction l generalizing v with
  | nil => rfl
  | cons b l ih => exact ih _
def bn (k x : Nat) : List Bool := (List.range k).map x.testBit
theorem bn_succ (k x : Nat) : bn (k + 1) x = x.testBit 0 :: bn k (x / 2) := by
  unfold bn
  rw [List.range_succ_eq_map, List.map_cons, List.map_map]
  congr 1
  apply List.map_congr_left
  intro i _
  simp [Nat.testBit_succ]
theorem pb_bn (k : Nat) : ∀ (x : Nat) (v : V32), k ≤ 32 → x < 2 ^ k → pb (bn k x) v = zn k (v ^^^ BitVec.ofNat 32 x) := by
  induction k with
  | zero => intro x v _ hx; obtain rfl : x = 0 := by omega
            simp [bn, pb, zn]
  | succ k ih =>
    intro x v hk hx
    have hx2 : x / 2 < 2 ^ k := by rw [Nat.pow_succ] at hx; omega
    rw [bn_succ, pb, ih _ _ (by omega) hx2, show zn (k + 1) (v ^^^ BitVec.ofNat 32 x) = zn k (zn 1 (v ^^^ BitVec.ofNat 32 x)) from zn_add k 1 _]
    congr 1
    -- x is twice its half, turned by its lowest bit
    have hx32 : x < 4294967296 := Nat.lt_of_lt_of_le hx (Nat.pow_le_pow_right (by omega) hk)
    have e : BitVec.ofNat 32 x = b1 (x.testBit 0) ^^^ BitVec.ofNat 32 (2 * (x / 2)) := by
      apply BitVec.eq_of_getLsbD_eq
      intro i hi
      rw [BitVec.getLsbD_xor, BitVec.getLsbD_ofNat, BitVec.getLsbD_ofNat]
      cases i with
      | zero => cases h : x.testBit 0 <;> simp [b1, h, Nat.testBit_zero] <;> simpa using h
      | succ i =>
        have h1 : (b1 (x.testBit 0)).getLsbD (i + 1) = false := by cases x.testBit 0 <;> simp [b1, BitVec.getLsbD_one]
        rw [h1]
        simp [Nat.testBit_succ, hi]
    have hz : zb (BitVec.ofNat 32 (2 * (x / 2))) = BitVec.ofNat 32 (x / 2) := by
      unfold zb
      rw [if_neg (by rw [BitVec.getLsbD_ofNat, Nat.testBit_zero]; simp)]
      apply BitVec.eq_of_toNat_eq
      rw [BitVec.toNat_ushiftRight, BitVec.toNat_ofNat, BitVec.toNat_ofNat, Nat.shiftRight_eq_div_pow]
      omega
    rw [e, ← BitVec.xor_assoc]
    simp only [zn]
    rw [zb_xor (v ^^^ b1 (x.testBit 0)), hz]
theorem pb_zeros (n : Nat) (v : V32) : pb (List.replicate n false) v = zn n v := by
  induction n generalizing v with
  | zero => rfl
  | succ n ih =>
    rw [List.replicate_succ, pb, ih, show zn (n + 1) v = zn n (zn 1 v) from zn_add n 1 _]
    simp [b1, zn]

/-- Bytes as bits, in each byte the lowest one first. -/
def bl : List UInt8 → List Bool
  | [] => []
  | x :: l => bn 8 x.toNat ++ bl l
theorem reg_bl (l : List UInt8) (v : V32) : reg l v = pb (bl l) v := by
  induction l generalizing v with
  | nil => rfl
  | cons x l ih => rw [reg, bl, pb_append, pb_bn 8 x.toNat v (by omega) x.toNat_lt, ih]; rfl
theorem bl_length (l : List UInt8) : (bl l).length = 8 * l.length := by
  induction l with
  | nil => rfl
  | cons x l ih => simp [bl, bn, ih]; omega
/-- Bit p of bytes. -/
def bitAt (l : List UInt8) (p : Nat) : Bool := (l.getD (p / 8) 0).toNat.testBit (p % 8)
theorem bl_at (l : List UInt8) : ∀ p, p < 8 * l.length → (bl l)[p]? = some (bitAt l p) := by
  induction l with
  | nil => intro p h; simp at h
  | cons x l ih =>
    intro p h
    unfold bl
    by_cases h8 : p < 8
    · rw [List.getElem?_append_left (by simpa [bn] using h8)]
      have : p / 8 = 0 := by omega
      have h2 : p % 8 = p := by omega
      simp [bn, bitAt, h8, this, h2]
    · rw [List.getElem?_append_right (by simp [bn]; omega)]
      have hl : (bn 8 x.toNat).length = 8 := by simp [bn]
      rw [hl, ih _ (by simp at h; omega)]
      have : p / 8 = (p - 8) / 8 + 1 := by omega
      have h2 : (p - 8) % 8 = p % 8 := by omega
      simp [bitAt, this, h2]
theorem b1_xor (a b : Bool) : b1 (a ^^ b) = b1 a ^^^ b1 b := by cases a <;> cases b <;> rfl
theorem pb_xor (l : List Bool) : ∀ (m n : List Bool) (u v : V32), m.length = l.length → n.length = l.length → (∀ p, p < l.length → l[p]? = some ((m[p]?.getD false) ^^ (n[p]?.getD false))) → pb l (u ^^^ v) = pb m u ^^^ pb n v := by
  induction l with
  | nil =>
    intro m n u v hm hn _
    obtain rfl : m = [] := List.eq_nil_of_length_eq_zero hm
    obtain rfl : n = [] := List.eq_nil_of_length_eq_zero hn
    rfl
  | cons b l ih =>
    intro m n u v hm hn h
    match m, n, hm, hn with
    | c :: m, d :: n, hm, hn =>
      have h0 := h 0 (by simp)
      simp at h0
      subst h0
      simp only [pb]
      rw [← ih m n _ _ (by simpa using hm) (by simpa using hn) (fun p hp => by simpa using h (p + 1) (by simpa using hp)), b1_xor, ← zb_xor]
      congr 2
      ac_rfl
    | [], _, hm, _ => simp at hm
    | _ :: _, [], _, hn => simp at hn

/-- The register behind what is sealed. -/
def R32 : V32 := zn 32 (BitVec.allOnes 32)
theorem le_at (x : Int) (h : 0 ≤ x ∧ x < 4294967296) : (strOfNums [x % 256, x / 256 % 256, x / 65536 % 256, x / 16777216]).data.toList = [UInt8.ofNat (x.toNat % 256), UInt8.ofNat (x.toNat / 256 % 256), UInt8.ofNat (x.toNat / 65536 % 256), UInt8.ofNat (x.toNat / 16777216)] := by
  rw [strOfNums_data]
  simp only [List.map_cons, List.map_nil]
  obtain ⟨n, rfl⟩ := Int.eq_ofNat_of_zero_le h.1
  congr 1
theorem bl_le (x : Nat) (h : x < 4294967296) : bl [UInt8.ofNat (x % 256), UInt8.ofNat (x / 256 % 256), UInt8.ofNat (x / 65536 % 256), UInt8.ofNat (x / 16777216)] = bn 32 x := by
  apply List.ext_getElem?
  intro p
  by_cases hp : p < 32
  · rw [bl_at _ _ (by simpa using hp)]
    simp only [bn, List.getElem?_map, List.getElem?_range hp, Option.map_some]
    congr 1
    unfold bitAt
    have hb : ∀ (k : Nat) (q : Nat), q < 8 → (x / 2 ^ k % 256).testBit q = x.testBit (k + q) := by
      intro k q hq
      rw [show (256 : Nat) = 2 ^ 8 from rfl, Nat.testBit_mod_two_pow, Nat.testBit_div_two_pow]
      simp [hq, Nat.add_comm]
    have h3 : x / 16777216 = x / 2 ^ 24 % 256 := by omega
    have hcase : p / 8 = 0 ∨ p / 8 = 1 ∨ p / 8 = 2 ∨ p / 8 = 3 := by omega
    have hsz : ∀ n : Nat, n < 256 → (UInt8.ofNat n).toNat = n := fun n hn => by simp; omega
    rcases hcase with e | e | e | e <;> rw [e] <;> simp only [List.getD_cons_zero, List.getD_cons_succ]
    · rw [hsz _ (by omega)]; have := hb 0 (p % 8) (by omega); simp only [Nat.pow_zero, Nat.div_one] at this; rw [this]; congr 1; omega
    · rw [hsz _ (by omega)]; have := hb 8 (p % 8) (by omega); rw [show (256 : Nat) = 2 ^ 8 from rfl] at *; rw [this]; congr 1; omega
    · rw [hsz _ (by omega)]; have := hb 16 (p % 8) (by omega); rw [show (65536 : Nat) = 2 ^ 16 from rfl]; rw [this]; congr 1; omega
    · rw [hsz _ (by omega), h3]; have := hb 24 (p % 8) (by omega); rw [this]; congr 1; omega
  · rw [List.getElem?_eq_none (by rw [bl_length]; simp; omega), List.getElem?_eq_none (by simp [bn]; omega)]
theorem reg_append (l m : List UInt8) (v : V32) : reg (l ++ m) v = reg m (reg l v) := by rw [reg_bl, reg_bl, reg_bl]; rw [← pb_append]; congr 1; induction l with
  | nil => rfl
  | cons x l ih => simp [bl, ih]
theorem reg_seal (u : ByteArray) : reg (sealOf u).data.toList (BitVec.allOnes 32) = R32 := by
  unfold sealOf
  have hr := crcSum_range u.data.toList
  have happ : ∀ t : ByteArray, (u ++ t).data.toList = u.data.toList ++ t.data.toList := fun t => by simp
  rw [happ, reg_append, le_at _ hr, reg_bl, bl_le _ (by omega), pb_bn 32 _ _ (by omega) (by omega)]
  unfold R32
  congr 1
  have : BitVec.ofNat 32 (crcSum u.data.toList).toNat = ~~~ reg u.data.toList (BitVec.allOnes 32) := by
    rw [crcSum_I32]; unfold I32; rw [Int.toNat_natCast, BitVec.ofNat_toNat, BitVec.setWidth_eq]
  rw [this]
  apply BitVec.eq_of_getLsbD_eq
  intro i hi
  rw [BitVec.getLsbD_xor, BitVec.getLsbD_not, BitVec.getLsbD_allOnes]
  cases (reg u.data.toList (BitVec.allOnes 32)).getLsbD i <;> simp [hi]

/-- Two rows of bytes that are both sealed and differ only within 32 neighbours are one. -/
theorem burst (u u' : ByteArray) (at_ k turn : Nat) (hk : k ≤ 32) (hlen : (sealOf u').data.toList.length = (sealOf u).data.toList.length) (hat : at_ + k ≤ 8 * (sealOf u).data.toList.length)
    (hbits : ∀ p, p < 8 * (sealOf u).data.toList.length → bitAt (sealOf u').data.toList p = (bitAt (sealOf u).data.toList p ^^ (decide (at_ ≤ p ∧ p < at_ + k) && turn.testBit (p - at_)))) :
    ∀ j, j < k → turn.testBit j = false := by
  have h1 := reg_seal u
  have h2 := reg_seal u'
  rw [reg_bl] at h1 h2
  generalize (sealOf u).data.toList = T at *
  generalize (sealOf u').data.toList = T' at *
  let D : List Bool := List.replicate at_ false ++ (bn k (turn % 2 ^ k) ++ List.replicate (8 * T.length - at_ - k) false)
  have hD : D.length = 8 * T.length := by simp [D, bn]; omega
  have hDat : ∀ p, p < 8 * T.length → D[p]? = some (decide (at_ ≤ p ∧ p < at_ + k) && turn.testBit (p - at_)) := by
    intro p hp
    by_cases ha : p < at_
    · rw [List.getElem?_append_left (by simpa using ha)]
      simp [ha, show ¬ at_ ≤ p by omega]
    · rw [List.getElem?_append_right (by simpa using ha)]
      simp only [List.length_replicate]
      by_cases hb : p < at_ + k
      · rw [List.getElem?_append_left (by simp [bn]; omega)]
        simp [bn, show p - at_ < k by omega, show at_ ≤ p by omega, hb]
      · rw [List.getElem?_append_right (by simp [bn]; omega)]
        rw [List.getElem?_replicate, if_pos (by simp [bn]; omega)]
        simp [hb]
  have hx : pb D (BitVec.allOnes 32 ^^^ BitVec.allOnes 32) = pb (bl T) (BitVec.allOnes 32) ^^^ pb (bl T') (BitVec.allOnes 32) := by
    apply pb_xor
    · rw [bl_length, hD]
    · rw [bl_length, hD, hlen]
    · intro p hp
      rw [hD] at hp
      rw [hDat p hp, bl_at T p hp, bl_at T' p (by omega)]
      simp only [Option.getD_some]
      rw [hbits p hp]
      congr 1
      cases bitAt T p <;> simp
  rw [h1, h2] at hx
  simp only [BitVec.xor_self] at hx
  rw [pb_append, pb_append, pb_zeros, pb_zeros, zn_zero, pb_bn k _ _ hk (Nat.mod_lt _ (Nat.two_pow_pos k))] at hx
  have h0 := zn_zero_of _ (zn_zero_of _ hx)
  intro j hj
  have hw := congrArg (fun v => v.getLsbD j) h0
  simp only [BitVec.zero_xor, BitVec.getLsbD_ofNat, BitVec.getLsbD_zero] at hw
  rw [Nat.testBit_mod_two_pow] at hw
  simpa [hj, show j < 32 by omega] using hw

/-- What the law asks of Open. -/
theorem openOf_burst (s : ByteArray) (T' : List UInt8) (at_ k turn : Nat) (hk : k ≤ 32) (hlen : T'.length = (sealOf s).data.toList.length) (hat : at_ + k ≤ 8 * (sealOf s).data.toList.length)
    (hbits : ∀ p, p < 8 * (sealOf s).data.toList.length → bitAt T' p = (bitAt (sealOf s).data.toList p ^^ (decide (at_ ≤ p ∧ p < at_ + k) && turn.testBit (p - at_))))
    (hj : ∃ j, j < k ∧ turn.testBit j = true) : openOf ⟨T'.toArray⟩ = (⟨#[]⟩, 8) := by
  have hsz : (sealOf s).data.toList.length = s.size + 4 := by
    unfold sealOf; simp [strOfNums]
  unfold openOf
  have hs' : (⟨T'.toArray⟩ : ByteArray).size = T'.length := by simp [ByteArray.size]
  rw [hs', if_neg (by omega)]
  by_cases heq : ((sealOf ((⟨T'.toArray⟩ : ByteArray).extract 0 (T'.length - 4))).toList == (⟨T'.toArray⟩ : ByteArray).toList) = true
  · exfalso
    have h := eq_of_beq heq
    rw [ByteArray.toList_eq, ByteArray.toList_eq] at h
    simp only [List.toList_toArray] at h
    have hb := burst s ((⟨T'.toArray⟩ : ByteArray).extract 0 (T'.length - 4)) at_ k turn hk (by rw [h, hlen]) hat (by rw [h]; exact hbits)
    obtain ⟨j, h1, h2⟩ := hj
    rw [hb j h1] at h2
    cases h2
  · rw [if_neg heq]
/-- What was sealed is opened. -/
theorem openOf_seal (s : ByteArray) : openOf (sealOf s) = (s, 0) := by
  have hsz : (sealOf s).size = s.size + 4 := by unfold sealOf; simp [ByteArray.size_append, strOfNums_size]
  have hex : (sealOf s).extract 0 ((sealOf s).size - 4) = s := by
    rw [hsz]
    apply ByteArray.ext
    unfold sealOf
    simp
  unfold openOf
  rw [if_neg (by omega), hex, if_pos (by simp)]

def flip8 (x : UInt8) (q : Nat) : UInt8 := UInt8.ofNat (x.toNat ^^^ 2 ^ q)
theorem flip8_toNat (x : UInt8) (q : Nat) (hq : q < 8) : (flip8 x q).toNat = x.toNat ^^^ 2 ^ q := by
  have h2 : 2 ^ q < 256 := Nat.lt_of_le_of_lt (Nat.pow_le_pow_right (by omega) (show q ≤ 7 by omega)) (by decide)
  have hx := x.toNat_lt
  have := Nat.xor_lt_two_pow (n := 8) (x := x.toNat) (y := 2 ^ q) (by omega) (by omega)
  unfold flip8
  rw [UInt8.toNat_ofNat']
  exact Nat.mod_eq_of_lt this
theorem flip_val (x : UInt8) (q : Nat) (hq : q < 8) : bits .xor .u8 (x.toNat : Int) ((2 : Int) ^ q % 256) = ((flip8 x q).toNat : Int) := by
  have h2 : 2 ^ q < 256 := Nat.lt_of_le_of_lt (Nat.pow_le_pow_right (by omega) (show q ≤ 7 by omega)) (by decide)
  have hx := x.toNat_lt
  have e : ((2 : Int) ^ q % 256) = ((2 ^ q : Nat) : Int) := by
    have : ((2 ^ q : Nat) : Int) = (2 : Int) ^ q := by simp
    rw [← this]
    exact Int.emod_eq_of_lt (Int.natCast_nonneg _) (Int.ofNat_lt.2 h2 : ((2 ^ q : Nat) : Int) < ((256 : Nat) : Int))
  rw [e, bits_nat_u8 _ _ (by omega) h2, flip8_toNat x q hq]
theorem flip_bits (T : List UInt8) (p0 p : Nat) (h0 : p0 / 8 < T.length) (hp : p < 8 * T.length) : bitAt (T.set (p0 / 8) (flip8 T[p0 / 8] (p0 % 8))) p = (bitAt T p ^^ decide (p = p0)) := by
  unfold bitAt
  by_cases e : p / 8 = p0 / 8
  · rw [e]
    have h1 : (T.set (p0 / 8) (flip8 T[p0 / 8] (p0 % 8))).getD (p0 / 8) 0 = flip8 T[p0 / 8] (p0 % 8) := by simp [h0]
    have h2 : T.getD (p0 / 8) 0 = T[p0 / 8] := by simp [h0]
    rw [h1, h2, flip8_toNat _ _ (by omega), Nat.testBit_xor, Nat.testBit_two_pow]
    congr 1
    rw [Bool.eq_iff_iff]
    simp
    omega
  · have h1 : (T.set (p0 / 8) (flip8 T[p0 / 8] (p0 % 8))).getD (p / 8) 0 = T.getD (p / 8) 0 := by
      simp [List.getElem?_set, show ¬ p0 / 8 = p / 8 by omega]
    rw [h1]
    have : ¬ p = p0 := fun h => e (by rw [h])
    simp [this]
theorem strOfNums_u8 (T : List UInt8) : strOfNums (T.map fun x => (x.toNat : Int)) = ⟨T.toArray⟩ := by
  unfold strOfNums
  congr 2
  rw [List.map_map]
  conv => rhs; rw [← List.map_id T]
  apply List.map_congr_left
  intro x _
  simp
end Go.Proofs.Ytafhgpknffkjmaa
