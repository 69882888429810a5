import Derived.Test.YtjegohibpojneaaCrcRef
set_option linter.unusedVariables false
set_option linter.unusedSimpArgs false
namespace Go.Proofs.Ytjegohibpojneaa
open Go.RowKit

/-! ### crc, plain: registers as words of 32 bits -/
abbrev V32 := BitVec 32
def P32 : V32 := 3988292384#32
def zb (v : V32) : V32 := if v.getLsbD 0 then (v >>> 1) ^^^ P32 else v >>> 1
def zn : Nat → V32 → V32
  | 0, v => v
  | n + 1, v => zb (zn n v)
def I32 (v : V32) : Int := (v.toNat : Int)

theorem I32_range (v : V32) : 0 ≤ I32 v ∧ I32 v < 4294967296 := by have := v.isLt; unfold I32; omega
theorem I32_inj {a b : V32} (h : I32 a = I32 b) : a = b := by unfold I32 at h; exact BitVec.eq_of_toNat_eq (by omega)
theorem of_I32 (c : Int) (h : 0 ≤ c ∧ c < 4294967296) : ∃ v : V32, I32 v = c := ⟨BitVec.ofNat 32 c.toNat, by simp [I32]; omega⟩
theorem bits_nat_u32 (a b : Nat) (ha : a < 4294967296) (hb : b < 4294967296) : bits .xor .u32 (a : Int) (b : Int) = ((a ^^^ b : Nat) : Int) ∧ bits .and .u32 (a : Int) (b : Int) = ((a &&& b : Nat) : Int) := by
  have hp : (2 : Nat) ^ IntKind.u32.bits = 4294967296 := rfl
  have ha' : a % 2 ^ IntKind.u32.bits = a := Nat.mod_eq_of_lt (by omega)
  have hb' : b % 2 ^ IntKind.u32.bits = b := Nat.mod_eq_of_lt (by omega)
  constructor
  · simp only [bits, BitVec.ofInt_natCast, BitVec.toNat_xor, BitVec.toNat_ofNat, ha', hb']
    rw [IntKind.wrap_u32]
    have := Nat.xor_lt_two_pow (n := 32) ha hb
    omega
  · simp only [bits, BitVec.ofInt_natCast, BitVec.toNat_and, BitVec.toNat_ofNat, ha', hb']
    rw [IntKind.wrap_u32]
    have := Nat.and_lt_two_pow (n := 32) a hb
    omega
theorem xor_I32 (a b : V32) : bits .xor .u32 (I32 a) (I32 b) = I32 (a ^^^ b) := by
  unfold I32
  rw [(bits_nat_u32 _ _ a.isLt b.isLt).1, BitVec.toNat_xor]
theorem and1_I32 (a : V32) : bits .and .u32 (I32 a) 1 = I32 a % 2 := by
  unfold I32
  have := (bits_nat_u32 a.toNat 1 a.isLt (by omega)).2
  rw [Nat.and_one_is_mod] at this
  exact this.trans (by omega)
theorem half_I32 (a : V32) : I32 a / (2 : Int) = I32 (a >>> 1) := by
  simp [I32, BitVec.toNat_ushiftRight, Nat.shiftRight_eq_div_pow]
theorem odd_I32 (a : V32) : (I32 a % 2 = 1) ↔ a.getLsbD 0 = true := by
  unfold I32
  rw [BitVec.getLsbD_eq_getElem (by omega)]
  rw [BitVec.getElem_eq_testBit_toNat, Nat.testBit_zero]
  simp
  omega
theorem rbit_I32 (v : V32) : rbit (I32 v) = I32 (zb v) := by
  unfold rbit zb
  by_cases h : v.getLsbD 0 = true
  · rw [if_pos ((odd_I32 v).2 h), if_pos h, half_I32, ← xor_I32]; rfl
  · rw [if_neg (fun e => h ((odd_I32 v).1 e)), if_neg h, half_I32]
theorem crcBit_I32 (v : V32) : crcBit (I32 v) = I32 (zb v) := by
  unfold crcBit zb
  rw [and1_I32, half_I32]
  have hr := I32_range v
  by_cases h : v.getLsbD 0 = true
  · rw [if_pos h, ← xor_I32, (odd_I32 v).2 h]; rfl
  · have h2 : I32 v % 2 = 0 := by have : ¬ I32 v % 2 = 1 := fun e => h ((odd_I32 v).1 e)
                                  omega
    rw [if_neg h, h2]
    have : bits .xor .u32 (I32 (v >>> 1)) (I32 0#32) = I32 (v >>> 1) := by rw [xor_I32]; simp
    exact this
theorem rbits_I32 (n : Nat) (v : V32) : rbits n (I32 v) = I32 (zn n v) := by
  induction n with
  | zero => rfl
  | succ n ih => simp only [rbits, zn, ih, rbit_I32]
theorem crcBits_I32 (n : Nat) (v : V32) : crcBits n (I32 v) = I32 (zn n v) := by
  induction n with
  | zero => rfl
  | succ n ih => simp only [crcBits, zn, ih, crcBit_I32]

theorem zb_xor (a b : V32) : zb (a ^^^ b) = zb a ^^^ zb b := by
  unfold zb
  simp only [BitVec.getLsbD_xor, BitVec.ushiftRight_xor_distrib]
  cases a.getLsbD 0 <;> cases b.getLsbD 0 <;> simp
  · ac_rfl
  · ac_rfl
  · rw [show a >>> 1 ^^^ P32 ^^^ (b >>> 1 ^^^ P32) = a >>> 1 ^^^ b >>> 1 ^^^ (P32 ^^^ P32) by ac_rfl]
    simp
theorem zn_xor (n : Nat) (a b : V32) : zn n (a ^^^ b) = zn n a ^^^ zn n b := by
  induction n with
  | zero => rfl
  | succ n ih => simp only [zn, ih, zb_xor]
theorem zb_zero_of {v : V32} (h : zb v = 0#32) : v = 0#32 := by
  unfold zb at h
  by_cases h0 : v.getLsbD 0 = true
  · rw [if_pos h0] at h
    have h31 : (v >>> 1 ^^^ P32).getLsbD 31 = false := by rw [h]; simp
    rw [BitVec.getLsbD_xor, BitVec.getLsbD_ushiftRight] at h31
    have : v.getLsbD (1 + 31) = false := BitVec.getLsbD_of_ge _ _ (by omega)
    rw [this] at h31
    exact absurd h31 (by decide)
  · rw [if_neg h0] at h
    apply BitVec.eq_of_getLsbD_eq
    intro i hi
    cases i with
    | zero => simpa using h0
    | succ i =>
      have : (v >>> 1).getLsbD i = false := by rw [h]; simp
      rw [BitVec.getLsbD_ushiftRight, Nat.add_comm] at this
      simpa using this
theorem zn_zero_of (n : Nat) {v : V32} (h : zn n v = 0#32) : v = 0#32 := by
  induction n with
  | zero => exact h
  | succ n ih => exact ih (zb_zero_of h)
theorem zn_zero (n : Nat) : zn n 0#32 = 0#32 := by
  induction n with
  | zero => rfl
  | succ n ih => simp only [zn, ih]; decide
theorem zn_add (m n : Nat) (v : V32) : zn (m + n) v = zn m (zn n v) := by
  induction m with
  | zero => simp [zn]
  | succ m ih => rw [Nat.succ_add]; simp only [zn, ih]
theorem zn_shift (v : V32) (n : Nat) (h : ∀ i, i < n → v.getLsbD i = false) : zn n v = v >>> n := by
  induction n with
  | zero => simp [zn]
  | succ n ih =>
    rw [zn, ih (fun i hi => h i (by omega))]
    unfold zb
    rw [if_neg (by rw [BitVec.getLsbD_ushiftRight]; simp [h n (by omega)])]
    rw [← BitVec.shiftRight_add]

/-- A byte, as a word. -/
def W8 (x : UInt8) : V32 := BitVec.ofNat 32 x.toNat
theorem W8_I (x : UInt8) : I32 (W8 x) = x.toNat := by simp [W8, I32]
theorem W8_high (x : UInt8) (i : Nat) (h : 8 ≤ i) : (W8 x).getLsbD i = false := by
  unfold W8
  rw [BitVec.getLsbD_ofNat]
  have := x.toNat_lt
  have : x.toNat.testBit i = false := Nat.testBit_lt_two_pow (Nat.lt_of_lt_of_le (by omega : x.toNat < 2 ^ 8) (Nat.pow_le_pow_right (by omega) h))
  simp [this]
theorem rnext_I32 (v : V32) (x : UInt8) : rnext (I32 v) x.toNat = I32 (zn 8 (v ^^^ W8 x)) := by
  unfold rnext
  rw [← W8_I, xor_I32, rbits_I32]
theorem bits_nat_u8 (a b : Nat) (ha : a < 256) (hb : b < 256) : bits .xor .u8 (a : Int) (b : Int) = ((a ^^^ b : Nat) : Int) := by
  have hp : (2 : Nat) ^ IntKind.u8.bits = 256 := rfl
  have ha' : a % 2 ^ IntKind.u8.bits = a := Nat.mod_eq_of_lt (by omega)
  have hb' : b % 2 ^ IntKind.u8.bits = b := Nat.mod_eq_of_lt (by omega)
  simp only [bits, BitVec.ofInt_natCast, BitVec.toNat_xor, BitVec.toNat_ofNat, ha', hb']
  rw [IntKind.wrap_u8]
  have := Nat.xor_lt_two_pow (n := 8) ha hb
  omega
theorem tab_I32 (i : Nat) (h : i < 4294967296) : crcTab i = I32 (zn 8 (BitVec.ofNat 32 i)) := by
  unfold crcTab
  rw [← crcBits_I32]
  congr 1
  simp [I32]; omega
theorem crcNext_I32 (v : V32) (x : UInt8) : crcNext (I32 v) x.toNat = I32 (zn 8 (v ^^^ W8 x)) := by
  unfold crcNext
  have h0 : I32 v % 256 = ((v.toNat % 256 : Nat) : Int) := by unfold I32; omega
  have hx := x.toNat_lt
  rw [h0, bits_nat_u8 _ _ (by omega) (by omega)]
  have hlt : v.toNat % 256 ^^^ x.toNat < 256 := Nat.xor_lt_two_pow (n := 8) (by omega) (by omega)
  rw [Int.toNat_natCast, tab_I32 _ (by omega)]
  have h1 : I32 v / (256 : Int) = I32 (v >>> 8) := by simp [I32, BitVec.toNat_ushiftRight, Nat.shiftRight_eq_div_pow]
  rw [h1, xor_I32]
  congr 1
  -- the word is its high part, turned by its low byte
  have hlow : BitVec.ofNat 32 (v.toNat % 256 ^^^ x.toNat) = (v &&& 255#32) ^^^ W8 x := by
    apply BitVec.eq_of_toNat_eq
    have e1 : (v &&& 255#32).toNat = v.toNat % 256 := by rw [BitVec.toNat_and]; exact Nat.and_two_pow_sub_one_eq_mod v.toNat 8
    have e2 : (W8 x).toNat = x.toNat := by have := W8_I x; unfold I32 at this; omega
    rw [BitVec.toNat_xor, e1, e2, BitVec.toNat_ofNat]
    omega
  rw [hlow]
  have hsplit : v ^^^ W8 x = (v &&& ~~~255#32) ^^^ ((v &&& 255#32) ^^^ W8 x) := by
    apply BitVec.eq_of_getLsbD_eq
    intro i hi
    simp only [BitVec.getLsbD_xor, BitVec.getLsbD_and, BitVec.getLsbD_not]
    cases v.getLsbD i <;> cases (255#32).getLsbD i <;> simp [hi]
  have hlowbits : ∀ i, i < 8 → (v &&& ~~~255#32).getLsbD i = false := by
    intro i hi
    have : (~~~255#32 : V32).getLsbD i = false := by
      have : ∀ j : Fin 8, (~~~255#32 : V32).getLsbD j = false := by decide
      exact this ⟨i, hi⟩
    rw [BitVec.getLsbD_and, this, Bool.and_false]
  have hhigh : (v &&& ~~~255#32) >>> 8 = v >>> 8 := by
    apply BitVec.eq_of_getLsbD_eq
    intro i hi
    rw [BitVec.getLsbD_ushiftRight, BitVec.getLsbD_ushiftRight, BitVec.getLsbD_and]
    by_cases h : 8 + i < 32
    · have h2 : (~~~255#32 : V32).getLsbD (8 + i) = true := by
        have : ∀ j : Fin 24, (~~~255#32 : V32).getLsbD (8 + j) = true := by decide
        exact this ⟨i, by omega⟩
      rw [h2, Bool.and_true]
    · rw [BitVec.getLsbD_of_ge v _ (by omega), Bool.false_and]
  rw [hsplit, zn_xor 8 (v &&& ~~~255#32), zn_shift _ 8 hlowbits, hhigh]

/-- A register behind bytes. -/
def reg : List UInt8 → V32 → V32
  | [], v => v
  | x :: l, v => reg l (zn 8 (v ^^^ W8 x))
theorem crcAll_I32 (l : List UInt8) (v : V32) : crcAll l (I32 v) = I32 (reg l v) := by
  induction l generalizing v with
  | nil => rfl
  | cons x l ih => rw [crcAll, crcNext_I32, ih]; rfl
theorem rall_I32 (l : List UInt8) (v : V32) : rall l (I32 v) = I32 (reg l v) := by
  induction l generalizing v with
  | nil => rfl
  | cons x l ih => rw [rall, rnext_I32, ih]; rfl
theorem ones_I32 : I32 (BitVec.allOnes 32) = 4294967295 := by decide
theorem crcSum_I32 (l : List UInt8) : crcSum l = I32 (~~~ reg l (BitVec.allOnes 32)) := by
  unfold crcSum
  rw [← ones_I32, crcAll_I32, xor_I32, BitVec.xor_allOnes]
theorem rsum_eq (l : List UInt8) : rsum l = crcSum l := by
  rw [crcSum_I32]
  unfold rsum
  rw [← ones_I32, rall_I32]
  have h := BitVec.toNat_not (x := reg l (BitVec.allOnes 32))
  have := (reg l (BitVec.allOnes 32)).isLt
  rw [ones_I32]
  unfold I32
  rw [h]
  omega
theorem rsealOf_eq (s : ByteArray) : rsealOf s = sealOf s := by unfold rsealOf sealOf; rw [rsum_eq]
theorem ropenOf_eq (s : ByteArray) : ropenOf s = openOf s := by unfold ropenOf openOf; rw [rsealOf_eq]
end Go.Proofs.Ytjegohibpojneaa
