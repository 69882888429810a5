import Derived.Test.YtjegohibpojneaaLib
set_option linter.unusedVariables false
set_option linter.unusedSimpArgs false
namespace Go.Proofs.Ytjegohibpojneaa
open Go.RowKit

/-! ### pack, plain: what is written, what is read -/
/-- A text out of its bytes. -/
def str (l : List UInt8) : ByteArray := ⟨l.toArray⟩
theorem str_size (l : List UInt8) : (str l).size = l.length := by simp [str, ByteArray.size]
theorem str_list (l : List UInt8) : (str l).data.toList = l := by simp [str]
theorem str_of (s : ByteArray) : str s.data.toList = s := by simp [str]
theorem str_append (l m : List UInt8) : str l ++ str m = str (l ++ m) := by
  apply ByteArray.ext; simp [str]
theorem str_inj {l m : List UInt8} (h : str l = str m) : l = m := by rw [← str_list l, h, str_list]
theorem str_toList (l : List UInt8) : (str l).toList = l := by rw [ByteArray.toList_eq, str_list]
theorem str_take (l : List UInt8) (n : Nat) : (str l).extract 0 n = str (l.take n) := by
  apply ByteArray.ext; simp [str]
theorem str_drop (l : List UInt8) (n m : Nat) (h : l.length ≤ m) : (str l).extract n m = str (l.drop n) := by
  apply ByteArray.ext
  simp [str]
  rw [List.take_of_length_le (by simp; omega)]
def nums8 (l : List UInt8) : List Int := l.map fun x => (x.toNat : Int)
theorem strOfNums8 (l : List UInt8) : strOfNums (nums8 l) = str l := by
  unfold strOfNums nums8 str
  congr 2
  rw [List.map_map]
  conv => rhs; rw [← List.map_id l]
  apply List.map_congr_left
  intro x _
  simp

def vint (v : Nat) : List UInt8 := if h : v < 128 then [UInt8.ofNat v] else UInt8.ofNat (v % 128 + 128) :: vint (v / 128)
termination_by v
decreasing_by omega
theorem vint_small {v : Nat} (h : v < 128) : vint v = [UInt8.ofNat v] := by rw [vint, dif_pos h]
theorem vint_more {v : Nat} (h : ¬ v < 128) : vint v = UInt8.ofNat (v % 128 + 128) :: vint (v / 128) := by rw [vint, dif_neg h]
theorem vint_length (k v : Nat) : v < 128 ^ (k + 1) → (vint v).length ≤ k + 1 := by
  induction k generalizing v with
  | zero => intro h; rw [vint_small (by simpa using h)]; simp
  | succ k ih =>
    intro h
    by_cases hs : v < 128
    · rw [vint_small hs]; simp
    · rw [vint_more hs]
      have := ih (v / 128) (by rw [Nat.pow_succ] at h; omega)
      simp; omega
theorem vint_le10 (v : Nat) (h : v < 18446744073709551616) : (vint v).length ≤ 10 := vint_length 9 v (by omega)
theorem vint_pos (v : Nat) : 0 < (vint v).length := by
  by_cases h : v < 128
  · rw [vint_small h]; simp
  · rw [vint_more h]; simp

/-- What a zigzag's word is. -/
def zz (v : Int) : Nat := if 0 ≤ v then (2 * v).toNat else (-2 * v - 1).toNat
def unzz (n : Nat) : Int := if n % 2 = 0 then (n / 2 : Nat) else -((n / 2 : Nat) : Int) - 1
theorem zz_range (v : Int) (h : -9223372036854775808 ≤ v ∧ v ≤ 9223372036854775807) : zz v < 18446744073709551616 := by unfold zz; split <;> omega
theorem unzz_zz (v : Int) : unzz (zz v) = v := by unfold unzz zz; split <;> split <;> omega
theorem zz_unzz (n : Nat) : zz (unzz n) = n := by unfold unzz zz; split <;> split <;> omega
theorem unzz_range (n : Nat) (h : n < 18446744073709551616) : -9223372036854775808 ≤ unzz n ∧ unzz n ≤ 9223372036854775807 := by unfold unzz; split <;> omega

/-- A rising row's differences, behind 'last'. -/
def risb : Int → List Int → Option (List UInt8)
  | _, [] => some []
  | last, v :: l => if v ≤ last then none else (risb v l).map (vint (v - last - 1).toNat ++ ·)
def risS (l : List Int) : Option (List UInt8) := (risb (-1) l).map (vint l.length ++ ·)

/-- A byte out of eight bits. -/
def byteOf (F : Nat → Bool) (j : Nat) : Nat :=
  (F (8 * j)).toNat + 2 * (F (8 * j + 1)).toNat + 4 * (F (8 * j + 2)).toNat + 8 * (F (8 * j + 3)).toNat + 16 * (F (8 * j + 4)).toNat + 32 * (F (8 * j + 5)).toNat + 64 * (F (8 * j + 6)).toNat + 128 * (F (8 * j + 7)).toNat
theorem byteOf_lt (F : Nat → Bool) (j : Nat) : byteOf F j < 256 := by
  unfold byteOf
  have h : ∀ b : Bool, b.toNat ≤ 1 := fun b => by cases b <;> simp
  have := h (F (8 * j)); have := h (F (8 * j + 1)); have := h (F (8 * j + 2)); have := h (F (8 * j + 3)); have := h (F (8 * j + 4)); have := h (F (8 * j + 5)); have := h (F (8 * j + 6)); have := h (F (8 * j + 7))
  omega
/-- The bits of numbers of w bits each, from the front, as far as place n. -/
def bitsW (w : Nat) (l : List Int) (p : Nat) : Bool := (l.getD (p / w) 0).toNat.testBit (p % w)
def fixOk (w : Nat) (l : List Int) : Bool := l.all fun v => decide (0 ≤ v) && decide (v < 2 ^ w)
def fixB (w : Nat) (l : List Int) : List UInt8 := (List.range ((w * l.length + 7) / 8)).map fun j => UInt8.ofNat (byteOf (fun p => decide (p < w * l.length) && bitsW w l p) j)
def fixS (w : Int) (l : List Int) : Option (List UInt8) := if w < 0 ∨ 32 < w then none else if fixOk w.toNat l then some (fixB w.toNat l) else none

theorem b8_or : ∀ (c : Fin 8) (a0 a1 a2 a3 a4 a5 a6 a7 b : Bool), (∀ i : Fin 8, c ≤ i → [a0, a1, a2, a3, a4, a5, a6, a7].getD i.val false = false) →
    (a0.toNat + 2 * a1.toNat + 4 * a2.toNat + 8 * a3.toNat + 16 * a4.toNat + 32 * a5.toNat + 64 * a6.toNat + 128 * a7.toNat) ||| b.toNat * 2 ^ c.val =
    ((if 0 = c.val then b else a0).toNat + 2 * (if 1 = c.val then b else a1).toNat + 4 * (if 2 = c.val then b else a2).toNat + 8 * (if 3 = c.val then b else a3).toNat + 16 * (if 4 = c.val then b else a4).toNat + 32 * (if 5 = c.val then b else a5).toNat + 64 * (if 6 = c.val then b else a6).toNat + 128 * (if 7 = c.val then b else a7).toNat) := by decide +kernel
theorem byteOf_or (F G : Nat → Bool) (t : Nat) (b : Bool) (hF : ∀ p, t ≤ p → F p = false) (hG : ∀ p, G p = if p = t then b else F p) :
    byteOf F (t / 8) ||| b.toNat * 2 ^ (t % 8) = byteOf G (t / 8) := by
  have hk : ∀ i, i < 8 → G (8 * (t / 8) + i) = if i = t % 8 then b else F (8 * (t / 8) + i) := by
    intro i hi
    rw [hG]
    by_cases h : i = t % 8
    · rw [if_pos h, if_pos (by omega)]
    · rw [if_neg h, if_neg (by omega)]
  have h0 := hk 0 (by omega)
  rw [Nat.add_zero] at h0
  have := b8_or ⟨t % 8, by omega⟩ (F (8 * (t / 8))) (F (8 * (t / 8) + 1)) (F (8 * (t / 8) + 2)) (F (8 * (t / 8) + 3)) (F (8 * (t / 8) + 4)) (F (8 * (t / 8) + 5)) (F (8 * (t / 8) + 6)) (F (8 * (t / 8) + 7)) b (by
    intro i hi
    have hi' : t % 8 ≤ i.val := hi
    obtain ⟨i, h8⟩ := i
    match i, h8 with
    | 0, _ => exact hF _ (by simp at hi'; omega)
    | 1, _ => exact hF _ (by simp at hi'; omega)
    | 2, _ => exact hF _ (by simp at hi'; omega)
    | 3, _ => exact hF _ (by simp at hi'; omega)
    | 4, _ => exact hF _ (by simp at hi'; omega)
    | 5, _ => exact hF _ (by simp at hi'; omega)
    | 6, _ => exact hF _ (by simp at hi'; omega)
    | 7, _ => exact hF _ (by simp at hi'; omega))
  unfold byteOf
  rw [h0, hk 1 (by omega), hk 2 (by omega), hk 3 (by omega), hk 4 (by omega), hk 5 (by omega), hk 6 (by omega), hk 7 (by omega)]
  exact this
theorem b8_add : ∀ (c : Fin 8) (a0 a1 a2 a3 a4 a5 a6 a7 b : Bool), (∀ i : Fin 8, c ≤ i → [a0, a1, a2, a3, a4, a5, a6, a7].getD i.val false = false) →
    (a0.toNat + 2 * a1.toNat + 4 * a2.toNat + 8 * a3.toNat + 16 * a4.toNat + 32 * a5.toNat + 64 * a6.toNat + 128 * a7.toNat) + b.toNat * 2 ^ c.val =
    (a0.toNat + 2 * a1.toNat + 4 * a2.toNat + 8 * a3.toNat + 16 * a4.toNat + 32 * a5.toNat + 64 * a6.toNat + 128 * a7.toNat) ||| b.toNat * 2 ^ c.val := by decide +kernel
theorem byteOf_plus (F : Nat → Bool) (t : Nat) (b : Bool) (hF : ∀ p, t ≤ p → F p = false) : byteOf F (t / 8) + b.toNat * 2 ^ (t % 8) = byteOf F (t / 8) ||| b.toNat * 2 ^ (t % 8) := by
  exact b8_add ⟨t % 8, by omega⟩ (F (8 * (t / 8))) (F (8 * (t / 8) + 1)) (F (8 * (t / 8) + 2)) (F (8 * (t / 8) + 3)) (F (8 * (t / 8) + 4)) (F (8 * (t / 8) + 5)) (F (8 * (t / 8) + 6)) (F (8 * (t / 8) + 7)) b (by
    intro i hi
    have hi' : t % 8 ≤ i.val := hi
    obtain ⟨i, h8⟩ := i
    match i, h8 with
    | 0, _ => exact hF _ (by simp at hi'; omega)
    | 1, _ => exact hF _ (by simp at hi'; omega)
    | 2, _ => exact hF _ (by simp at hi'; omega)
    | 3, _ => exact hF _ (by simp at hi'; omega)
    | 4, _ => exact hF _ (by simp at hi'; omega)
    | 5, _ => exact hF _ (by simp at hi'; omega)
    | 6, _ => exact hF _ (by simp at hi'; omega)
    | 7, _ => exact hF _ (by simp at hi'; omega))
theorem byteOf_keep (F G : Nat → Bool) (t j : Nat) (h : j ≠ t / 8) (hG : ∀ p, p ≠ t → G p = F p) : byteOf G j = byteOf F j := by
  unfold byteOf
  rw [hG _ (by omega), hG (8 * j + 1) (by omega), hG (8 * j + 2) (by omega), hG (8 * j + 3) (by omega), hG (8 * j + 4) (by omega), hG (8 * j + 5) (by omega), hG (8 * j + 6) (by omega), hG (8 * j + 7) (by omega)]
theorem fixB_length (w : Nat) (l : List Int) : (fixB w l).length = (w * l.length + 7) / 8 := by simp [fixB]
theorem fixB_get (w : Nat) (l : List Int) (j : Nat) (h : j < (w * l.length + 7) / 8) : (fixB w l)[j]? = some (UInt8.ofNat (byteOf (fun p => decide (p < w * l.length) && bitsW w l p) j)) := by
  unfold fixB
  rw [List.getElem?_map, List.getElem?_range h]
  rfl
theorem bitsW_at (w : Nat) (l : List Int) (k q : Nat) (hk : k < l.length) (hq : q < w) : bitsW w l (w * k + q) = (l[k]).toNat.testBit q := by
  unfold bitsW
  rw [Nat.mul_add_div (by omega), Nat.mul_add_mod, Nat.div_eq_of_lt hq, Nat.mod_eq_of_lt hq, Nat.add_zero, List.getD_eq_getElem?_getD, List.getElem?_eq_getElem hk]
  rfl
theorem fixOk_snoc (w : Nat) (l : List Int) (k : Nat) (hk : k < l.length) : fixOk w (l.take (k + 1)) = (fixOk w (l.take k) && (decide (0 ≤ l[k]) && decide (l[k] < 2 ^ w))) := by
  unfold fixOk
  rw [← List.take_append_getElem hk, List.all_append]
  simp only [List.all_cons, List.all_nil, Bool.and_true]
theorem fixOk_no (w : Nat) (l : List Int) (k : Nat) (hk : k < l.length) (h : l[k] < 0 ∨ (2 : Int) ^ w ≤ l[k]) : fixOk w l = false := by
  unfold fixOk
  rw [List.all_eq_false]
  refine ⟨l[k], List.getElem_mem hk, ?_⟩
  intro hc
  rw [Bool.and_eq_true] at hc
  have h1 := of_decide_eq_true hc.1
  have h2 := of_decide_eq_true hc.2
  omega

/-- The error's number of what may be refused (ErrRange). -/
def eno {α : Type} (o : Option α) : Int := if o.isSome then 0 else 1
theorem risb_length : ∀ (last : Int) (l : List Int) (s : List UInt8), -1 ≤ last → (∀ x ∈ l, x ≤ 9223372036854775807) → risb last l = some s → s.length ≤ 10 * l.length := by
  intro last l
  induction l generalizing last with
  | nil => intro s _ _ h; simp [risb] at h; subst h; simp
  | cons v l ih =>
    intro s hlast hl h
    unfold risb at h
    by_cases hv : v ≤ last
    · rw [if_pos hv] at h; cases h
    · rw [if_neg hv] at h
      obtain ⟨t, ht, rfl⟩ := Option.map_eq_some_iff.1 h
      have h1 := ih v t (by omega) (fun x hx => hl x (List.mem_cons_of_mem _ hx)) ht
      have h2 := vint_le10 (v - last - 1).toNat (by have := hl v List.mem_cons_self; omega)
      simp only [List.length_append, List.length_cons]; omega
theorem xor_ones (x : Nat) (h : x < 18446744073709551616) : x ^^^ 18446744073709551615 = 18446744073709551615 - x := by
  have h1 : (BitVec.ofNat 64 x ^^^ BitVec.allOnes 64) = ~~~ BitVec.ofNat 64 x := BitVec.xor_allOnes
  have h2 := congrArg BitVec.toNat h1
  rw [BitVec.toNat_xor, BitVec.toNat_not, BitVec.toNat_ofNat, BitVec.toNat_allOnes, Nat.mod_eq_of_lt (by omega)] at h2
  exact h2
theorem zz_word (v : Int) (h : -9223372036854775808 ≤ v ∧ v ≤ 9223372036854775807) : bits .xor .u64 (IntKind.u64.wrap (IntKind.u64.wrap v * 2)) (IntKind.u64.wrap (v / 9223372036854775808)) = ((zz v : Nat) : Int) := by
  simp only [IntKind.wrap_u64]
  by_cases hv : 0 ≤ v
  · have e1 : v % 18446744073709551616 * 2 % 18446744073709551616 = ((2 * v.toNat : Nat) : Int) := by omega
    have e2 : v / 9223372036854775808 % 18446744073709551616 = ((0 : Nat) : Int) := by omega
    rw [e1, e2, bits_xor_u64_nat _ _ (by omega) (by omega), Nat.xor_zero]
    unfold zz
    rw [if_pos hv]
    omega
  · have e1 : v % 18446744073709551616 * 2 % 18446744073709551616 = (((18446744073709551616 + 2 * v).toNat : Nat) : Int) := by omega
    have e2 : v / 9223372036854775808 % 18446744073709551616 = ((18446744073709551615 : Nat) : Int) := by omega
    rw [e1, e2, bits_xor_u64_nat _ _ (by omega) (by omega), xor_ones _ (by omega)]
    unfold zz
    rw [if_neg hv]
    omega

/-! reading -/
/-- A reader: bad, or what is left. -/
abbrev RS := Option (List UInt8)
def bytesS (st : RS) (n : Int) : List UInt8 × RS :=
  match st with
  | none => ([], none)
  | some l => if n < 0 ∨ (l.length : Int) < n then ([], none) else (l.take n.toNat, some (l.drop n.toNat))
/-- A word's bytes from place i on. -/
def wd : Nat → Nat → List UInt8 → Option (Nat × List UInt8)
  | _, _, [] => none
  | i, v, b :: l =>
    if 10 ≤ i then none
    else if 128 ≤ b.toNat then (if i = 9 then none else wd (i + 1) (v + (b.toNat - 128) * 128 ^ i) l)
    else if b.toNat = 0 ∧ 0 < i ∨ i = 9 ∧ 1 < b.toNat then none
    else some (v + b.toNat * 128 ^ i, l)
def wordS (st : RS) : Nat × RS :=
  match st with
  | none => (0, none)
  | some l => match wd 0 0 l with
    | none => (0, none)
    | some (v, r) => (v, some r)
def varS (st : RS) : Nat × RS := if 9223372036854775807 < (wordS st).1 then (0, none) else wordS st
def zigS (st : RS) : Int × RS := (unzz (wordS st).1, (wordS st).2)

abbrev cell8 (x : UInt8) : Value := .int .u8 x.toNat
theorem own_str {P : Program} {w : World} {base n : Nat} {e' src dst e : TypeId} {v : Value} {l : List UInt8} (hs : P.underlying src = some (.slice e)) (he : P.underlying e = some (.int .u8)) (hd : P.underlying dst = some .string)
    (h : w.ownsRow base e' 1 v n (l.map cell8)) : (convert src dst v).run P w = .ok (.string (str l)) w := by
  have hl : l.length = n := by have := h.1; simpa using this
  rcases h.2 with ⟨rfl, h0⟩ | ⟨g, cap, cur, rfl, _, hg, hnc, hm, hcur, htake⟩
  · obtain rfl : l = [] := List.eq_nil_of_length_eq_zero (by omega)
    exact run_convert_bytes_nil w src e hs he 0 0 dst hd
  · rw [← strOfNums8 l]
    refine run_convert_bytes_arg w src e hs he g 0 n cap (nums8 l) (by simpa [nums8] using hl) (fun i hi => ?_) dst hd
    rw [Nat.zero_add, blk_cells hg]
    have := congrArg (fun l => l[i]?) htake
    simp only [List.getElem?_take, Nat.mul_one, hi, if_true, Array.getElem?_toList, List.getElem?_map] at this
    rw [this]
    simp [nums8, show i < l.length by omega]
theorem own_snoc8 {w : World} {base n : Nat} {e : TypeId} {v : Value} {l : List UInt8} {k : Int} (h : w.ownsRow base e 1 v n (l.map cell8 ++ [.int .u8 k])) (h0 : 0 ≤ k) (h1 : k < 256) : w.ownsRow base e 1 v n ((l ++ [UInt8.ofNat k.toNat]).map cell8) := by
  rw [List.map_append]
  have e : ((UInt8.ofNat k.toNat).toNat : Int) = k := by rw [UInt8.toNat_ofNat']; omega
  rw [show ([UInt8.ofNat k.toNat].map cell8) = [.int .u8 k] by rw [List.map_singleton]; unfold cell8; rw [e]]
  exact h
theorem own_str_snoc {P : Program} {w : World} {base n : Nat} {e' src dst e : TypeId} {v : Value} {l : List UInt8} {k : Int} (hs : P.underlying src = some (.slice e)) (he : P.underlying e = some (.int .u8)) (hd : P.underlying dst = some .string)
    (h : w.ownsRow base e' 1 v n (l.map cell8 ++ [.int .u8 k])) (h0 : 0 ≤ k) (h1 : k < 256) : (convert src dst v).run P w = .ok (.string (str (l ++ [UInt8.ofNat k.toNat]))) w :=
  own_str hs he hd (own_snoc8 h h0 h1)
end Go.Proofs.Ytjegohibpojneaa
