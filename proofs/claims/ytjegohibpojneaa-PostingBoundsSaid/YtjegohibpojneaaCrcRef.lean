import Derived.Test.YtjegohibpojneaaCrcSum
set_option linter.unusedVariables false
set_option linter.unusedSimpArgs false
namespace Go.Proofs.Ytjegohibpojneaa
open Go.RowKit

/-! ### the reference of crc -/
def rbit (c : Int) : Int := if c % 2 = 1 then bits .xor .u32 (c / 2) 3988292384 else c / 2
def rbits : Nat → Int → Int
  | 0, c => c
  | n + 1, c => rbit (rbits n c)
theorem rbit_range (c : Int) (h : 0 ≤ c ∧ c < 4294967296) : 0 ≤ rbit c ∧ rbit c < 4294967296 := by
  unfold rbit; split
  · exact bits_u32 _ _ _
  · omega
theorem rbits_range (n : Nat) (c : Int) (h : 0 ≤ c ∧ c < 4294967296) : 0 ≤ rbits n c ∧ rbits n c < 4294967296 := by
  induction n with
  | zero => exact h
  | succ n ih => exact rbit_range _ ih
def rnext (c x : Int) : Int := rbits 8 (bits .xor .u32 c x)
def rall : List UInt8 → Int → Int
  | [], c => c
  | x :: l, c => rall l (rnext c x.toNat)
theorem rall_append (l m : List UInt8) (c : Int) : rall (l ++ m) c = rall m (rall l c) := by
  induction l generalizing c with
  | nil => rfl
  | cons x l ih => exact ih _
theorem rall_range (l : List UInt8) (c : Int) (h : 0 ≤ c ∧ c < 4294967296) : 0 ≤ rall l c ∧ rall l c < 4294967296 := by
  induction l generalizing c with
  | nil => exact h
  | cons x l ih => exact ih _ (by unfold rnext; exact rbits_range _ _ (bits_u32 _ _ _))
def rsum (l : List UInt8) : Int := 4294967295 - rall l 4294967295
theorem rsum_range (l : List UInt8) : 0 ≤ rsum l ∧ rsum l < 4294967296 := by have := rall_range l 4294967295 (by omega); unfold rsum; omega

set_option maxRecDepth 100000 in
theorem rsum_any (s : ByteArray) (w : World) (hs : s.size ≤ maxLen) :
    Calls Try.prog 147 #[.string s] w fun e w' => e = .returned (.int .u32 (rsum s.data.toList)) ∧ w' = w := by
  unfold maxLen at hs
  have hr0 := rall_range s.data.toList 4294967295 (by omega)
  go_enter Try.func147, Try.ntmps147
  go_wp2
  go_loop [3, 4, 5] (fun c i _ => ∃ k : Nat, k ≤ s.size ∧ i = .int .i64 k ∧ c = .int .u32 (rall (s.data.toList.take k) 4294967295)) (fun _ i _ => s.size - (intOf i).toNat)
  case atStart => exact ⟨0, by omega, rfl, rfl⟩
  case round =>
    obtain ⟨k, hk, rfl, rfl⟩ := hrel
    by_cases hlt : k < s.size
    · have hr := rall_range (s.data.toList.take k) 4294967295 (by omega)
      have hstep : rall (s.data.toList.take (k + 1)) 4294967295 = rnext (rall (s.data.toList.take k) 4294967295) s[k].toNat := by
        rw [List.take_add_one, List.getElem?_eq_getElem (by simpa using hlt), rall_append]; rfl
      have hbk : (s[k].toNat : Int) < 256 := by have := s[k].toNat_lt; omega
      have HS := Lib.hid hstep
      clear hstep
      generalize rall (s.data.toList.take k) 4294967295 = c0 at *
      go_wp2
      go_loop [3, 5] (fun c i => ∃ j : Nat, j ≤ 8 ∧ i = .int .i64 j ∧ c = .int .u32 (rbits j (bits .xor .u32 c0 s[k].toNat))) (fun _ i => 8 - (intOf i).toNat)
      case atStart => exact ⟨0, by omega, rfl, rfl⟩
      case round =>
        obtain ⟨j, hj, rfl, rfl⟩ := hrel
        have hlo := rbits_range j (bits .xor .u32 c0 s[k].toNat) (bits_u32 _ _ _)
        by_cases hlt2 : j < 8
        · have hnx : rbits (j + 1) (bits .xor .u32 c0 s[k].toNat) = rbit (rbits j (bits .xor .u32 c0 s[k].toNat)) := rfl
          have HNX := Lib.hid hnx
          clear hnx
          generalize rbits j (bits .xor .u32 c0 s[k].toNat) = c1 at *
          by_cases hodd : c1 % 2 = 1
          · have ht : (c1 % 2 == 1) = true := by simpa using hodd
            have he : rbit c1 = bits .xor .u32 (c1 / 2) 3988292384 := by unfold rbit; rw [if_pos hodd]
            have HE := Lib.hid he
            clear he hodd
            go_wp2
            go_round
            case rel => exact ⟨j + 1, by omega, by go_num, by rw [HNX.out, HE.out]⟩
            case measure => simp [intOf]; omega
          · have ht : (c1 % 2 == 1) = false := by simpa using hodd
            have he : rbit c1 = c1 / 2 := by unfold rbit; rw [if_neg hodd]
            have HE := Lib.hid he
            clear he hodd
            go_wp2
            go_round
            case rel => exact ⟨j + 1, by omega, by go_num, by rw [HNX.out, HE.out]⟩
            case measure => simp [intOf]; omega
        · obtain rfl : j = 8 := by omega
          go_wp2
          go_round
          case rel => exact ⟨k + 1, by omega, by go_num, by rw [HS.out]; rfl⟩
          case measure => simp [intOf]; omega
    · rw [List.take_of_length_le (by simp; omega)]
      go_wp2
      go_ret
      exact ⟨rfl, rfl⟩

def rsealOf (s : ByteArray) : ByteArray := s ++ strOfNums [rsum s.data.toList % 256, rsum s.data.toList / 256 % 256, rsum s.data.toList / 65536 % 256, rsum s.data.toList / 16777216]

set_option maxRecDepth 100000 in
theorem rseal_any (s : ByteArray) (w : World) (hs : s.size + 4 ≤ maxLen) :
    Calls Try.prog 103 #[.string s] w fun e w' => e = .returned (.string (rsealOf s)) ∧ Same w w' := by
  have hs1 : s.size ≤ maxLen := by omega
  have hs2 := Lib.hid hs1
  clear hs1
  unfold maxLen at hs
  have hr := rsum_range s.data.toList
  have hcv := conv4
  have hsz : (strOfNums [rsum s.data.toList % 256, rsum s.data.toList / 256 % 256, rsum s.data.toList / 65536 % 256, rsum s.data.toList / 16777216]).size = 4 := by rw [strOfNums_size]; rfl
  go_enter Try.func103, Try.ntmps103
  go_wp2_with (go_at_call 147; refine (rsum_any s _ hs2.out).mono ?_; rintro e w1 ⟨rfl, rfl⟩)
  go_ret
  exact ⟨rfl, (Only.refl _ _).alloc _⟩

/-- What the reference's Open tells. -/
def ropenOf (s : ByteArray) : ByteArray × Int :=
  if s.size < 4 then (⟨#[]⟩, 2) else if (rsealOf (s.extract 0 (s.size - 4))).toList == s.toList then (s.extract 0 (s.size - 4), 0) else (⟨#[]⟩, 8)

set_option maxRecDepth 100000 in
theorem ropen_any (s : ByteArray) (w : World) (hs : s.size ≤ maxLen) :
    Calls Try.prog 105 #[.string s] w fun e w' => e = .returned (.tuple #[.string (ropenOf s).1, .int .i64 (ropenOf s).2]) ∧ Same w w' := by
  have hs' := Lib.hid hs
  unfold maxLen at hs
  by_cases h4 : s.size < 4
  · have he : ropenOf s = (⟨#[]⟩, 2) := by unfold ropenOf; rw [if_pos h4]
    rw [he]
    go_enter Try.func105, Try.ntmps105
    go_wp2_with fail
    go_ret2
    exact ⟨rfl, Only.refl _ _⟩
  · have hsl : (s.extract 0 (s.size - 4)).size + 4 ≤ maxLen := by simp; have := hs'.out; omega
    by_cases heq : (rsealOf (s.extract 0 (s.size - 4))).toList == s.toList
    · have he : ropenOf s = (s.extract 0 (s.size - 4), 0) := by unfold ropenOf; rw [if_neg h4, if_pos heq]
      rw [he]
      go_enter Try.func105, Try.ntmps105
      go_wp2_with (go_at_call 103; refine (rseal_any _ _ hsl).mono ?_; rintro e w1 ⟨rfl, hb⟩)
      go_ret2
      exact ⟨rfl, hb⟩
    · have he : ropenOf s = (⟨#[]⟩, 8) := by unfold ropenOf; rw [if_neg h4, if_neg heq]
      rw [he]
      have heq' : ((rsealOf (s.extract 0 (s.size - 4))).toList == s.toList) = false := by simpa using heq
      clear heq
      go_enter Try.func105, Try.ntmps105
      go_wp2_with (go_at_call 103; refine (rseal_any _ _ hsl).mono ?_; rintro e w1 ⟨rfl, hb⟩)
      go_ret2
      exact ⟨rfl, hb⟩
end Go.Proofs.Ytjegohibpojneaa
