import Derived.Test.YtjegohibpojneaaCrcAdd
set_option linter.unusedVariables false
set_option linter.unusedSimpArgs false
namespace Go.Proofs.Ytjegohibpojneaa
open Go.RowKit

/-- The sum of bytes, as the program makes it. -/
def crcSum (l : List UInt8) : Int := bits .xor .u32 (crcAll l 4294967295) 4294967295
theorem crcSum_range (l : List UInt8) : 0 ≤ crcSum l ∧ crcSum l < 4294967296 := bits_u32 _ _ _
def cat (l : List ByteArray) : List UInt8 := l.flatMap (·.data.toList)
theorem cat_take (l : List ByteArray) (k : Nat) (h : k < l.length) : cat (l.take (k + 1)) = cat (l.take k) ++ l[k].data.toList := by
  rw [List.take_add_one, List.getElem?_eq_getElem h]
  unfold cat
  rw [List.flatMap_append]
  simp
def sealOf (s : ByteArray) : ByteArray := s ++ strOfNums [crcSum s.data.toList % 256, crcSum s.data.toList / 256 % 256, crcSum s.data.toList / 65536 % 256, crcSum s.data.toList / 16777216]

set_option maxRecDepth 100000 in
theorem csum_any (v : Value) (l : List ByteArray) (w : World) (hv : Sl w .string v l) (hl : ∀ s ∈ l, s.size ≤ maxLen) :
    Calls Try.prog 146 #[v] w fun e w' => e = .returned (.int .u32 (crcSum (cat l))) ∧ Same w w' := by
  obtain ⟨ad, cp, rfl, hcp, hmx, hnil, hcell⟩ := hv
  unfold maxLen at hmx
  go_enter Try.func146, Try.ntmps146
  go_wp2_with (first | (go_at_call 165; refine (new_any _).mono ?_; rintro e w1 ⟨rfl, hN⟩))
  obtain ⟨hS, hM⟩ := hN
  go_loopw [9, 5] (fun i _ wr => ∃ k : Nat, k ≤ l.length ∧ i = .int .i64 k ∧ Same w wr ∧ ∃ d n, (d = 0 ∨ d = 1) ∧ Met wr w.heap.size d (crcAll (cat (l.take k)) 4294967295) n) (fun i _ _ => l.length - (intOf i).toNat)
  case atStart => exact ⟨0, by omega, rfl, hS, 0, 0, .inl rfl, by simpa [cat, crcAll] using hM⟩
  case round =>
    obtain ⟨k, hk, rfl, hS', d, n, hd, hM'⟩ := hrel
    by_cases hlt : k < l.length
    · obtain ⟨b, off, rfl, hc⟩ := hcell (by omega)
      have hck := hS'.cell_eq (hc k hlt) (fun h => h)
      have hsz := hl l[k] (List.getElem_mem hlt)
      have hr := crcAll_range (cat (l.take k)) 4294967295 (by omega)
      have hnext : crcAll (cat (l.take (k + 1))) 4294967295 = crcAll l[k].data.toList (crcAll (cat (l.take k)) 4294967295) := by
        rw [cat_take l k hlt, crcAll_append]
      have HN := Lib.hid hnext; have HC := Lib.hid hc
      clear hnext hc hcell
      generalize crcAll (cat (l.take k)) 4294967295 = c0 at *
      go_wp2_with (first | (go_at_call 166; refine (madd_any _ d c0 n l[k] hsz hd hr _ hM').mono ?_; rintro e w2 ⟨rfl, hO⟩))
      obtain ⟨hO, hM2⟩ := hO
      rw [← HN.out] at hM2
      exact ⟨⟨k + 1, by omega, by go_num, hS'.trans hO (fun j hj h => by omega), 1, _, .inr rfl, hM2⟩, by simp [intOf]; omega⟩
    · rw [List.take_of_length_le (by omega)] at hM'
      go_wp2_with (first | (go_at_call 167; refine (msum_any _ d _ n _ hM').mono ?_; rintro e w2 ⟨rfl, rfl⟩))
      go_ret
      exact ⟨rfl, hS'⟩

theorem conv4 (a b c d : Int) (W : World) : (convert 148 9 (.slice (some ⟨W.heap.size, 0, none⟩) 4 4)).run Try.prog (W.alloc (.cells #[.int .u8 a, .int .u8 b, .int .u8 c, .int .u8 d] 5)) =
    .ok (.string (strOfNums [a, b, c, d])) (W.alloc (.cells #[.int .u8 a, .int .u8 b, .int .u8 c, .int .u8 d] 5)) := by
  refine run_convert_bytes_arg _ 148 5 Try.underlying148 Try.underlying5 _ 0 4 4 [a, b, c, d] rfl (fun i hi => ?_) 9 Try.underlying9
  rw [blk_cells (blk_new _ _)]
  match i, hi with
  | 0, _ => rfl
  | 1, _ => rfl
  | 2, _ => rfl
  | 3, _ => rfl
  | n + 4, h => omega

theorem sl_one (s : ByteArray) (w : World) : Sl (w.alloc (.cells #[.string s] 9)) .string (.slice (some ⟨w.heap.size, 0, none⟩) 1 1) [s] := by
  refine ⟨_, _, rfl, by simp, by simp [maxLen], (by intro h; cases h), fun _ => ⟨_, _, rfl, fun i hi => ?_⟩⟩
  obtain rfl : i = 0 := by simpa using hi
  rw [blk_cells (blk_new _ _)]; rfl

set_option maxRecDepth 100000 in
theorem seal_any (s : ByteArray) (w : World) (hs : s.size + 4 ≤ maxLen) :
    Calls Try.prog 102 #[.string s] w fun e w' => e = .returned (.string (sealOf s)) ∧ Same w w' := by
  have hl : ∀ t ∈ [s], t.size ≤ maxLen := by intro t ht; simp at ht; subst ht; omega
  have hl1 := Lib.hid hl
  clear hl
  unfold maxLen at hs
  have hr := crcSum_range s.data.toList
  have hcv := conv4
  have hcat : crcSum (cat [s]) = crcSum s.data.toList := by simp [cat]
  have hsz : (strOfNums [crcSum s.data.toList % 256, crcSum s.data.toList / 256 % 256, crcSum s.data.toList / 65536 % 256, crcSum s.data.toList / 16777216]).size = 4 := by rw [strOfNums_size]; rfl
  go_enter Try.func102, Try.ntmps102
  go_wp2_with (go_at_call 146; refine (csum_any _ [s] _ (sl_one s w) hl1.out).mono ?_; rintro e w1 ⟨rfl, hb⟩)
  go_ret
  exact ⟨rfl, (((Only.refl _ _).alloc _).then hb).alloc _⟩

/-- What Open tells. -/
def openOf (s : ByteArray) : ByteArray × Int :=
  if s.size < 4 then (⟨#[]⟩, 2) else if (sealOf (s.extract 0 (s.size - 4))).toList == s.toList then (s.extract 0 (s.size - 4), 0) else (⟨#[]⟩, 8)

set_option maxRecDepth 100000 in
theorem open_any (s : ByteArray) (w : World) (hs : s.size ≤ maxLen) :
    Calls Try.prog 104 #[.string s] w fun e w' => e = .returned (.tuple #[.string (openOf s).1, .int .i64 (openOf s).2]) ∧ Same w w' := by
  have hs' := Lib.hid hs
  unfold maxLen at hs
  by_cases h4 : s.size < 4
  · have he : openOf s = (⟨#[]⟩, 2) := by unfold openOf; rw [if_pos h4]
    rw [he]
    go_enter Try.func104, Try.ntmps104
    go_wp2_with fail
    go_ret2
    exact ⟨rfl, Only.refl _ _⟩
  · have hsl : (s.extract 0 (s.size - 4)).size + 4 ≤ maxLen := by simp; have := hs'.out; omega
    by_cases heq : (sealOf (s.extract 0 (s.size - 4))).toList == s.toList
    · have he : openOf s = (s.extract 0 (s.size - 4), 0) := by unfold openOf; rw [if_neg h4, if_pos heq]
      rw [he]
      go_enter Try.func104, Try.ntmps104
      go_wp2_with (go_at_call 102; refine (seal_any _ _ hsl).mono ?_; rintro e w1 ⟨rfl, hb⟩)
      go_ret2
      exact ⟨rfl, hb⟩
    · have he : openOf s = (⟨#[]⟩, 8) := by unfold openOf; rw [if_neg h4, if_neg heq]
      rw [he]
      have heq' : ((sealOf (s.extract 0 (s.size - 4))).toList == s.toList) = false := by simpa using heq
      clear heq
      go_enter Try.func104, Try.ntmps104
      go_wp2_with (go_at_call 102; refine (seal_any _ _ hsl).mono ?_; rintro e w1 ⟨rfl, hb⟩)
      go_ret2
      exact ⟨rfl, hb⟩
end Go.Proofs.Ytjegohibpojneaa
