import Derived.Test.YtjegohibpojneaaCrc
import Derived.Lib.ConvBytes
set_option linter.unusedVariables false
set_option linter.unusedSimpArgs false
namespace Go.Proofs.Ytjegohibpojneaa
open Go.RowKit

theorem bits_u8 (o : BinOp) (a b : Int) : 0 ≤ bits o .u8 a b ∧ bits o .u8 a b < 256 := by
  have : ∀ n : Int, 0 ≤ IntKind.u8.wrap n ∧ IntKind.u8.wrap n < 256 := fun n => by rw [IntKind.wrap_u8]; omega
  unfold bits; exact this _
/-- One byte more, by the table. -/
def crcNext (c x : Int) : Int := bits .xor .u32 (c / 256) (crcTab (bits .xor .u8 (c % 256) x).toNat)
def crcAll : List UInt8 → Int → Int
  | [], c => c
  | x :: l, c => crcAll l (crcNext c x.toNat)
theorem crcAll_append (l m : List UInt8) (c : Int) : crcAll (l ++ m) c = crcAll m (crcAll l c) := by
  induction l generalizing c with
  | nil => rfl
  | cons x l ih => exact ih _
theorem crcAll_range (l : List UInt8) (c : Int) (h : 0 ≤ c ∧ c < 4294967296) : 0 ≤ crcAll l c ∧ crcAll l c < 4294967296 := by
  induction l generalizing c with
  | nil => exact h
  | cons x l ih => exact ih _ (by unfold crcNext; exact bits_u32 _ _ _)

theorem Met.setC {w : World} {b : Nat} {d c n : Int} (h : Met w b d c n) (c' : Int) : Met (w.setCell ⟨b, 259, none⟩ (.int .u32 c')) b d c' n := by
  obtain ⟨cs, hb, hs, h0, h1, ht, hc, hn⟩ := h
  refine ⟨_, blk_set hb, by simpa using hs, ?_, ?_, fun hd i hi => ?_, ?_, ?_⟩
  · rw [Array.getElem?_setIfInBounds_ne (by omega)]; exact h0
  · rw [Array.getElem?_setIfInBounds_ne (by omega)]; exact h1
  · rw [Array.getElem?_setIfInBounds_ne (by omega)]; exact ht hd i hi
  · rw [Array.getElem?_setIfInBounds_self]; simp [hs]
  · rw [Array.getElem?_setIfInBounds_ne (by omega)]; exact hn
theorem Met.setN {w : World} {b : Nat} {d c n : Int} (h : Met w b d c n) (n' : Int) : Met (w.setCell ⟨b, 260, none⟩ (.int .i64 n')) b d c n' := by
  obtain ⟨cs, hb, hs, h0, h1, ht, hc, hn⟩ := h
  refine ⟨_, blk_set hb, by simpa using hs, ?_, ?_, fun hd i hi => ?_, ?_, ?_⟩
  · rw [Array.getElem?_setIfInBounds_ne (by omega)]; exact h0
  · rw [Array.getElem?_setIfInBounds_ne (by omega)]; exact h1
  · rw [Array.getElem?_setIfInBounds_ne (by omega)]; exact ht hd i hi
  · rw [Array.getElem?_setIfInBounds_ne (by omega)]; exact hc
  · rw [Array.getElem?_setIfInBounds_self]; simp [hs]
theorem Met.cellC {w : World} {b : Nat} {d c n : Int} (h : Met w b d c n) : w.cell? ⟨b, 259, none⟩ = some (.int .u32 c) ∧ w.frozen? ⟨b, 259, none⟩ = false := by
  obtain ⟨cs, hb, hs, h0, h1, ht, hc, hn⟩ := h
  exact ⟨(blk_cells hb _).trans hc, blk_frozen hb _⟩
theorem Met.cellN {w : World} {b : Nat} {d c n : Int} (h : Met w b d c n) : w.cell? ⟨b, 260, none⟩ = some (.int .i64 n) ∧ w.frozen? ⟨b, 260, none⟩ = false := by
  obtain ⟨cs, hb, hs, h0, h1, ht, hc, hn⟩ := h
  exact ⟨(blk_cells hb _).trans hn, blk_frozen hb _⟩

theorem bytesWorld_same (w : World) (e : TypeId) (s : ByteArray) : Same w (Lib.bytesWorld w e s) :=
  ⟨rfl, rfl, rfl, by rw [Lib.bytesWorld_size]; omega, fun k hk _ => Lib.bytesWorld_at_old w e s k hk⟩
set_option maxRecDepth 100000 in
theorem madd_any (b : Nat) (d c n : Int) (s : ByteArray) (hs : s.size ≤ maxLen) (hd : d = 0 ∨ d = 1) (hc : 0 ≤ c ∧ c < 4294967296) (w : World) (hm : Met w b d c n) :
    Calls Try.prog 166 #[.pointer (some ⟨b, 0, none⟩), .string s] w fun e w' => e = .returned (.pointer (some ⟨b, 0, none⟩)) ∧ Only (· = b) w w' ∧ Met w' b 1 (crcAll s.data.toList c) (wrap64 (n + s.size)) := by
  unfold maxLen at hs
  have hmf := @run_makeFunc Try.prog
  have hcv := fun (W : World) => Lib.run_convert_string_bytes (P := Try.prog) W 9 148 5 s Try.underlying9 Try.underlying148 Try.underlying5
  go_enter Try.func166, Try.ntmps166
  go_wp2_with (first | (go_at_call 180; refine (do_any b d c n hd _ hm).mono ?_; rintro e w1 ⟨rfl, hO⟩))
  obtain ⟨hO, hM⟩ := hO
  have hbw := bytesWorld_same w1 5 s
  have hblt : b < w1.heap.size := hM.lt
  go_loopw [16, 6] (fun i _ wr => ∃ k : Nat, k ≤ s.size ∧ i = .int .i64 k ∧ Only (· = b) (Lib.bytesWorld w1 5 s) wr ∧ Met wr b 1 (crcAll (s.data.toList.take k) c) n) (fun i _ _ => s.size - (intOf i).toNat)
  case atStart => exact ⟨0, by omega, rfl, Only.refl _ _, by simpa [crcAll] using hM.only hbw (fun h => h)⟩
  case round =>
    obtain ⟨k, hk, rfl, hO', hM'⟩ := hrel
    by_cases hlt : k < s.size
    · obtain ⟨x, hx⟩ : ∃ x, s.data.toList[k]? = some x := ⟨s.data.toList[k]'(by simpa using hlt), by simp [hlt]⟩
      have hrow : wr.cell? ⟨w1.heap.size, k, none⟩ = some (.int .u8 x.toNat) := by
        rw [hO'.cell (by simp [Lib.bytesWorld_size]) (by simp; omega), Lib.bytesWorld_cell _ _ _ _ hlt]
        simp [List.getD, hx]
      have hr := crcAll_range (s.data.toList.take k) c hc
      have hstep : crcAll (s.data.toList.take (k + 1)) c = crcNext (crcAll (s.data.toList.take k) c) x.toNat := by
        rw [List.take_add_one, hx, crcAll_append]; rfl
      generalize crcAll (s.data.toList.take k) c = c0 at *
      have hM2 := hM'
      obtain ⟨cs, hb, hs', h0, h1, htab, h259, h260⟩ := hM2
      have hx0 := bits_u8 .xor (c0 % 256) x.toNat
      have hcc : wr.cell? ⟨b, 259, none⟩ = some (.int .u32 c0) := (blk_cells hb _).trans h259
      have hfz : wr.frozen? ⟨b, 259, none⟩ = false := blk_frozen hb _
      have htc : wr.cell? ⟨b, 3 + (bits .xor .u8 (c0 % 256) x.toNat).toNat, none⟩ = some (.int .u32 (crcTab (bits .xor .u8 (c0 % 256) x.toNat).toNat)) := (blk_cells hb _).trans (htab rfl _ (by omega))
      have ht0 := crcTab_range (bits .xor .u8 (c0 % 256) x.toNat).toNat (by omega)
      have HST := Lib.hid hstep; have HX := Lib.hid hx
      clear hstep hx htab h0 h1 h259 h260 hs' hb
      go_wp2
      have hw8 := IntKind.wrap_u8 c0
      go_still_tail 21, (by kernel_rfl)
      clear hw8
      change wpList _ _ _ _ _ wr.drew
      have hcc' : wr.drew.cell? ⟨b, 259, none⟩ = some (.int .u32 c0) := hcc
      have hfz' : wr.drew.frozen? ⟨b, 259, none⟩ = false := hfz
      go_wp2
      refine ⟨⟨k + 1, by omega, by go_num, (hO'.setCell (fun _ => rfl) _).drew, ?_⟩, by simp [intOf]; omega⟩
      rw [HST.out]
      exact hM'.setC _
    · have hlen : crcAll (s.data.toList.take k) c = crcAll s.data.toList c := by rw [List.take_of_length_le (by simp; omega)]
      rw [hlen] at hM'
      obtain ⟨hn1, hn2⟩ := hM'.cellN
      have hadd := run_call_add (P := Try.prog) Try.func163 (by kernel_rfl) (by kernel_rfl) (by kernel_rfl) .i64 (by kernel_rfl) (y := s.size) (s := wrap64 (n + s.size)) hn1 hn2 (by simp [go_sem]; exact IntWalk.i64_left _)
      go_wp2
      go_returns
      exact ⟨rfl, ((hO.then hbw).same hO').setCell (fun _ => rfl) _, hM'.setN _⟩

theorem msum_any (b : Nat) (d c n : Int) (w : World) (hm : Met w b d c n) :
    Calls Try.prog 167 #[.pointer (some ⟨b, 0, none⟩)] w fun e w' => e = .returned (.int .u32 (bits .xor .u32 c 4294967295)) ∧ w' = w := by
  obtain ⟨h1, h2⟩ := hm.cellC
  go_enter Try.func167, Try.ntmps167
  go_wp2
  go_ret
  exact ⟨rfl, rfl⟩

end Go.Proofs.Ytjegohibpojneaa
