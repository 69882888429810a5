import Derived.Test.YtjegohibpojneaaOnce
set_option linter.unusedVariables false
set_option linter.unusedSimpArgs false
namespace Go.Proofs.Ytjegohibpojneaa
open Go.RowKit

/-! ### crc: the meter's walk -/
def crcBit (c : Int) : Int := bits .xor .u32 (c / 2) ((3988292384 * bits .and .u32 c 1) % 4294967296)
def crcBits : Nat → Int → Int
  | 0, c => c
  | n + 1, c => crcBit (crcBits n c)
def crcTab (i : Nat) : Int := crcBits 8 i
theorem bits_u32 (o : BinOp) (a b : Int) : 0 ≤ bits o .u32 a b ∧ bits o .u32 a b < 4294967296 := by
  have : ∀ n : Int, 0 ≤ IntKind.u32.wrap n ∧ IntKind.u32.wrap n < 4294967296 := fun n => by rw [IntKind.wrap_u32]; omega
  unfold bits; exact this _
theorem crcBits_range (n : Nat) (c : Int) (h : 0 ≤ c ∧ c < 4294967296) : 0 ≤ crcBits n c ∧ crcBits n c < 4294967296 := by
  cases n with
  | zero => exact h
  | succ n => simp only [crcBits, crcBit]; exact bits_u32 _ _ _
theorem crcTab_range (i : Nat) (h : i < 256) : 0 ≤ crcTab i ∧ crcTab i < 4294967296 := crcBits_range 8 i (by omega)

set_option maxRecDepth 100000 in
theorem ready_any (b : Nat) (cs : Array Value) (w : World) (hs : cs.size = 261) (hb : w.heap[b]? = some (.cells cs 263 (0, 0))) :
    Calls Try.prog 181 #[.pointer (some ⟨b, 0, none⟩)] w fun e w' => e = .returned (.tuple #[]) ∧ Only (· = b) w w' ∧
      ∃ cs', w'.heap[b]? = some (.cells cs' 263 (0, 0)) ∧ cs'.size = 261 ∧ (∀ j, j < 3 ∨ 259 ≤ j → cs'[j]? = cs[j]?) ∧ ∀ i, i < 256 → cs'[3 + i]? = some (.int .u32 (crcTab i)) := by
  go_enter Try.func181, Try.ntmps181
  go_wp2
  go_loopw [4, 2, 3, 9] (fun i _ _ _ wr => ∃ k : Nat, k ≤ 256 ∧ i = .int .i64 k ∧ Only (· = b) w wr ∧ ∃ cs', wr.heap[b]? = some (.cells cs' 263 (0, 0)) ∧ cs'.size = 261 ∧
      (∀ j, j < 3 ∨ 259 ≤ j → cs'[j]? = cs[j]?) ∧ ∀ i, i < k → cs'[3 + i]? = some (.int .u32 (crcTab i))) (fun i _ _ _ _ => 256 - (intOf i).toNat)
  case atStart => exact ⟨0, by omega, rfl, Only.refl _ _, cs, hb, hs, fun _ _ => rfl, fun i hi => by omega⟩
  case round =>
    obtain ⟨k, hk, rfl, hO, cs', hb', hs', hold, hnew⟩ := hrel
    by_cases hlt : k < 256
    · obtain ⟨x, hx⟩ : ∃ x, wr.cell? ⟨b, 3 + k, none⟩ = some x := ⟨cs'[3 + k], by rw [blk_cells hb']; simp⟩
      have hfz : wr.frozen? ⟨b, 3 + k, none⟩ = false := blk_frozen hb' _
      have HO := Lib.hid hold; have HN := Lib.hid hnew; have HS := Lib.hid hs'; have HB := Lib.hid hb'; have HS0 := Lib.hid hs; have HB0 := Lib.hid hb
      clear hold hnew hs' hb' hs hb
      go_wp2
      go_loop [3, 9] (fun c i => ∃ j : Nat, j ≤ 8 ∧ i = .int .i64 j ∧ c = .int .u32 (crcBits j k)) (fun _ i => 8 - (intOf i).toNat)
      case atStart => exact ⟨0, by omega, rfl, rfl⟩
      case round =>
        obtain ⟨j, hj, rfl, rfl⟩ := hrel
        have hlo := crcBits_range j k (by omega)
        by_cases hlt2 : j < 8
        · go_wp2
          go_round
          case rel => exact ⟨j + 1, by omega, by go_num, rfl⟩
          case measure => simp [intOf]; omega
        · obtain rfl : j = 8 := by omega
          go_wp2
          refine ⟨⟨k + 1, by omega, by go_num, hO.setCell (fun _ => rfl) _, cs'.setIfInBounds (3 + k) (.int .u32 (crcTab k)), blk_set HB.out, by simpa using HS.out, ?_, ?_⟩, by simp [intOf]; omega⟩
          · intro j hj
            rw [Array.getElem?_setIfInBounds_ne (by omega)]
            exact HO.out j hj
          · intro i hi
            by_cases e : i = k
            · subst e
              rw [Array.getElem?_setIfInBounds_self]
              have := HS.out
              simp; omega
            · rw [Array.getElem?_setIfInBounds_ne (by omega)]
              exact HN.out i (by omega)
    · go_wp2
      go_end0
      obtain rfl : k = 256 := by omega
      exact ⟨rfl, hO, cs', hb', hs', hold, hnew⟩

/-- A meter at block b: is its table made (d); its register c; how many came (n). -/
def Met (w : World) (b : Nat) (d c n : Int) : Prop :=
  ∃ cs : Array Value, w.heap[b]? = some (.cells cs 263 (0, 0)) ∧ cs.size = 261 ∧ cs[0]? = some (.int .u32 d) ∧ cs[1]? = some (.int .i32 0) ∧
    (d = 1 → ∀ i, i < 256 → cs[3 + i]? = some (.int .u32 (crcTab i))) ∧ cs[259]? = some (.int .u32 c) ∧ cs[260]? = some (.int .i64 n)
theorem Met.only {S : Nat → Prop} {w w' : World} {b : Nat} {d c n : Int} (h : Met w b d c n) (ho : Only S w w') (hS : ¬ S b) : Met w' b d c n := by
  obtain ⟨cs, hb, r⟩ := h
  exact ⟨cs, ho.heap hb hS, r⟩
theorem Met.lt {w : World} {b : Nat} {d c n : Int} (h : Met w b d c n) : b < w.heap.size := by
  obtain ⟨cs, hb, r⟩ := h
  exact heap_lt hb

theorem new_any (w : World) : Calls Try.prog 165 #[] w fun e w' => e = .returned (.pointer (some ⟨w.heap.size, 0, none⟩)) ∧ Same w w' ∧ Met w' w.heap.size 0 4294967295 0 := by
  go_enter Try.func165, Try.ntmps165
  go_wp2
  go_ret
  refine ⟨rfl, (Only.refl _ _).alloc _, _, blk_new _ _, ?_, ?_, ?_, by intro h; exact absurd h (by decide), ?_, ?_⟩
  all_goals first | kernel_rfl

set_option maxRecDepth 100000 in
theorem doSlow_any (b : Nat) (c n : Int) (w : World) (hm : Met w b 0 c n) :
    Calls Try.prog 197 #[.pointer (some ⟨b, 0, none⟩), .func (.func 181) #[.pointer (some ⟨b, 0, none⟩)] #[]] w fun e w' => e = .returned (.tuple #[]) ∧ Only (· = b) w w' ∧ Met w' b 1 c n := by
  obtain ⟨cs, hb, hs, h0, h1, _, h259, h260⟩ := hm
  have c0 : w.cell? ⟨b, 0, none⟩ = some (.int .u32 0) := (blk_cells hb 0).trans h0
  have c1 : w.cell? ⟨b, 1, none⟩ = some (.int .i32 0) := (blk_cells hb 1).trans h1
  have f1 : w.frozen? ⟨b, 1, none⟩ = false := blk_frozen hb 1
  have hl := run_call_load (P := Try.prog) Try.func203 (by kernel_rfl) (by kernel_rfl) (by kernel_rfl) .u32 (by kernel_rfl) (w := w.setCell ⟨b, 1, none⟩ (.int .i32 1)) (a := ⟨b, 0, none⟩) (x := 0) ((World.cell?_setCell_other _ ⟨b, 1, none⟩ ⟨b, 0, none⟩ _ (by simp)).trans c0)
  have hnot := @run_not Try.prog
  have hb1 := blk_set (j := 1) (v := .int .i32 1) hb
  have HB := Lib.hid hb1; have HS := Lib.hid hs; have HB0 := Lib.hid hb; have H0 := Lib.hid h0; have H1 := Lib.hid h1; have H2 := Lib.hid h259; have H3 := Lib.hid h260
  clear hb1 hs hb h0 h1 h259 h260
  go_enter_defers Try.func197, Try.ntmps197
  go_wp2_with (first | (go_at_call 204; refine (lock_free ⟨b, 1, none⟩ _ (by go_simp) (by go_simp)).mono ?_; rintro e w' ⟨rfl, rfl⟩) | (go_at_call 181; refine (ready_any b _ _ (by simpa using HS.out) HB.out).mono ?_; rintro e w1 ⟨rfl, hO⟩) | (go_at_call 196; go_in))
  obtain ⟨hO, cs', hb', hs', hold, hnew⟩ := hO
  refine leaves_cons (f := 206) (args := #[.pointer (some ⟨b, 0, none⟩), .bool true]) (by simp) (by simp [go_sem]) ?_
  refine (store_deferred ⟨b, 0, none⟩ (.int .u32 0) .returning _ ?_ (blk_frozen hb' _)).mono ?_
  · rw [blk_cells hb', hold 0 (by omega)]; simpa using H0.out
  rintro e u' w'' ⟨rfl, rfl, rfl⟩
  refine leaves_cons (f := 205) (args := #[.pointer (some ⟨b, 1, none⟩)]) (by simp [settle]) (by simp [go_sem]) ?_
  have hb2 : (w1.drew.setCell ⟨b, 0, none⟩ (.int .u32 1)).heap[b]? = some (.cells (cs'.setIfInBounds 0 (.int .u32 1)) 263 (0, 0)) := blk_set (w := w1.drew) hb'
  have h1' : cs'[1]? = some (.int .i32 1) := by rw [hold 1 (by omega), Array.getElem?_setIfInBounds_self]; have := HS.out; simp; omega
  refine (unlock_deferred ⟨b, 1, none⟩ _ _ ?_ (blk_frozen hb2 _)).mono ?_
  · rw [blk_cells hb2, Array.getElem?_setIfInBounds_ne (by omega)]; exact h1'
  rintro e u' w'' ⟨rfl, rfl, rfl⟩
  have hO' : Only (· = b) w ((w1.drew.setCell ⟨b, 0, none⟩ (.int .u32 1)).setCell ⟨b, 1, none⟩ (.int .i32 0)) :=
    (((((Only.refl (· = b) w).setCell (p := ⟨b, 1, none⟩) (fun _ => rfl) _).same hO).drew).setCell (p := ⟨b, 0, none⟩) (fun _ => rfl) _).setCell (p := ⟨b, 1, none⟩) (fun _ => rfl) _
  have hM : Met ((w1.drew.setCell ⟨b, 0, none⟩ (.int .u32 1)).setCell ⟨b, 1, none⟩ (.int .i32 0)) b 1 c n := by
    refine ⟨_, blk_set hb2, by simpa using hs', ?_, ?_, fun _ i hi => ?_, ?_, ?_⟩
    · rw [Array.getElem?_setIfInBounds_ne (by omega), Array.getElem?_setIfInBounds_self]; simp [hs']
    · rw [Array.getElem?_setIfInBounds_self]; simp [hs']
    · rw [Array.getElem?_setIfInBounds_ne (by omega), Array.getElem?_setIfInBounds_ne (by omega)]; exact hnew i hi
    · rw [Array.getElem?_setIfInBounds_ne (by omega), Array.getElem?_setIfInBounds_ne (by omega), hold _ (by omega), Array.getElem?_setIfInBounds_ne (by omega)]; exact H2.out
    · rw [Array.getElem?_setIfInBounds_ne (by omega), Array.getElem?_setIfInBounds_ne (by omega), hold _ (by omega), Array.getElem?_setIfInBounds_ne (by omega)]; exact H3.out
  generalize (w1.drew.setCell ⟨b, 0, none⟩ (.int .u32 1)).setCell ⟨b, 1, none⟩ (.int .i32 0) = W at *
  simp [Leaves, settle, results, Try.results197]
  exact ⟨hO', hM⟩

theorem do_any (b : Nat) (d c n : Int) (hd : d = 0 ∨ d = 1) (w : World) (hm : Met w b d c n) :
    Calls Try.prog 180 #[.pointer (some ⟨b, 0, none⟩), .func (.func 181) #[.pointer (some ⟨b, 0, none⟩)] #[]] w fun e w' => e = .returned (.tuple #[]) ∧ Only (· = b) w w' ∧ Met w' b 1 c n := by
  have hnot := @run_not Try.prog
  have hm' := hm
  obtain ⟨cs, hb, hs, h0, _⟩ := hm'
  have c0 : w.cell? ⟨b, 0, none⟩ = some (.int .u32 d) := (blk_cells hb 0).trans h0
  have hl := run_call_load (P := Try.prog) Try.func203 (by kernel_rfl) (by kernel_rfl) (by kernel_rfl) .u32 (by kernel_rfl) c0
  clear hb hs h0 c0
  rcases hd with rfl | rfl
  · go_enter Try.func180, Try.ntmps180
    go_wp2_with (first | (go_at_call 197; refine (doSlow_any b c n _ hm).mono ?_; rintro e w' ⟨rfl, hO⟩) | (go_at_call 196; go_in))
    go_returns
    exact ⟨rfl, hO⟩
  · go_enter Try.func180, Try.ntmps180
    go_wp2
    go_returns
    exact ⟨rfl, Only.refl _ _, hm⟩
end Go.Proofs.Ytjegohibpojneaa
