import Derived.Test.YtpgbnjneoejebaaNum
import Derived.Lib.BitFns
import Derived.Lib.ItoaNum
import Derived.Shelf.Strconv.Itoa0
set_option linter.unusedVariables false
set_option linter.unusedSimpArgs false
namespace Go.Proofs.Ytpgbnjneoejebaa
open Go.RowKit

/-- A part of a word, its table's entry and its length. -/
theorem len_part (x : Int) (k : Nat) (q : Int) (h0 : 0 ≤ x) (h1 : x ≤ 18446744073709551615) (hk : 2 ^ k ≤ x.toNat) (hq : q = x / 2 ^ k) (hq0 : q ≤ 255) : (Lib.bitLen x.toNat : Int) = (k : Int) + (Lib.bitLen q.toNat : Int) := by
  have hx : x.toNat < 2 ^ 64 := by omega
  have e : q.toNat = x.toNat / 2 ^ k := by
    rw [hq]
    obtain ⟨n, rfl⟩ := Int.eq_ofNat_of_zero_le h0
    have : ((n : Int) / 2 ^ k) = ((n / 2 ^ k : Nat) : Int) := by simp
    rw [this, Int.toNat_natCast, Int.toNat_natCast]
  rw [e, Lib.bitLen_shift k x.toNat hk hx]
  omega
theorem tab8 (q : Int) (h0 : 0 ≤ q) (h1 : q ≤ 255) (h : q.toNat < Lib.len8tab.size) : ((Lib.len8tab[q.toNat]'h).toNat : Int) = (Lib.bitLen q.toNat : Int) := by
  have e := Lib.len8_of q h0 h1
  unfold Lib.len8 at e
  rw [getElem?_pos Lib.len8tab q.toNat h] at e
  simpa using e
theorem leaf8 (c : Int) (x q : Int) (h0 : 0 ≤ q) (h1 : q ≤ 255) (h : q.toNat < Lib.len8tab.size) (hc : 0 ≤ c ∧ c ≤ 56) (hx : (Lib.bitLen x.toNat : Int) = c + (Lib.bitLen q.toNat : Int)) :
    wrap64 (c + wrap64 ((Lib.len8tab[q.toNat]'h).toNat : Int)) = (Lib.bitLen x.toNat : Int) := by
  rw [tab8 q h0 h1 h, hx]
  have := Lib.bitLen_le8' q h0 h1
  unfold wrap64; omega
theorem leaf80 (x q : Int) (h0 : 0 ≤ q) (h1 : q ≤ 255) (h : q.toNat < Lib.len8tab.size) (hx : (Lib.bitLen x.toNat : Int) = (Lib.bitLen q.toNat : Int)) :
    wrap64 (wrap64 ((Lib.len8tab[q.toNat]'h).toNat : Int)) = (Lib.bitLen x.toNat : Int) := by
  rw [tab8 q h0 h1 h, hx]
  have := Lib.bitLen_le8' q h0 h1
  unfold wrap64; omega
set_option maxHeartbeats 1000000 in
set_option maxRecDepth 100000 in
theorem len64_any (x : Int) (w : World) (h0 : 0 ≤ x) (h1 : x ≤ 18446744073709551615) :
    Calls Try.prog 131 #[.int .u64 x] w fun e w' => e = .returned (.int .i64 (Lib.bitLen x.toNat)) ∧ w' = w := by
  have hsz := Lib.len8tab_size
  go_enter Try.func131, Try.ntmps131
  go_wp2
  all_goals go_ret
  all_goals refine ⟨congrArg Ending.returned (congrArg (Value.int IntKind.i64) ?_), rfl⟩
  · exact leaf8 56 x _ (by omega) (by omega) _ (by omega) (len_part x 56 _ h0 h1 (by omega) (by omega) (by omega))
  · exact leaf8 48 x _ (by omega) (by omega) _ (by omega) (len_part x 48 _ h0 h1 (by omega) (by omega) (by omega))
  · exact leaf8 40 x _ (by omega) (by omega) _ (by omega) (len_part x 40 _ h0 h1 (by omega) (by omega) (by omega))
  · exact leaf8 32 x _ (by omega) (by omega) _ (by omega) (len_part x 32 _ h0 h1 (by omega) (by omega) (by omega))
  · exact leaf8 24 x _ (by omega) (by omega) _ (by omega) (len_part x 24 _ h0 h1 (by omega) (by omega) (by omega))
  · exact leaf8 16 x _ (by omega) (by omega) _ (by omega) (len_part x 16 _ h0 h1 (by omega) (by omega) (by omega))
  · exact leaf8 8 x _ (by omega) (by omega) _ (by omega) (len_part x 8 _ h0 h1 (by omega) (by omega) (by omega))
  · exact leaf80 x _ (by omega) (by omega) _ rfl
theorem bitLen_bounds (y : Nat) (h0 : 0 < y) (h1 : y < 18446744073709551616) : 1 ≤ Lib.bitLen y ∧ Lib.bitLen y ≤ 64 ∧ 2 ^ (Lib.bitLen y - 1) ≤ y ∧ y < 2 ^ Lib.bitLen y := by
  have h := Lib.bitLenAux_bounds 64 y h1 (by omega)
  have h2 := Lib.bitLen_le y 64 (by omega) h1
  exact ⟨h.1, h2, h.2.1, h.2.2⟩
theorem lz64_any (y : Nat) (w : World) (h1 : y < 18446744073709551616) :
    Calls Try.prog 132 #[.int .u64 y] w fun e w' => e = .returned (.int .i64 ((64 - Lib.bitLen y : Nat) : Int)) ∧ w' = w := by
  have c := len64_any (y : Int) w (by omega) (by omega)
  rw [Int.toNat_natCast] at c
  have h2 := Lib.bitLen_le y 64 (by omega) h1
  have e : ((64 - Lib.bitLen y : Nat) : Int) = 64 - (Lib.bitLen y : Int) := by omega
  rw [e]
  generalize Lib.bitLen y = b at *
  have C := Lib.hid c
  clear c e
  go_enter Try.func132, Try.ntmps132
  go_wp2_with (go_at_call 131; refine C.out.mono ?_; rintro e w2 ⟨rfl, rfl⟩)
  go_ret
  exact ⟨rfl, rfl⟩
end Go.Proofs.Ytpgbnjneoejebaa
