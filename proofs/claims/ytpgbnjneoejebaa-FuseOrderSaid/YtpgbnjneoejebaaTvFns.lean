import Derived.Test.YtpgbnjneoejebaaTvLib
set_option linter.unusedVariables false
set_option linter.unusedSimpArgs false
namespace Go.Proofs.Ytpgbnjneoejebaa
open Go.RowKit
attribute [local go_sem ↓] Go.wp_at_zero Go.wp_at_succ

theorem vbetter_any (a b : VP) (w : World) : Calls Try.prog 14 #[vpV a, vpV b] w fun e w' => e = .returned (.bool (Bet.bet a b)) ∧ Same w w' := by
  have hbp : Bet.bet a b = (decide (b.2.1 < a.2.1) || (decide (a.2.1 = b.2.1) && decide (a.1 < b.1))) := rfl
  rw [hbp]
  obtain ⟨r, hr0⟩ : ∃ r, r = (decide (b.2.1 < a.2.1) || (decide (a.2.1 = b.2.1) && decide (a.1 < b.1))) := ⟨_, rfl⟩
  rw [← hr0]
  have HR := Lib.hid hr0
  clear hr0
  have cc := fun w0 => compareQ_any a.2.1 b.2.1 w0 a.2.2 b.2.2
  unfold ratQ rat at cc
  have hS : Same w ((w.alloc (.cells (vblk a) 35)).alloc (.cells (vblk b) 35)) := ((Only.refl _ w).alloc _).alloc _
  have hA := blk_old (.cells (vblk b) 35) (blk_new w (.cells (vblk a) 35))
  have hB := blk_new1 w (.cells (vblk a) 35) (.cells (vblk b) 35)
  change ∀ w0, Calls Try.prog 38 #[.agg #[.int .i64 (vb a), .int .i64 (vc a)], .agg #[.int .i64 (vb b), .int .i64 (vc b)]] w0 _ at cc
  have CC := Lib.hid cc
  unfold vpV
  clear cc hbp
  go_enter Try.func14, Try.ntmps14
  go_upto_region 1 with fail
  generalize (w.alloc (.cells (vblk a) 35)).alloc (.cells (vblk b) 35) = W at *
  obtain ⟨⟨p0, p1, p2⟩, _⟩ := three_facts hA
  obtain ⟨⟨q0, q1, q2⟩, _⟩ := three_facts hB
  clear hA hB
  go_upto_region 2 with (go_at_call 38; refine (CC.out _).mono ?_; rintro e w2 ⟨rfl, hS2⟩)
  have p0 := hS2.cell_eq p0 (fun h => h)
  have q0 := hS2.cell_eq q0 (fun h => h)
  have HS := Lib.hid (hS.then hS2)
  clear p1 p2 q1 q2 hS hS2 CC
  have hq : cmpQ a.2.1 b.2.1 = -1 ∧ a.2.1 < b.2.1 ∨ cmpQ a.2.1 b.2.1 = 0 ∧ a.2.1 = b.2.1 ∨ cmpQ a.2.1 b.2.1 = 1 ∧ b.2.1 < a.2.1 := by
    unfold cmpQ
    rcases q_tri a.2.1 b.2.1 with h | h | h
    · rw [if_pos h]; exact .inl ⟨rfl, h⟩
    · rw [if_neg (by rw [h]; exact Rat.lt_irrefl), if_pos h]; exact .inr (.inl ⟨rfl, h⟩)
    · rw [if_neg (fun h2 => Rat.lt_irrefl (q_lt_trans h h2)), if_neg (fun h2 => by rw [h2] at h; exact Rat.lt_irrefl h)]; exact .inr (.inr ⟨rfl, h⟩)
  rcases hq with ⟨hq, hr⟩ | ⟨hq, hr⟩ | ⟨hq, hr⟩
  · have HRR : Hid (r = false) := Lib.hid (by rw [HR.out, decide_eq_false (fun h2 => Rat.lt_irrefl (q_lt_trans hr h2)), decide_eq_false (p := a.2.1 = b.2.1) (fun h2 => by rw [h2] at hr; exact Rat.lt_irrefl hr)]; rfl)
    rw [hq]
    clear hq hr HR
    go_wp2_with fail
    go_ret
    exact ⟨by rw [HRR.out]; rfl, HS.out⟩
  · have HRR : Hid (r = decide (a.1 < b.1)) := Lib.hid (by rw [HR.out, decide_eq_false (by rw [hr]; exact Rat.lt_irrefl), decide_eq_true hr]; rfl)
    rw [hq]
    clear hq hr HR
    go_wp2_with fail
    go_ret
    exact ⟨by rw [HRR.out]; rfl, HS.out⟩
  · have HRR : Hid (r = true) := Lib.hid (by rw [HR.out, decide_eq_true hr]; rfl)
    rw [hq]
    clear hq hr HR
    go_wp2_with fail
    go_ret
    exact ⟨by rw [HRR.out]; rfl, HS.out⟩
/-- A bound of k that keeps h (a heap's row). -/
def TvAt (w : World) (b k : Nat) (h : List VP) : Prop := ∃ v, w.heap[b]? = some (.cells #[.int .i64 k, v, .func (.func 14) #[] #[]] 173 (0, 0)) ∧ w.ownsRow (b + 1) 35 3 v h.length (cells3 h)
theorem TvAt.same {w w' : World} {b k : Nat} {h : List VP} (ht : TvAt w b k h) (hS : Same w w') : TvAt w' b k h := by
  obtain ⟨v, h1, h2⟩ := ht
  exact ⟨v, hS.heap h1 (fun h => h), own_same h2 hS⟩
theorem tvnew_any (k : Int) (w : World) (hk : -9223372036854775808 ≤ k ∧ k ≤ 9223372036854775807) : Calls Try.prog 65 #[.int .i64 k, .func (.func 14) #[] #[]] w fun e w' => e = .returned (.pointer (some ⟨w.heap.size, 0, none⟩)) ∧ Same w w' ∧ TvAt w' w.heap.size k.toNat [] := by
  have hfin : ∀ m : Int, m = (k.toNat : Int) → Same w (w.alloc (.cells #[.int .i64 m, .slice none 0 0, .func (.func 14) #[] #[]] 173)) ∧ TvAt (w.alloc (.cells #[.int .i64 m, .slice none 0 0, .func (.func 14) #[] #[]] 173)) w.heap.size k.toNat [] := by
    rintro m rfl
    exact ⟨(Only.refl _ w).alloc _, _, blk_new _ _, World.ownsRow_nil _ _ _ _⟩
  by_cases h0 : k < 0
  · go_enter Try.func65, Try.ntmps65
    go_wp2_with fail
    go_ret
    exact ⟨rfl, hfin _ (by omega)⟩
  · go_enter Try.func65, Try.ntmps65
    go_wp2_with fail
    go_ret
    exact ⟨rfl, hfin _ (by omega)⟩
/-- A row of documents with their values in a block of its own. -/
def RowV (w : World) (g cap : Nat) (h : List VP) : Prop := ∃ cs : Array Value, w.heap[g]? = some (.cells cs 35 (0, 0)) ∧ h.length ≤ cap ∧ cap ≤ maxLen ∧ cs.size = cap * 3 ∧ cs.toList.take (h.length * 3) = cells3 h
theorem RowV.cell {w : World} {g cap : Nat} {h : List VP} (hr : RowV w g cap h) (i : Nat) (hi : i < h.length) : w.cell? ⟨g, i * 3, none⟩ = some (.int .i64 (hpG h i).1) ∧ w.cell? ⟨g, i * 3 + 1, none⟩ = some (.int .i64 (vb (hpG h i))) ∧ w.cell? ⟨g, i * 3 + 2, none⟩ = some (.int .i64 (vc (hpG h i))) := by
  obtain ⟨cs, h1, h2, h3, h4, h5⟩ := hr
  obtain ⟨c1, c2, c3⟩ := cells3_at h i hi
  rw [hpG_eq h i hi]
  rw [← h5, List.getElem?_take_of_lt (by omega)] at c1 c2 c3
  rw [blk_cells h1, blk_cells h1, blk_cells h1]
  exact ⟨by simpa using c1, by simpa using c2, by simpa using c3⟩
theorem RowV.set {w : World} {g cap : Nat} {h : List VP} (hr : RowV w g cap h) (i : Nat) (x : VP) (hi : i < h.length) : RowV (((w.setCell ⟨g, i * 3, none⟩ (.int .i64 x.1)).setCell ⟨g, i * 3 + 1, none⟩ (.int .i64 (vb x))).setCell ⟨g, i * 3 + 2, none⟩ (.int .i64 (vc x))) g cap (h.set i x) := by
  obtain ⟨cs, h1, h2, h3, h4, h5⟩ := hr
  refine ⟨_, blk_set (j := i * 3 + 2) (blk_set (j := i * 3 + 1) (blk_set (j := i * 3) h1)), by simpa using h2, h3, by simpa using h4, ?_⟩
  rw [List.length_set, cells3_set, ← h5]
  simp [List.take_set]
end Go.Proofs.Ytpgbnjneoejebaa
