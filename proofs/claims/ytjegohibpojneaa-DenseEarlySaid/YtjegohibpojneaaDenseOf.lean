import Derived.Test.YtjegohibpojneaaDenseRows
set_option linter.unusedVariables false
set_option linter.unusedSimpArgs false
namespace Go.Proofs.Ytjegohibpojneaa
open Go.RowKit
attribute [local go_sem ↓] Go.wp_at_zero Go.wp_at_succ

/-! rows as the document has them -/
def cellsR (us : Nat → Value) (l : List RowP) (n : Nat) : List Value := (List.range n).flatMap fun i => [.int .i64 (l.getD i (0, [])).1, us i]
theorem cellsR_succ (us : Nat → Value) (l : List RowP) (n : Nat) : cellsR us l (n + 1) = cellsR us l n ++ [.int .i64 (l.getD n (0, [])).1, us n] := by
  unfold cellsR
  rw [List.range_succ, List.flatMap_append]
  simp
theorem cellsR_len (us : Nat → Value) (l : List RowP) : ∀ n, (cellsR us l n).length = n * 2
  | 0 => rfl
  | n + 1 => by rw [cellsR_succ, List.length_append, cellsR_len us l n]; simp; omega
theorem cellsR_at (us : Nat → Value) (l : List RowP) : ∀ n i, i < n → (cellsR us l n)[i * 2]? = some (.int .i64 (l.getD i (0, [])).1) ∧ (cellsR us l n)[i * 2 + 1]? = some (us i)
  | 0, i, h => by omega
  | n + 1, i, h => by
    rw [cellsR_succ]
    have hl := cellsR_len us l n
    by_cases e : i = n
    · subst e
      rw [List.getElem?_append_right (by omega), List.getElem?_append_right (by omega), hl]
      simp
    · rw [List.getElem?_append_left (by omega), List.getElem?_append_left (by omega)]
      exact cellsR_at us l n i (by omega)
theorem own_slr {w : World} {base : Nat} {e : TypeId} {v : Value} {us : Nat → Value} {l : List RowP} (h : w.ownsRow base e 2 v l.length (cellsR us l l.length)) (hu : ∀ i (h : i < l.length), Sl w (.int .i64) (us i) l[i].2) : SlR w v l := by
  rcases h.2 with ⟨rfl, h0⟩ | ⟨g, cap, cur, rfl, _, hg, hnc, hm, _, htake⟩
  · rw [List.eq_nil_of_length_eq_zero h0]
    exact ⟨none, 0, rfl, by simp, by simp, fun _ => rfl, fun h => absurd h (by simp)⟩
  · refine ⟨_, _, rfl, hnc, hm, (by intro h; cases h), fun _ => ⟨g, 0, rfl, fun i hi => ?_⟩⟩
    have h1 := cellsR_at us l l.length i hi
    have e1 := congrArg (fun l => l[i * 2]?) htake
    have e2 := congrArg (fun l => l[i * 2 + 1]?) htake
    simp only [List.getElem?_take, Array.getElem?_toList] at e1 e2
    rw [if_pos (by omega)] at e1 e2
    rw [h1.1] at e1
    rw [h1.2] at e2
    have eg : l.getD i (0, []) = l[i] := by rw [List.getD_eq_getElem?_getD, List.getElem?_eq_getElem hi]; rfl
    rw [eg] at e1
    refine ⟨?_, us i, ?_, hu i hi⟩
    · rw [Nat.zero_add, blk_cells hg]; simpa using e1
    · rw [Nat.zero_add, blk_cells hg]; simpa using e2
theorem SlR.us {w : World} {v : Value} {l : List RowP} (h : SlR w v l) : ∃ us : Nat → Value, ∀ i (h : i < l.length), Sl w (.int .i64) (us i) l[i].2 ∧ ∀ b off n c, v = .slice (some ⟨b, off, none⟩) n c → w.cell? ⟨b, off + i * 2 + 1, none⟩ = some (us i) := by
  obtain ⟨ad, c, rfl, h1, h2, h3, h4⟩ := h
  by_cases h0 : 0 < l.length
  · obtain ⟨b, off, rfl, hc⟩ := h4 h0
    refine ⟨fun i => (w.cell? ⟨b, off + i * 2 + 1, none⟩).getD undef, fun i hi => ?_⟩
    obtain ⟨_, u, e, hs⟩ := hc i hi
    have ee : (w.cell? ⟨b, off + i * 2 + 1, none⟩).getD undef = u := by rw [e]; rfl
    refine ⟨by dsimp only; rw [ee]; exact hs, fun b' off' n' c' he => ?_⟩
    simp only [Value.slice.injEq, Option.some.injEq, Addr.mk.injEq] at he
    obtain ⟨⟨rfl, rfl, _⟩, _, _⟩ := he
    dsimp only
    rw [ee]; exact e
  · exact ⟨fun _ => undef, fun i hi => absurd hi (by omega)⟩
set_option maxRecDepth 100000 in
set_option maxHeartbeats 4000000 in
theorem of_any (v : Value) (l : List RowP) (w : World) (hv : SlR w v l) (hl : l.length ≤ 1000000) :
    Calls Try.prog 76 #[v] w fun e w' => ∃ v', e = .returned v' ∧ Same w w' ∧ SlR w' v' l := by
  obtain ⟨us, hus⟩ := hv.us
  have HU := Lib.hid (show ∀ i (h : i < l.length), Sl w (.int .i64) (us i) l[i].2 from fun i h => (hus i h).1)
  have HV := Lib.hid hv
  obtain ⟨ad, cp, rfl, hcp, hm⟩ := hv.lit
  have HX := Lib.hid (show ∀ i (h : i < l.length), ∀ b off n c, Value.slice ad l.length cp = .slice (some ⟨b, off, none⟩) n c → w.cell? ⟨b, off + i * 2 + 1, none⟩ = some (us i) from fun i h => (hus i h).2)
  unfold maxLen at hm
  clear hv hus
  have hinf : (Try.prog.info? 205).map (fun i => (i.zero, i.size, i.bytes)) = some (some (.agg #[.int .i64 0, .slice none 0 0]), 2, 32) := by kernel_rfl
  have HINF := Lib.hid hinf
  clear hinf
  go_enter Try.func76, Try.ntmps76
  go_wp2_with fail
  go_loopw [3, 4] (fun o i wr => ∃ k : Nat, k ≤ l.length ∧ i = .int .i64 k ∧ Same w wr ∧ wr.ownsRow w.heap.size 205 2 o k (cellsR us l k)) (fun _ i _ => l.length - (intOf i).toNat)
  case atStart => exact ⟨0, by omega, rfl, Only.refl _ _, World.ownsRow_nil _ _ _ _⟩
  case round =>
    obtain ⟨k, hk, rfl, hS, hown⟩ := hrel
    have HOWN := Lib.hid hown
    clear hown
    by_cases hlt : k < l.length
    · have hw6 : IntKind.i64.wrap ((k : Int) + 1) = (k : Int) + 1 := by rw [IntKind.wrap_i64]; omega
      obtain ⟨b1, o1, rfl, hcell⟩ := HV.out.spot (by omega)
      have k1 := hS.cell_eq (hcell k hlt).1 (fun h => h)
      have k2 := hS.cell_eq (HX.out k hlt b1 o1 _ _ rfl) (fun h => h)
      obtain ⟨y, hy⟩ : ∃ y, y = l[k].1 := ⟨_, rfl⟩
      rw [← hy] at k1
      have eg : l.getD k (0, []) = l[k] := by rw [List.getD_eq_getElem?_getD, List.getElem?_eq_getElem hlt]; rfl
      have HCS : Hid (cellsR us l (k + 1) = cellsR us l k ++ [.int .i64 y, us k]) := Lib.hid (by rw [cellsR_succ, eg, hy])
      have hone : (us k).oneCell' = true := by obtain ⟨a, c, e, _⟩ := HU.out k hlt; rw [e]; rfl
      have HONE := Lib.hid hone
      generalize us k = u at *
      have hsz := hS.size
      clear hcell hy eg hone
      go_wp2_with (at_builtin; refine app_one [.int .i64 y, u] rfl (.tmp 11) (.tmp 16) 126 rfl w.heap.size 205 (.agg #[.int .i64 0, .slice none 0 0]) 2 32 Try.underlying126 HINF.out rfl (by decide) _ k _ rfl HOWN.out rfl ?_ rfl (by intro u hu; simp at hu; rcases hu with rfl | rfl; rfl; exact HONE.out) (by unfold maxLen; omega) (by omega) hsz; intro v' w2 hown2 hO2)
      rw [← HCS.out] at hown2
      go_roundw
      case rel => exact ⟨k + 1, by omega, by go_num, hS.trans hO2 (fun i hi h => by have h2 : w.heap.size ≤ i := h; omega), hown2⟩
      case measure => simp [intOf]; omega
    · obtain rfl : k = l.length := by omega
      go_wp2_with fail
      go_ret
      exact ⟨_, rfl, hS, own_slr HOWN.out (fun i h => (HU.out i h).same hS)⟩
end Go.Proofs.Ytjegohibpojneaa
