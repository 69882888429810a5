import Derived.Test.YtjegohibpojneaaVdThere
set_option linter.unusedVariables false
set_option linter.unusedSimpArgs false
namespace Go.Proofs.Ytjegohibpojneaa
open Go.RowKit Go.Sort
attribute [local go_sem ↓] Go.wp_at_zero Go.wp_at_succ

/-! List: the names, rising -/
theorem bb_lt : ∀ a b : List UInt8, bytesBefore a b = true → a < b
  | [], [], h => by simp [bytesBefore] at h
  | [], b :: s, _ => List.nil_lt_cons b s
  | a :: r, [], h => by simp [bytesBefore] at h
  | a :: r, b :: s, h => by
    simp only [bytesBefore, Bool.or_eq_true, Bool.and_eq_true, decide_eq_true_eq, beq_iff_eq] at h
    rw [List.cons_lt_cons_iff]
    rcases h with h | ⟨h1, h2⟩
    · exact .inl h
    · exact .inr ⟨h1, bb_lt r s h2⟩
theorem perm_uniq {α : Type} {R : α → α → Prop} (anti : ∀ a b, R a b → R b a → a = b) : ∀ (a b : List α), a.Perm b → a.Pairwise R → b.Pairwise R → a = b
  | [], b, h, _, _ => (List.Perm.nil_eq h)
  | x :: a, [], h, _, _ => by have := h.length_eq; simp at this
  | x :: a, y :: b, h, ha, hb => by
    obtain ⟨a1, a2⟩ := List.pairwise_cons.1 ha
    obtain ⟨b1, b2⟩ := List.pairwise_cons.1 hb
    obtain rfl : x = y := by
      rcases List.mem_cons.1 (h.mem_iff.1 (List.mem_cons_self)) with h1 | h1
      · exact h1
      · rcases List.mem_cons.1 (h.mem_iff.2 (List.mem_cons_self)) with h2 | h2
        · exact h2.symm
        · exact anti _ _ (a1 y h2) (b1 x h1)
    rw [perm_uniq anti a b ((List.perm_cons x).1 h) a2 b2]
theorem keys_sorted {α : Type} {F : EnS α} (hs : SortS F) {ss : List (List UInt8)} (hp : ss.Perm (F.map (·.1))) : ss.mergeSort (fun x y => decide (x ≤ y)) = F.map (·.1) := by
  refine perm_uniq (R := fun a b => decide (a ≤ b) = true) (fun a b h1 h2 => ?_) _ _ ((List.mergeSort_perm ss _).trans hp) ?_ ?_
  · simp only [decide_eq_true_eq] at h1 h2
    exact List.le_antisymm h1 h2
  · refine List.pairwise_mergeSort (fun a b c h1 h2 => ?_) (fun a b => ?_) ss
    · simp only [decide_eq_true_eq] at h1 h2 ⊢
      exact List.le_trans h1 h2
    · simp only [Bool.or_eq_true, decide_eq_true_eq]
      exact List.le_total a b
  · rw [List.pairwise_map]
    refine List.Pairwise.imp (fun {p q} h => ?_) hs
    simp only [decide_eq_true_eq]
    exact List.le_of_lt (bb_lt _ _ h)
def namesB {α : Type} (F : EnS α) : List ByteArray := F.map fun p => ⟨p.1.toArray⟩
set_option maxRecDepth 100000 in
set_option maxHeartbeats 1000000 in
theorem vlist_any (b mb : Nat) (d : Dk) (w : World) (h : DkW w b mb d) (hl : d.F.length ≤ 1000000) :
    Calls Try.prog 64 #[.pointer (some ⟨b, 0, none⟩)] w fun e w' => ∃ v', e = .returned v' ∧ Same w w' ∧ w'.ownsRow w.heap.size 9 1 v' (namesB d.F).length ((namesB d.F).map .string) := by
  have p1 : w.cell? ⟨b, 1, none⟩ = some (.map (some mb)) := blk_cells h.1 1
  have hso := h.2.sort Try.underlying9
  have cs := callsIn_wide.1 (vsorted0 mb d.F.length _ mS w h.2 (by rw [Maps.size_eq, List.length_map]; unfold maxLen; omega) (by rw [Maps.size_eq, List.length_map]; omega))
  have CS := Lib.hid cs; have HSO := Lib.hid hso
  have hS : Same w (w.alloc (.cells #[.map (some mb)] 186)) := (Only.refl _ w).alloc _
  have HS := Lib.hid hS
  clear h cs hso hS
  go_enter Try.func64, Try.ntmps64
  go_wp2_with fail
  refine (vkeys_any (some mb) w).mono ?_
  rintro e w1 ⟨rfl, rfl⟩
  go_wp2_with fail
  refine CS.out.mono ?_
  rintro e w2 ⟨v, ss, rfl, hp, hrow, _, hb⟩
  have hks : strKeys (DataW.map (d.F.map (encE fileV))) = d.F.map (·.1) := by
    show (d.F.map (encE fileV)).map (fun p => strOf p.1) = _
    rw [List.map_map]
    rfl
  rw [hks] at hp
  rw [keys_sorted HSO.out hp] at hrow
  have hrow2 : w2.ownsRow (w.alloc (.cells #[.map (some mb)] 186)).heap.size 9 1 v ss.length ((namesB d.F).map .string) := by
    have e : (namesB d.F).map Value.string = (d.F.map (·.1)).map encStr := by unfold namesB; rw [List.map_map, List.map_map]; rfl
    rw [e]; exact hrow
  have hln : ss.length = (namesB d.F).length := by have := hp.length_eq; rw [List.length_map] at this; unfold namesB; rw [List.length_map]; exact this
  rw [hln] at hrow2
  have HSL : Hid (w2.ownsRow w.heap.size 9 1 v (namesB d.F).length ((namesB d.F).map .string)) := Lib.hid (own_lo hrow2 (by simp))
  have HS2 := Lib.hid (HS.out.then (Only.ofBelow hb))
  clear hp hrow hrow2 hb hks CS HS
  go_wp2_with fail
  go_ret
  exact ⟨_, rfl, HS2.out, HSL.out⟩
end Go.Proofs.Ytjegohibpojneaa
