import Derived.Test.YtjegohibpojneaaVdSpec
import Derived.Laws.Closers25
set_option linter.unusedVariables false
set_option linter.unusedSimpArgs false
namespace Go.Proofs.Ytjegohibpojneaa
open Go.RowKit
attribute [local go_sem ↓] Go.wp_at_zero Go.wp_at_succ

theorem sum_le {α : Type} (f : α → Nat) (left : Lit → Bool) : ∀ F : EnS α, sumS f left F ≤ (F.map fun p => f p.2).sum
  | [] => Nat.le_refl _
  | p :: r => by
    have := sum_le f left r
    unfold sumS at this ⊢
    rw [List.map_cons, List.sum_cons, List.map_cons, List.sum_cons]
    split <;> omega
set_option maxRecDepth 100000 in
set_option maxHeartbeats 4000000 in
theorem used_any (b mb : Nat) (d : Dk) (w : World) (h : DkW w b mb d) (hu : usedP d.F ≤ 1099511627776) :
    Calls Try.prog 114 #[.pointer (some ⟨b, 0, none⟩)] w fun e w' => e = .returned (.int .i64 (usedP d.F)) ∧ Same w w' := by
  have HM := Lib.hid h.2
  have p1 : w.cell? ⟨b, 1, none⟩ = some (.map (some mb)) := blk_cells h.1 1
  have hso := h.2.sort Try.underlying9
  have HSO := Lib.hid hso
  have HU := Lib.hid hu
  clear h hso hu
  go_enter Try.func114, Try.ntmps114
  go_wp2_with (at_range; refine mps_range fileV _ rfl (.tmp 9) 186 rfl 9 190 Try.underlying9 Try.underlying186 mb d.F rfl HM.out ?_; intro w1 left hl hr hS hsz)
  clear p1
  go_frame
  go_loopw [3] (fun n wr => ∃ left cnt, wr.ranges Try.prog 9 mS mb w.heap.size d.F.length (.map (d.F.map (encE fileV))) left cnt ∧ n = .int .i64 (sumS (fun f : FileP => f.1.size) left d.F : Nat) ∧ Same w wr) (fun _ wr => wr.rangeLeft mb w.heap.size)
  case atStart => exact ⟨left, _, hr, by rw [sum_start _ _ _ hl]; rfl, hS⟩
  case round =>
    obtain ⟨left2, cnt2, hr2, rfl, hS2⟩ := hrel
    obtain ⟨w3, hw3⟩ : ∃ x, x = wr := ⟨_, rfl⟩
    subst hw3
    have HR2 := Lib.hid hr2; have HS2 := Lib.hid hS2
    clear hr2 hS2
    go_wp2_with (at_next; refine mps_next fileV _ rfl (.tmp 10) rfl 9 Try.underlying9 mb w.heap.size d.F left2 cnt2 rfl HR2.out ?_ ?_)
    · intro hl0
      go_wp2_with fail
      go_ret
      exact ⟨by rw [sum_end _ _ _ hl0]; rfl, HS2.out⟩
    · intro s c n w4 cnt4 hs4 hlk hgs hr4 hlt4 hO4 hsz4 hen4
      have hst := sum_step (fun f : FileP => f.1.size) left2 s.data.toList (c, n) d.F HSO.out (has_getS hgs) hlk
      have hle := sum_le (fun f : FileP => f.1.size) (fun z => left2 z && !z.sameKey (.string s.data.toList)) d.F
      have hub : (d.F.map fun p => p.2.1.size).sum ≤ 1099511627776 := HU.out
      simp only at hst hle
      have hw6 : IntKind.i64.wrap (((sumS (fun f : FileP => f.1.size) left2 d.F : Nat) : Int) + (c.size : Int)) = ((sumS (fun f : FileP => f.1.size) left2 d.F : Nat) : Int) + (c.size : Int) := by rw [IntKind.wrap_i64]; omega
      have hms := hr4.left_eq
      have hms3 := HR2.out.left_eq
      have hSa : Only (· = w.heap.size) w3 (w4.alloc (.cells #[.string c, .int .i64 n] 190)) := hO4.alloc _
      have hra := hr4.alloc (.cells #[.string c, .int .i64 n] 190)
      have HS4 : Hid (Same w (w4.alloc (.cells #[.string c, .int .i64 n] 190))) := Lib.hid (HS2.out.trans hSa (fun i hi h => by omega))
      have HRA := Lib.hid hra; have HST := Lib.hid hst; have HMS := Lib.hid (And.intro hms hms3); have HLT := Lib.hid hlt4
      obtain ⟨p0, p1, _, _⟩ := two_facts (blk_new w4 (.cells #[.string c, .int .i64 n] 190))
      clear hst hle hub hms hms3 hSa hra hr4 hlt4 hgs hlk hO4 hr hl hS hsz p1 hsz4
      dsimp only [fileV] at hen4 ⊢
      go_upto_region 5 with fail
      generalize w4.alloc (.cells #[.string c, .int .i64 n] 190) = w5 at *
      go_wp2_with fail
      go_roundw
      case rel => exact ⟨_, cnt4, HRA.out, by rw [HST.out]; go_num, HS4.out⟩
      case measure => rw [HRA.out.left_eq, HMS.out.2]; exact HLT.out
end Go.Proofs.Ytjegohibpojneaa
