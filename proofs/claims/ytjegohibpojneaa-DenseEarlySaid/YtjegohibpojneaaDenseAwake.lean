import Derived.Test.YtjegohibpojneaaDenseFindR
import Derived.Test.YtjegohibpojneaaDenseMP
set_option linter.unusedVariables false
set_option linter.unusedSimpArgs false
namespace Go.Proofs.Ytjegohibpojneaa
open Go.RowKit
attribute [local go_sem ↓] Go.wp_at_zero Go.wp_at_succ

theorem vfind_any (m k : Int) (vq vr vn : Value) (q : List Int) (l : List RowP) (no : List Int) (w : World)
    (hq : Sl w (.int .i64) vq q) (hr : SlR w vr l) (hn : Sl w (.int .i64) vn no) (hlq : ∀ x ∈ q, i64b x) (hlr : ∀ r ∈ l, i64b r.1 ∧ ∀ x ∈ r.2, i64b x) (hl : l.length ≤ 1000) :
    Calls Try.prog 75 #[.int .i64 m, vq, vr, .int .i64 k, vn] w (VFindR m q l k no w) := by
  by_cases h1 : m < 0 ∨ 1 < m ∨ k < 1 ∨ 1000 < k
  · exact vfind_bad m k vq vr vn q l no w hq hlq (by rcases h1 with h | h | h | h; exact .inl h; exact .inr (.inl h); exact .inr (.inr (.inl h)); exact .inr (.inr (.inr (.inl h))))
  cases h2 : vecB q with
  | false => exact vfind_bad m k vq vr vn q l no w hq hlq (.inr (.inr (.inr (.inr h2))))
  | true => exact vfind_good m k vq vr vn q l no w hq hr hn hlq hlr (by omega) (by omega) h2 hl
theorem enters_aw (args : Array Value) (w : World) : (callFunc 124 args).run Try.prog w = .ok (.enter 124 args) w := by kernel_rfl
theorem enters_but (args : Array Value) (w : World) : (callFunc 126 args).run Try.prog w = .ok (.enter 126 args) w := by kernel_rfl
theorem aw1_any (x : Int) (w : World) : Calls Try.prog 124 (#[.int .i64 x] ++ #[]) w fun e w' => e = .returned (.bool true) ∧ Same w w' := by
  show Calls Try.prog 124 #[.int .i64 x] w _
  go_enter Try.func124, Try.ntmps124
  go_wp2_with fail
  go_ret
  exact ⟨rfl, Only.refl _ _⟩
theorem blk_sl {w : World} {b : Nat} {cs : Array Value} {t : TypeId} {l : List Int} (h : w.heap[b]? = some (.cells cs t (0, 0))) (hc : cs.toList = l.map (.int .i64)) (hm : l.length ≤ maxLen) : Sl w (.int .i64) (.slice (some ⟨b, 0, none⟩) l.length l.length) l := by
  refine ⟨_, _, rfl, Nat.le_refl _, hm, (by intro h; cases h), fun _ => ⟨b, 0, rfl, fun i hi => ?_⟩⟩
  rw [Nat.zero_add, blk_cells h, ← Array.getElem?_toList, hc, List.getElem?_map, List.getElem?_eq_getElem hi]
  rfl
def zsI : List Int := [0, 0, 0, 0, 0, 0, 0, 0]
def osI : List Int := [1, 1, 1, 1, 1, 1, 1, 1]
theorem zs_b : ∀ x ∈ zsI, i64b x := by unfold zsI i64b; simp
theorem os_b : ∀ x ∈ osI, i64b x := by unfold osI i64b; simp
theorem aw_f1 : scoreP 1 zsI osI = (-8, 0) := by decide
theorem aw_f2 : scoreP 0 osI osI = (8, 0) := by decide
theorem aw_f3 : scoreP 2 zsI osI = (0, 1) := by decide
theorem aw_f4 : scoreP 0 [] osI = (0, 2) := by decide
theorem aw_f5 : dfindP 0 osI [(1, zsI), (2, osI)] 1 (fun _ => true) = ([(2, 8)], 0) := by decide
theorem aw_f6 : vecB zsI = true := by decide
set_option maxRecDepth 100000 in
set_option maxHeartbeats 8000000 in
theorem vawake_any (w : World) : Calls Try.prog 69 #[] w fun e w' => e = .returned (.bool true) ∧ Same w w' := by
  have hZ := blk_old (.cells #[.int .i64 1, .int .i64 1, .int .i64 1, .int .i64 1, .int .i64 1, .int .i64 1, .int .i64 1, .int .i64 1] 3) (blk_new w (.cells #[.int .i64 0, .int .i64 0, .int .i64 0, .int .i64 0, .int .i64 0, .int .i64 0, .int .i64 0, .int .i64 0] 3))
  have hO := blk_new1 w (.cells #[.int .i64 0, .int .i64 0, .int .i64 0, .int .i64 0, .int .i64 0, .int .i64 0, .int .i64 0, .int .i64 0] 3) (.cells #[.int .i64 1, .int .i64 1, .int .i64 1, .int .i64 1, .int .i64 1, .int .i64 1, .int .i64 1, .int .i64 1] 3)
  have hS0 : Same w ((w.alloc (.cells #[.int .i64 0, .int .i64 0, .int .i64 0, .int .i64 0, .int .i64 0, .int .i64 0, .int .i64 0, .int .i64 0] 3)).alloc (.cells #[.int .i64 1, .int .i64 1, .int .i64 1, .int .i64 1, .int .i64 1, .int .i64 1, .int .i64 1, .int .i64 1] 3)) := ((Only.refl _ w).alloc _).alloc _
  go_enter Try.func69, Try.ntmps69
  go_upto_region 2 with fail
  generalize (w.alloc (.cells #[.int .i64 0, .int .i64 0, .int .i64 0, .int .i64 0, .int .i64 0, .int .i64 0, .int .i64 0, .int .i64 0] 3)).alloc (.cells #[.int .i64 1, .int .i64 1, .int .i64 1, .int .i64 1, .int .i64 1, .int .i64 1, .int .i64 1, .int .i64 1] 3) = W at *
  have HZ : Hid (Sl W (.int .i64) (.slice (some ⟨w.heap.size, 0, none⟩) 8 8) zsI) := Lib.hid (blk_sl (l := zsI) hZ rfl (by decide))
  have HO : Hid (Sl W (.int .i64) (.slice (some ⟨w.heap.size + 1, 0, none⟩) 8 8) osI) := Lib.hid (blk_sl (l := osI) hO rfl (by decide))
  have HS0 := Lib.hid hS0
  clear hZ hO hS0
  go_wp2_with fail
  refine (dscore_any 1 _ _ zsI osI W HZ.out HO.out zs_b os_b).mono ?_
  rintro e w1 ⟨rfl, hS1⟩
  rw [aw_f1]
  go_wp2_with fail
  refine (dscore_any 0 _ _ osI osI w1 (HO.out.same hS1) (HO.out.same hS1) os_b os_b).mono ?_
  rintro e w2 ⟨rfl, hS2⟩
  have hS2 := hS1.then hS2
  rw [aw_f2]
  go_wp2_with fail
  refine (dscore_any 2 _ _ zsI osI w2 (HZ.out.same hS2) (HO.out.same hS2) zs_b os_b).mono ?_
  rintro e w3 ⟨rfl, hS3⟩
  have hS3 := hS2.then hS3
  rw [aw_f3]
  go_wp2_with fail
  refine (dscore_any 0 _ _ [] osI w3 ⟨none, 0, rfl, by simp, by simp, fun _ => rfl, fun h => absurd h (by simp)⟩ (HO.out.same hS3) (by simp) os_b).mono ?_
  rintro e w4 ⟨rfl, hS4⟩
  have hS4 := hS3.then hS4
  rw [aw_f4]
  have HS4 := Lib.hid hS4
  clear hS1 hS2 hS3 hS4
  have hR := blk_new w4 (.cells #[.int .i64 1, .slice (some ⟨w.heap.size, 0, none⟩) 8 8, .int .i64 2, .slice (some ⟨w.heap.size + 1, 0, none⟩) 8 8] 139)
  have hSa : Same w4 (w4.alloc (.cells #[.int .i64 1, .slice (some ⟨w.heap.size, 0, none⟩) 8 8, .int .i64 2, .slice (some ⟨w.heap.size + 1, 0, none⟩) 8 8] 139)) := (Only.refl _ w4).alloc _
  go_wp2_with fail
  generalize w4.alloc (.cells #[.int .i64 1, .slice (some ⟨w.heap.size, 0, none⟩) 8 8, .int .i64 2, .slice (some ⟨w.heap.size + 1, 0, none⟩) 8 8] 139) = w5 at *
  have hS5 := HS4.out.then hSa
  have hsr : SlR w5 (.slice (some ⟨w4.heap.size, 0, none⟩) 2 2) [(1, zsI), (2, osI)] := by
    refine ⟨_, _, rfl, Nat.le_refl _, by decide, (by intro h; cases h), fun _ => ⟨_, 0, rfl, fun i hi => ?_⟩⟩
    match i, hi with
    | 0, _ => exact ⟨blk_cells hR 0, _, blk_cells hR 1, HZ.out.same hS5⟩
    | 1, _ => exact ⟨blk_cells hR 2, _, blk_cells hR 3, HO.out.same hS5⟩
  have HSR := Lib.hid hsr
  clear hR hSa hsr
  refine (dfind_any 0 1 _ _ 124 #[] osI _ (fun _ => true) w5 (HO.out.same hS5) HSR.out os_b (by intro r hr; simp at hr; rcases hr with rfl | rfl; exact ⟨by unfold i64b; omega, zs_b⟩; exact ⟨by unfold i64b; omega, os_b⟩) (fun x w1 _ => aw1_any x w1) enters_aw (by simp)).mono ?_
  rintro e w6 ⟨v', rfl, hS6, hsp⟩
  rw [aw_f5] at hsp ⊢
  have hS6 := hS5.then hS6
  have HS6 := Lib.hid hS6
  obtain ⟨a9, c9, rfl, hc9, hm9⟩ := hsp.lit
  obtain ⟨b9, o9, rfl, hcell⟩ := hsp.spot (by simp)
  have p2 := (hcell 0 (by simp)).1; have p3 := (hcell 0 (by simp)).2
  simp only [Nat.zero_mul, Nat.add_zero, List.getElem_cons_zero] at p2 p3
  have cr := fun w0 (h : Same w6 w0) => dright_any (.slice (some ⟨w.heap.size, 0, none⟩) 8 8) zsI w0 (HZ.out.same (HS6.out.then h)) zs_b
  rw [aw_f6] at cr
  have CR := Lib.hid cr
  clear hS5 hS6 hcell hsp cr HSR
  go_wp2_with fail
  refine (CR.out _ (Only.refl _ _)).mono ?_
  rintro e w7 ⟨rfl, hS7⟩
  go_wp2_with fail
  go_ret
  exact ⟨rfl, HS0.out.then (HS6.out.then hS7)⟩
end Go.Proofs.Ytjegohibpojneaa
