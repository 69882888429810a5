import Derived.Test.YtjegohibpojneaaVdMap
import Derived.Test.YtjegohibpojneaaVdShelf
import Derived.Shelf.SlIter.Nil
import Derived.Shelf.SortM.Plain
import Derived.Shelf.SortM.SortNone
set_option linter.unusedVariables false
set_option linter.unusedSimpArgs false
namespace Go.Proofs.Ytjegohibpojneaa
open Go.RowKit Go.Maps Go.Sort Go.Shelf

/-! the names of a map of files, sorted (the first three as the kit's tool writes them for a dump) -/
theorem vsorts (m : Nat) : AnyZ.SortsIn Try.prog Try.sortedV_ren Fence.wide m :=
  ⟨fun blk off cap ss W hH hblk hsz => callsIn_wide.2 (AnyM.slices_Sort_string Try.sortV blk off cap ss W hH hblk hsz),
   fun p cap W => callsIn_wide.2 (AnyM.slices_Sort_string_none Try.sortV p cap W)⟩
theorem vkeys_any (mb : Option Nat) (W : World) : Calls Try.prog 121 #[.map mb] W fun e w' => e = .returned (.func (.func 156) #[] #[.pointer (some ⟨W.heap.size, 0, none⟩)]) ∧ w' = W.alloc (.cells #[.map mb] 186) :=
  callsIn_wide.1 (AnyZ.keys_in Try.keysV Fence.wide 5 trivial rfl mb W)
set_option maxHeartbeats 1000000 in
theorem vsorted0 {H : Type} (b nn : Nat) (D0 : DataW H) (R : Value → Option (DataW H × List MemPlace)) (w : World) (hown : w.ownsMap Try.prog 9 R b nn D0) (hmax : Maps.size D0 ≤ maxLen) (hbytes : Maps.size D0 * 16 ≤ 140737488355328) :
    CallsIn Fence.wide 5 Try.prog 120 #[.func (.func 156) #[] #[.pointer (some ⟨w.heap.size, 0, none⟩)]] (w.alloc (.cells #[.map (some b)] 186)) fun e w' => ∃ (v : Value) (ss : List (List UInt8)), e = .returned v ∧ ss.Perm (strKeys D0) ∧
      w'.ownsRow (w.alloc (.cells #[.map (some b)] 186)).heap.size 9 1 v ss.length ((ss.mergeSort (fun x y => decide (x ≤ y))).map encStr) ∧ (v = .slice none 0 0 ↔ ss = []) ∧ Below (w.alloc (.cells #[.map (some b)] 186)).heap.size (w.alloc (.cells #[.map (some b)] 186)) w' := by
  have hbl := hown.lt
  have hseq : SeqGives Fence.wide 2 Try.prog 156 #[.pointer (some ⟨w.heap.size, 0, none⟩)] encStr (fun ss => ss.Perm (strKeys D0)) (Maps.size D0) (w.alloc (.cells #[.map (some b)] 186)) :=
    AnyZ.keys_gives (ρ := Try.keysV_ren) { Try.keysV with } Fence.wide _ trivial rfl (by omega) w.heap.size b nn D0 _ (by simp) (by simp) (by
      obtain ⟨es, clock, hb, Ft, hs, hD⟩ := hown
      exact ⟨es, clock, (Below.heap_alloc _ _ b hbl).trans hb, Ft, hs, hD⟩)
  exact AnyZ.sorted_in Try.sortedV Fence.wide 5 trivial trivial trivial trivial rfl (by omega) (vsorts _) (enters_of Try.func155 (by kernel_rfl) rfl) 156 #[.pointer (some ⟨w.heap.size, 0, none⟩)] trivial (enters_of Try.func156 (by kernel_rfl) rfl) _ _ hmax hbytes _ hseq
end Go.Proofs.Ytjegohibpojneaa
