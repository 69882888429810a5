import Derived.Test.YtjegohibpojneaaTopFwd
import Derived.Shelf.GgSortFunc.InsertionK
set_option linter.unusedVariables false
set_option linter.unusedSimpArgs false
namespace Go.Proofs.Ytjegohibpojneaa
open Go.RowKit

/-! A row of documents as the library's sort sees it. -/
def enc2 (p : Int × Int) : List Value := [.int .i64 p.1, .int .i64 p.2]
theorem flat2 (l : List (Int × Int)) : Go.Sort.flatK enc2 2 l.toArray = (cells2 l).toArray := by
  refine Go.Sort.ext_get! (by simp [cells2_len]) fun t ht => ?_
  have ht' : t < l.length * 2 := by simpa using ht
  rw [Go.Sort.get_flatK _ _ _ _ (by simpa using ht')]
  have hi : t / 2 < l.length := by omega
  obtain ⟨c1, c2⟩ := cells2_at l (t / 2) hi
  have hd : l.toArray[t / 2]! = l[t / 2] := by rw [getElem!_pos _ _ (by simpa using hi)]; simp
  have hlen : t < (cells2 l).length := by rw [cells2_len]; exact ht'
  rw [hd, getElem!_pos (cells2 l).toArray t (by simpa using hlen)]
  rw [List.getElem_toArray]
  rcases Nat.mod_two_eq_zero_or_one t with h | h
  · rw [h]
    have e : t / 2 * 2 = t := by omega
    rw [e, List.getElem?_eq_getElem hlen] at c1
    rw [Option.some.inj c1]; rfl
  · rw [h]
    have e : t / 2 * 2 + 1 = t := by omega
    rw [e, List.getElem?_eq_getElem hlen] at c2
    rw [Option.some.inj c2]; rfl
theorem holds2 {w : World} {g : Nat} {cs : Array Value} {e : TypeId} {l : List (Int × Int)} (h : w.heap[g]? = some (.cells cs e (0, 0))) (ht : cs.toList.take (l.length * 2) = cells2 l) : Go.Sort.HoldsK enc2 2 w g 0 l.toArray := by
  unfold Go.Sort.HoldsK
  rw [flat2]
  intro j hj
  have hj' : j < (cells2 l).length := by simpa using hj
  refine ⟨?_, blk_frozen h _⟩
  rw [blk_cells h, Nat.zero_add, getElem!_pos _ _ (by simpa using hj'), List.getElem_toArray]
  have h1 : (cs.toList.take (l.length * 2))[j]? = (cells2 l)[j]? := by rw [ht]
  rw [cells2_len] at hj'
  rw [List.getElem?_take_of_lt hj', Array.getElem?_toList] at h1
  rw [h1, List.getElem?_eq_getElem (by rw [cells2_len]; exact hj')]
  rfl
theorem heap_sort2 {w : World} {g n : Nat} {os : Array Obj} {cs : Array Value} {e : TypeId} (d : Array (Int × Int)) (hb : w.heap[g]? = some (.cells cs e (0, 0))) :
    (sortWorldK enc2 2 w g 0 n d os).heap[g]? = some (.cells (Go.Sort.putCells id 0 (Go.Sort.flatK enc2 2 d) cs) e (0, 0)) := by
  have hg := heap_lt hb
  unfold sortWorldK
  rw [Go.Sort.heap_grow_old _ _ (by simpa [Go.Sort.putRowK] using hg)]
  simp [Go.Sort.putRowK, Go.Sort.putRow, Go.Sort.mapBlock, Go.Sort.ahead, Array.getElem?_modify, hb, Go.Sort.onCells]
theorem only_sort2 {w : World} {g n : Nat} {os : Array Obj} (d : Array (Int × Int)) : Only (· = g) w (sortWorldK enc2 2 w g 0 n d os) := by
  unfold sortWorldK
  refine ⟨rfl, rfl, rfl, by simp [Go.Sort.putRowK], fun k hk hne => ?_⟩
  rw [Go.Sort.heap_grow_old _ _ (by simpa [Go.Sort.putRowK] using hk)]
  have : g ≠ k := fun e => hne e.symm
  simp [Go.Sort.putRowK, Go.Sort.putRow, Go.Sort.mapBlock, Go.Sort.ahead, Array.getElem?_modify, this]
theorem take_put2 (cs : Array Value) (xs : List Value) (h : xs.length ≤ cs.size) : (Go.Sort.putCells id 0 xs.toArray cs).toList.take xs.length = xs := by
  apply List.ext_getElem?
  intro j
  by_cases hj : j < xs.length
  · rw [List.getElem?_take_of_lt hj, Array.getElem?_toList]
    simp [Go.Sort.putCells, hj, show j < cs.size by omega]
  · rw [List.getElem?_take_eq_none (by omega), List.getElem?_eq_none (by omega)]
theorem own_sort2 {w : World} {base g cap n : Nat} {e : TypeId} {os : Array Obj} {cs : Array Value} {l t : List (Int × Int)} (hl : t.length = l.length) (hbase : base ≤ g) (hb : w.heap[g]? = some (.cells cs e (0, 0)))
    (h1 : l.length ≤ cap) (h2 : cap ≤ maxLen) (h3 : cs.size = cap * 2) :
    (sortWorldK enc2 2 w g 0 n t.toArray os).ownsRow base e 2 (.slice (some ⟨g, 0, none⟩) l.length cap) l.length (cells2 t) := by
  have hz := heap_sort2 (n := n) (os := os) t.toArray hb
  rw [flat2] at hz
  refine ⟨by rw [cells2_len, hl], .inr ⟨g, cap, _, rfl, hbase, hz, h1, h2, by simp [Go.Sort.putCells, h3], ?_⟩⟩
  rw [← hl, ← cells2_len]
  exact take_put2 cs _ (by rw [cells2_len]; omega)
theorem cmp_lt (x y : Int × Int) : decide (cmpP x y < 0) = betP x y := by
  unfold cmpP
  cases h : betP x y <;> cases h2 : betP y x <;> simp
theorem swo2 : Go.Sort.SWO (fun x y : Int × Int => betP x y) :=
  ⟨betP_self, fun x y z h1 h2 => noP_betP (noP_of h1) h2, fun x y z h1 h2 => (show noP z x from (show noP z y from h2).trans h1)⟩
theorem sorted_perm {l : List (Int × Int)} {d : Array (Int × Int)} (hp : Go.Sort.PermIn 0 l.toArray.size l.toArray d) (hs : Go.Sort.SortedIn (fun x y => betP x y) 0 l.toArray.size d) : d = (sortP l).toArray := by
  obtain ⟨h1, h2, h3⟩ := hp
  have e1 : (d.extract 0 l.toArray.size) = d := by rw [← h1]; simp
  have e2 : (l.toArray.extract 0 l.toArray.size) = l.toArray := by simp
  rw [e1, e2] at h3
  have h4 : SortP d.toList := by
    unfold SortP
    rw [List.pairwise_iff_getElem]
    intro i j hi hj hij
    have hi' : i < d.size := by simpa using hi
    have hj' : j < d.size := by simpa using hj
    have := hs i j (by omega) hij (by omega)
    rw [getElem!_pos d j hj', getElem!_pos d i hi'] at this
    unfold noP
    simpa using this
  have := sortP_uniq h3 h4
  rw [← this]
end Go.Proofs.Ytjegohibpojneaa
