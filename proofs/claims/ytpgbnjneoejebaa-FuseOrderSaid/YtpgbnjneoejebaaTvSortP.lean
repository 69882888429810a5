import Derived.Test.YtpgbnjneoejebaaTvFwd
import Derived.Shelf.GgSortFunc.InsertionK
set_option linter.unusedVariables false
set_option linter.unusedSimpArgs false
namespace Go.Proofs.Ytpgbnjneoejebaa
open Go.RowKit

/-! A row of documents as the library's sort sees it. -/
def enc3 (p : VP) : List Value := [.int .i64 p.1, .int .i64 (vb p), .int .i64 (vc p)]
theorem flat3 (l : List VP) : Go.Sort.flatK enc3 3 l.toArray = (cells3 l).toArray := by
  refine Go.Sort.ext_get! (by simp [cells3_len]) fun t ht => ?_
  have ht' : t < l.length * 3 := by simpa using ht
  rw [Go.Sort.get_flatK _ _ _ _ (by simpa using ht')]
  have hi : t / 3 < l.length := by omega
  obtain ⟨c1, c2, c3⟩ := cells3_at l (t / 3) hi
  have hd : l.toArray[t / 3]! = l[t / 3] := by rw [getElem!_pos _ _ (by simpa using hi)]; simp
  have hlen : t < (cells3 l).length := by rw [cells3_len]; exact ht'
  rw [hd, getElem!_pos (cells3 l).toArray t (by simpa using hlen)]
  rw [List.getElem_toArray]
  rcases (show t % 3 = 0 ∨ t % 3 = 1 ∨ t % 3 = 2 by omega) with h | h | h
  · rw [h]
    have e : t / 3 * 3 = t := by omega
    rw [e, List.getElem?_eq_getElem hlen] at c1
    rw [Option.some.inj c1]; rfl
  · rw [h]
    have e : t / 3 * 3 + 1 = t := by omega
    rw [e, List.getElem?_eq_getElem hlen] at c2
    rw [Option.some.inj c2]; rfl
  · rw [h]
    have e : t / 3 * 3 + 2 = t := by omega
    rw [e, List.getElem?_eq_getElem hlen] at c3
    rw [Option.some.inj c3]; rfl
theorem holds3 {w : World} {g : Nat} {cs : Array Value} {e : TypeId} {l : List VP} (h : w.heap[g]? = some (.cells cs e (0, 0))) (ht : cs.toList.take (l.length * 3) = cells3 l) : Go.Sort.HoldsK enc3 3 w g 0 l.toArray := by
  unfold Go.Sort.HoldsK
  rw [flat3]
  intro j hj
  have hj' : j < (cells3 l).length := by simpa using hj
  refine ⟨?_, blk_frozen h _⟩
  rw [blk_cells h, Nat.zero_add, getElem!_pos _ _ (by simpa using hj'), List.getElem_toArray]
  have h1 : (cs.toList.take (l.length * 3))[j]? = (cells3 l)[j]? := by rw [ht]
  rw [cells3_len] at hj'
  rw [List.getElem?_take_of_lt hj', Array.getElem?_toList] at h1
  rw [h1, List.getElem?_eq_getElem (by rw [cells3_len]; exact hj')]
  rfl
theorem heap_sort3 {w : World} {g n : Nat} {os : Array Obj} {cs : Array Value} {e : TypeId} (d : Array VP) (hb : w.heap[g]? = some (.cells cs e (0, 0))) :
    (sortWorldK enc3 3 w g 0 n d os).heap[g]? = some (.cells (Go.Sort.putCells id 0 (Go.Sort.flatK enc3 3 d) cs) e (0, 0)) := by
  have hg := heap_lt hb
  unfold sortWorldK
  rw [Go.Sort.heap_grow_old _ _ (by simpa [Go.Sort.putRowK] using hg)]
  simp [Go.Sort.putRowK, Go.Sort.putRow, Go.Sort.mapBlock, Go.Sort.ahead, Array.getElem?_modify, hb, Go.Sort.onCells]
theorem only_sort3 {w : World} {g n : Nat} {os : Array Obj} (d : Array VP) : Only (· = g) w (sortWorldK enc3 3 w g 0 n d os) := by
  unfold sortWorldK
  refine ⟨rfl, rfl, rfl, by simp [Go.Sort.putRowK], fun k hk hne => ?_⟩
  rw [Go.Sort.heap_grow_old _ _ (by simpa [Go.Sort.putRowK] using hk)]
  have : g ≠ k := fun e => hne e.symm
  simp [Go.Sort.putRowK, Go.Sort.putRow, Go.Sort.mapBlock, Go.Sort.ahead, Array.getElem?_modify, this]
theorem take_put3 (cs : Array Value) (xs : List Value) (h : xs.length ≤ cs.size) : (Go.Sort.putCells id 0 xs.toArray cs).toList.take xs.length = xs := by
  apply List.ext_getElem?
  intro j
  by_cases hj : j < xs.length
  · rw [List.getElem?_take_of_lt hj, Array.getElem?_toList]
    simp [Go.Sort.putCells, hj, show j < cs.size by omega]
  · rw [List.getElem?_take_eq_none (by omega), List.getElem?_eq_none (by omega)]
theorem own_sort3 {w : World} {base g cap n : Nat} {e : TypeId} {os : Array Obj} {cs : Array Value} {l t : List VP} (hl : t.length = l.length) (hbase : base ≤ g) (hb : w.heap[g]? = some (.cells cs e (0, 0)))
    (h1 : l.length ≤ cap) (h2 : cap ≤ maxLen) (h3 : cs.size = cap * 3) :
    (sortWorldK enc3 3 w g 0 n t.toArray os).ownsRow base e 3 (.slice (some ⟨g, 0, none⟩) l.length cap) l.length (cells3 t) := by
  have hz := heap_sort3 (n := n) (os := os) t.toArray hb
  rw [flat3] at hz
  refine ⟨by rw [cells3_len, hl], .inr ⟨g, cap, _, rfl, hbase, hz, h1, h2, by simp [Go.Sort.putCells, h3], ?_⟩⟩
  rw [← hl, ← cells3_len]
  exact take_put3 cs _ (by rw [cells3_len]; omega)
theorem cmpV_lt (x y : VP) : decide (cmpV x y < 0) = Bet.bet x y := by
  unfold cmpV
  cases h : Bet.bet x y <;> cases h2 : Bet.bet y x <;> simp
theorem swo3 : Go.Sort.SWO (fun x y : VP => Bet.bet x y) :=
  ⟨Bet.self, fun x y z h1 h2 => noG_betG (noG_of h1) h2, fun x y z h1 h2 => (show noG z x from (show noG z y from h2).trans h1)⟩
theorem gsorted_perm {l : List VP} {d : Array VP} (hpG : Go.Sort.PermIn 0 l.toArray.size l.toArray d) (hs : Go.Sort.SortedIn (fun x y => Bet.bet x y) 0 l.toArray.size d) : d = (sortG l).toArray := by
  obtain ⟨h1, h2, h3⟩ := hpG
  have e1 : (d.extract 0 l.toArray.size) = d := by rw [← h1]; simp
  have e2 : (l.toArray.extract 0 l.toArray.size) = l.toArray := by simp
  rw [e1, e2] at h3
  have h4 : SortG d.toList := by
    unfold SortG
    rw [List.pairwise_iff_getElem]
    intro i j hi hj hij
    have hi' : i < d.size := by simpa using hi
    have hj' : j < d.size := by simpa using hj
    have := hs i j (by omega) hij (by omega)
    rw [getElem!_pos d j hj', getElem!_pos d i hi'] at this
    unfold noG
    simpa using this
  have := sortG_uniq h3 h4
  rw [← this]
end Go.Proofs.Ytpgbnjneoejebaa
