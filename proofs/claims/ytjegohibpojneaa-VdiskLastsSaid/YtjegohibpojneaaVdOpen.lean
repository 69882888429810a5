import Derived.Test.YtjegohibpojneaaVdSpec
import Derived.Test.YtjegohibpojneaaInts
import Derived.Deep.SlicePairs
import Derived.SizedLaws
set_option linter.unusedVariables false
set_option linter.unusedSimpArgs false
namespace Go.Proofs.Ytjegohibpojneaa
open Go.RowKit Go.ChangeShapes Go.WideShapes Go.ChangeAt

/-! a script of calls: of each its kind, its name, its text -/
abbrev ActP := Int × ByteArray × ByteArray
def SlA (w : World) (v : Value) (l : List ActP) : Prop :=
  ∃ ad c, v = .slice ad l.length c ∧ l.length ≤ c ∧ c ≤ maxLen ∧ (0 < l.length → ∃ b off, ad = some ⟨b, off, none⟩ ∧ ∀ i (h : i < l.length),
    w.cell? ⟨b, off + i * 6, none⟩ = some (.int .i64 l[i].1) ∧ w.cell? ⟨b, off + i * 6 + 1, none⟩ = some (.string l[i].2.1) ∧ w.cell? ⟨b, off + i * 6 + 2, none⟩ = some (.string l[i].2.2))
theorem SlA.spot {w : World} {ad : Option Addr} {n c : Nat} {l : List ActP} (h : SlA w (.slice ad n c) l) (h0 : 0 < l.length) : ∃ b off, ad = some ⟨b, off, none⟩ ∧ ∀ i (h : i < l.length),
    w.cell? ⟨b, off + i * 6, none⟩ = some (.int .i64 l[i].1) ∧ w.cell? ⟨b, off + i * 6 + 1, none⟩ = some (.string l[i].2.1) ∧ w.cell? ⟨b, off + i * 6 + 2, none⟩ = some (.string l[i].2.2) := by
  obtain ⟨ad', c', e, _, _, h4⟩ := h
  simp only [Value.slice.injEq] at e
  obtain ⟨rfl, _, rfl⟩ := e
  exact h4 h0
theorem SlA.same {w w' : World} {v : Value} {l : List ActP} (h : SlA w v l) (ho : Same w w') : SlA w' v l := by
  obtain ⟨ad, c, rfl, h1, h2, h4⟩ := h
  refine ⟨ad, c, rfl, h1, h2, fun h0 => ?_⟩
  obtain ⟨b, off, rfl, hc⟩ := h4 h0
  refine ⟨b, off, rfl, fun i hi => ?_⟩
  obtain ⟨k1, k2, k3⟩ := hc i hi
  exact ⟨ho.cell_eq k1 (fun h => h), ho.cell_eq k2 (fun h => h), ho.cell_eq k3 (fun h => h)⟩
theorem weights_in {H : Type} {P : Program} {e : TypeId} : ∀ {l : List (DataW H)} {d : DataW H}, d ∈ l → ∀ n ∈ d.weights P e, n ∈ DataW.weightsAll P e l
  | d' :: r, d, hd, n, hn => by
    simp only [DataW.weightsAll, List.mem_append]
    rcases List.mem_cons.1 hd with rfl | h
    · exact Or.inl hn
    · exact Or.inr (weights_in h n hn)
set_option maxRecDepth 100000 in
theorem sl_acts {H : Type} {enc : TypeId × Value → H} {w : World} {a : Option Addr} {len cap : Nat} {d : DataW H} {p : List MemPlace} (h : DataW.Trod enc Try.prog w 0 (fun _ => true) true 99 (.slice a len cap) d p)
    (hw : ∀ n ∈ d.weights Try.prog 99, n ≤ reachBytes) :
    ∃ l : List ActP, SlA w (.slice a len cap) l ∧ ∀ x ∈ l, x.2.1.size ≤ reachBytes ∧ x.2.2.size ≤ reachBytes := by
  obtain ⟨m0, hm0⟩ := h
  have j : DataW.trod enc Try.prog w 0 (fun _ => true) true m0 99 [.slice a len cap] = some (d, p) := by simpa [Value.cells] using hm0
  rcases Go.Deep.open_slice Try.underlying99 j with ⟨hcs, _⟩ | ⟨y, l, c, m, n, D, Pl, hcs, _, hl, hm, hmm, hxx, hx⟩
  · simp only [List.cons.injEq, Value.slice.injEq, and_true] at hcs
    obtain ⟨rfl, rfl, rfl⟩ := hcs
    exact ⟨[], ⟨none, 0, rfl, by simp, by simp, fun h => absurd h (by simp)⟩, by simp⟩
  · simp only [List.cons.injEq, Value.slice.injEq, and_true] at hcs
    obtain ⟨rfl, rfl, rfl⟩ := hcs
    simp only [Prod.mk.injEq] at hxx
    obtain ⟨hd, _⟩ := hxx
    have hlm : len ≤ m := by rw [hmm]; split <;> omega
    have hC : Try.prog.cellsOf 107 = 6 := by kernel_rfl
    have each : ∀ i, i < len → ∃ q : ActP, w.cell? (y.add (i * 6)) = some (.int .i64 q.1) ∧ w.cell? (y.add (i * 6 + 1)) = some (.string q.2.1) ∧ w.cell? (y.add (i * 6 + 2)) = some (.string q.2.2) ∧ q.2.1.size ≤ reachBytes ∧ q.2.2.size ≤ reachBytes := by
      intro i hi
      obtain ⟨cs', h1, h2⟩ := hx i (by omega)
      rw [hC] at h1
      obtain ⟨_, hlen, hcell⟩ := World.cells?_some h1
      have hDw : ∀ n ∈ (D i).weights Try.prog 107, n ≤ reachBytes := fun n hn => hw n (by
        rw [hd]
        have hu : Try.prog.underlying 99 = some (.slice 107) := Try.underlying99
        simp only [DataW.weights, hu, List.mem_cons, List.mem_append]
        exact Or.inr (Or.inl (weights_in (List.mem_map.2 ⟨i, List.mem_range.2 hi, rfl⟩) n hn)))
      obtain ⟨xs, k, hk, hxy, _, hxl, hf⟩ := DataW.trod_struct Try.underlying107 h2
      match xs, hxl, cs', hlen with
      | [y0, y1, y2, y3, y4], _, [v0, v1, v2, v3, v4, v5], _ =>
        have g0 := hf 0 _ rfl
        have g1 := hf 1 _ rfl
        have g2 := hf 2 _ rfl
        have k0 : DataW.trod enc Try.prog w 0 (fun _ => true) true k 3 [v0] = some y0 := g0
        have k1 : DataW.trod enc Try.prog w 0 (fun _ => true) true k 9 [v1] = some y1 := g1
        have k2 : DataW.trod enc Try.prog w 0 (fun _ => true) true k 9 [v2] = some y2 := g2
        obtain ⟨z0, hz0, _, hw0⟩ := DataW.trod_int Try.underlying3 k0
        obtain ⟨s1, hs1, e1, _⟩ := DataW.trod_string Try.underlying9 k1
        obtain ⟨s2, hs2, e2, _⟩ := DataW.trod_string Try.underlying9 k2
        simp only [List.cons.injEq, and_true] at hz0 hs1 hs2
        have c0 := hcell 0 (by omega)
        have c1 := hcell 1 (by omega)
        have c2 := hcell 2 (by omega)
        rw [Go.Deep.add_add] at c0 c1 c2
        simp only [Prod.mk.injEq] at hxy
        have hDi : D i = .agg [y0.1, y1.1, y2.1, y3.1, y4.1] := by simpa using hxy.1
        have hus : Try.prog.underlying 107 = _ := Try.underlying107
        have hwi : ∀ n ∈ DataW.weightsEach Try.prog [3, 9, 9, 3, 105] [y0.1, y1.1, y2.1, y3.1, y4.1], n ≤ reachBytes := fun n hn => hDw n (by
          rw [hDi]
          simp only [DataW.weights, hus]
          exact hn)
        have w1 := hwi s1.data.toList.length (by rw [e1]; simp [DataW.weightsEach, DataW.weights])
        have w2 := hwi s2.data.toList.length (by rw [e2]; simp [DataW.weightsEach, DataW.weights])
        rw [Array.length_toList] at w1 w2
        refine ⟨(z0, s1, s2), by rw [← hz0]; simpa using c0, by rw [← hs1]; simpa using c1, by rw [← hs2]; simpa using c2, w1, w2⟩
    obtain ⟨q, hq⟩ := Go.Deep.choose_lt each
    have hlen : ((List.range len).map q).length = len := by simp
    refine ⟨(List.range len).map q, ⟨some y, cap, by rw [hlen], by rw [hlen]; exact hl, hm, fun h0 => ?_⟩, ?_⟩
    · rw [hlen] at h0
      obtain ⟨b, off, spot⟩ := y
      have := cell_spot (hq 0 h0).1
      simp only [Nat.zero_mul, Addr.add, if_true] at this
      subst this
      refine ⟨b, off, rfl, fun i hi => ?_⟩
      rw [hlen] at hi
      obtain ⟨h1, h2, h3, _⟩ := hq i hi
      have e1 : ∀ j, (⟨b, off, none⟩ : Addr).add j = ⟨b, off + j, none⟩ := by intro j; unfold Addr.add; split <;> simp_all
      rw [e1] at h1 h2 h3
      simp only [List.getElem_map, List.getElem_range]
      exact ⟨h1, by rw [← h2]; congr 2, by rw [← h3]; congr 2⟩
    · intro x hx
      obtain ⟨i, hi, rfl⟩ := List.mem_map.1 hx
      exact (hq i (List.mem_range.1 hi)).2.2.2
end Go.Proofs.Ytjegohibpojneaa
