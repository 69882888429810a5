import Derived.Test.YtpgbnjneoejebaaPairs
import Derived.WalkSpells
import Derived.Shelf.Abstract
import Derived.Deep.AppendLies
import Derived.Deep.RegionHeld3
import Derived.Deep.RegionLaw
import Derived.Deep.DrawnRows
import Derived.Deep.Cut
import Derived.Deep.CutRange
import Derived.Deep.CutBlock
set_option linter.unusedVariables false
set_option linter.unusedSimpArgs false
namespace Go.Proofs.Ytpgbnjneoejebaa
open Go.RowKit

/-! small facts of blocks and slices -/
theorem SlP.news {w : World} {ad : Option Addr} {n c : Nat} {l : List (Int × Int)} (h : SlP w (.slice ad n c) l) :
    n = l.length ∧ (ad = none → n = 0 ∧ c = 0) ∧ ∀ b, ad = some b → ∀ j u, (cells2 l)[j]? = some u → w.cell? (b.add j) = some u := by
  obtain ⟨ad', c', he, h1, h2, h3, h4⟩ := h
  simp only [Value.slice.injEq] at he
  obtain ⟨rfl, rfl, rfl⟩ := he
  refine ⟨rfl, fun h => ⟨by have := h3 h; omega, h3 h⟩, fun b hb j u hu => ?_⟩
  have hj : j < l.length * 2 := by
    rcases Nat.lt_or_ge j (l.length * 2) with h | h
    · exact h
    · rw [List.getElem?_eq_none (by rw [cells2_len]; exact h)] at hu; cases hu
  obtain ⟨b', off, e, hc⟩ := h4 (by omega)
  obtain rfl : b = ⟨b', off, none⟩ := by rw [hb] at e; exact Option.some.inj e
  have e1 : (⟨b', off, none⟩ : Addr).add j = ⟨b', off + j, none⟩ := by unfold Addr.add; split <;> simp_all
  rw [e1]
  have hi : j / 2 < l.length := by omega
  obtain ⟨c1, c2⟩ := cells2_at l (j / 2) hi
  obtain ⟨d1, d2⟩ := hc (j / 2) hi
  rcases Nat.mod_two_eq_zero_or_one j with hm | hm
  · rw [show j / 2 * 2 = j by omega] at c1 d1
    rw [c1] at hu
    rw [d1, ← hu]
  · rw [show j / 2 * 2 + 1 = j by omega] at c2
    rw [show off + j / 2 * 2 + 1 = off + j by omega] at d2
    rw [c2] at hu
    rw [d2, ← hu]
theorem own_blk0 {w : World} {g : Nat} {size : Nat} {e : TypeId} (h : w.heap[g]? = some (.cells #[] e (0, 0))) : w.ownsRow g e size (.slice (some ⟨g, 0, none⟩) 0 0) 0 [] :=
  ⟨by simp, .inr ⟨g, 0, #[], rfl, Nat.le_refl _, h, Nat.le_refl _, by simp [maxLen], by simp, by simp⟩⟩
theorem three_facts {w : World} {b : Nat} {u0 u1 u2 : Value} {t : TypeId} (h : w.heap[b]? = some (.cells #[u0, u1, u2] t (0, 0))) :
    (w.cell? ⟨b, 0, none⟩ = some u0 ∧ w.cell? ⟨b, 1, none⟩ = some u1 ∧ w.cell? ⟨b, 2, none⟩ = some u2) ∧ (w.frozen? ⟨b, 0, none⟩ = false ∧ w.frozen? ⟨b, 1, none⟩ = false ∧ w.frozen? ⟨b, 2, none⟩ = false) :=
  ⟨⟨blk_cells h 0, blk_cells h 1, blk_cells h 2⟩, blk_frozen h 0, blk_frozen h 1, blk_frozen h 2⟩
theorem results_ctb {P : Program} {fn : Func} {p u : Tmp} {ty : TypeId} (h : fn.results = #[.cell p ty, .tmp u]) (tmps : Array Value) (w : World) (g : Nat) (t : TypeId) (cs : Array Value) (fr : Nat × Nat) (d : TypeDesc)
    (hp : tmps.getD p undef = .pointer (some ⟨g, 0, none⟩)) (hg : w.heap[g]? = some (.cells cs t fr))
    (hu : P.underlying ty = some d) (hd : (match d with | .struct _ | .array _ _ => true | _ => false) = true) (hi : (P.info? ty).map (·.size) = some cs.size) :
    (results fn tmps).run P w = .ok (.tuple #[.agg cs, tmps.getD u undef]) w := by
  have hp' : tmps[p]?.getD undef = .pointer (some ⟨g, 0, none⟩) := by simpa using hp
  simp [results, h, hp', asAddr, run_loadVar_row w g t ty cs fr d hg hu hd hi, Result.andThen]
theorem blk_new1 (w : World) (o o' : Obj) : ((w.alloc o).alloc o').heap[w.heap.size + 1]? = some o' := by have := blk_new (w.alloc o) o'; rwa [World.size_alloc] at this
theorem take_snocI {α : Type} (l : List α) (k : Nat) (h : k < l.length) : l.take (k + 1) = l.take k ++ [l[k]] := (List.take_append_getElem h).symm
end Go.Proofs.Ytpgbnjneoejebaa
