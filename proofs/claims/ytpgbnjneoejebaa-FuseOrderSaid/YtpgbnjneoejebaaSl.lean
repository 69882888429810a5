import Derived.Test.YtpgbnjneoejebaaLib
import Derived.Test.YtpgbnjneoejebaaProg
import Derived.Deep.OwnRows
set_option linter.unusedVariables false
set_option linter.unusedSimpArgs false
namespace Go.Proofs.Ytpgbnjneoejebaa
open Go.RowKit

/-! slices' words: a piece, one of no old block, kept beside a store; a row that lies in a block of its own -/
theorem Sl.take {α : Type} {w : World} {enc : α → Value} {ad : Option Addr} {c : Nat} {l : List α} (h : Sl w enc (.slice ad l.length c) l) (n : Nat) (hn : n ≤ l.length) : Sl w enc (.slice ad n c) (l.take n) := by
  obtain ⟨ad', c', he, h1, h2, h3, h4⟩ := h
  simp only [Value.slice.injEq] at he
  obtain ⟨rfl, -, rfl⟩ := he
  have hl : (l.take n).length = n := by simp; omega
  refine ⟨ad, c, by rw [hl], by omega, h2, h3, fun h0 => ?_⟩
  obtain ⟨b, off, rfl, hc⟩ := h4 (by omega)
  refine ⟨b, off, rfl, fun i hi => ?_⟩
  rw [hc i (by omega)]
  simp

/-- A slice of no block below base. -/
def Fr (base : Nat) (v : Value) : Prop := ∀ b off sp n c, v = .slice (some ⟨b, off, sp⟩) n c → base ≤ b
theorem Fr.mono {a b : Nat} {v : Value} (h : Fr b v) (hab : a ≤ b) : Fr a v := fun x off sp n c e => Nat.le_trans hab (h x off sp n c e)
theorem Fr.nil (b c : Nat) (base : Nat) : Fr base (.slice none b c) := by intro x off sp n c e; cases e
theorem own_fr {w : World} {base : Nat} {e : TypeId} {size n : Nat} {v : Value} {xs : List Value} (h : w.ownsRow base e size v n xs) : Fr base v := by
  intro b off sp m c hv
  rcases h.2 with ⟨rfl, _⟩ | ⟨g, cap, cur, rfl, hb, _⟩
  · cases hv
  · cases hv; exact hb
theorem Sl.keep {α : Type} {S : Nat → Prop} {w w' : World} {enc : α → Value} {v : Value} {l : List α} (h : Sl w enc v l) (ho : Only S w w') (hS : ∀ b off sp n c, v = .slice (some ⟨b, off, sp⟩) n c → ¬ S b) : Sl w' enc v l := by
  obtain ⟨ad, c, rfl, h1, h2, h3, h4⟩ := h
  refine ⟨ad, c, rfl, h1, h2, h3, fun h0 => ?_⟩
  obtain ⟨b, off, rfl, hc⟩ := h4 h0
  exact ⟨b, off, rfl, fun i hi => ho.cell_eq (hc i hi) (hS b off none _ c rfl)⟩

/-! a row that lies in a block of its own -/
def RowIn (w : World) (g : Nat) (e : TypeId) (l : List Value) : Prop := w.heap[g]? = some (.cells l.toArray e (0, 0))
theorem RowIn.cell {w : World} {g : Nat} {e : TypeId} {l : List Value} (h : RowIn w g e l) (j : Nat) : w.cell? ⟨g, j, none⟩ = l[j]? := by rw [blk_cells h]; simp
theorem RowIn.frozen {w : World} {g : Nat} {e : TypeId} {l : List Value} (h : RowIn w g e l) (j : Nat) : w.frozen? ⟨g, j, none⟩ = false := blk_frozen h j
theorem RowIn.set {w : World} {g : Nat} {e : TypeId} {l : List Value} (h : RowIn w g e l) (j : Nat) (v : Value) : RowIn (w.setCell ⟨g, j, none⟩ v) g e (l.set j v) := by
  have := blk_set (j := j) (v := v) h
  unfold RowIn
  rw [this]; simp
theorem RowIn.only {S : Nat → Prop} {w w' : World} {g : Nat} {e : TypeId} {l : List Value} (h : RowIn w g e l) (ho : Only S w w') (hS : ¬ S g) : RowIn w' g e l := ho.heap h hS
theorem RowIn.same {w w' : World} {g : Nat} {e : TypeId} {l : List Value} (h : RowIn w g e l) (ho : Same w w') : RowIn w' g e l := ho.heap h (fun h => h)
theorem RowIn.lt {w : World} {g : Nat} {e : TypeId} {l : List Value} (h : RowIn w g e l) : g < w.heap.size := heap_lt h
theorem RowIn.made (w : World) (z : Value) (n : Nat) (e : TypeId) : RowIn (w.alloc (.cells (madeCells #[z] n) e)) w.heap.size e (List.replicate n z) := by
  unfold RowIn
  rw [blk_new]
  congr 2
  apply Array.ext'
  rw [toList_madeCells_one]
theorem RowIn.sl {α : Type} {w : World} {g : Nat} {e : TypeId} {l : List α} {enc : α → Value} (h : RowIn w g e (l.map enc)) (hm : l.length ≤ maxLen) : Sl w enc (.slice (some ⟨g, 0, none⟩) l.length l.length) l := by
  refine ⟨_, _, rfl, Nat.le_refl _, hm, (by intro h; cases h), fun _ => ⟨g, 0, rfl, fun i hi => ?_⟩⟩
  rw [Nat.zero_add, h.cell]; simp [hi]

theorem Sl.keep2 {α : Type} {S : Nat → Prop} {w w' : World} {v : Value} {l : List α} {enc : α → Value} (h : Sl w enc v l) (ho : Only S w w') (hS : ∀ b off n c, 0 < l.length → v = .slice (some ⟨b, off, none⟩) n c → ¬ S b) : Sl w' enc v l := by
  obtain ⟨ad, c, rfl, h1, h2, h3, h4⟩ := h
  refine ⟨ad, c, rfl, h1, h2, h3, fun h0 => ?_⟩
  obtain ⟨b, off, rfl, hc⟩ := h4 h0
  exact ⟨b, off, rfl, fun i hi => ho.cell_eq (hc i hi) (hS b off _ _ h0 rfl)⟩
theorem Sl.old {α : Type} {w : World} {v : Value} {l : List α} {enc : α → Value} (h : Sl w enc v l) {b off n c : Nat} (h0 : 0 < l.length) (hv : v = .slice (some ⟨b, off, none⟩) n c) : b < w.heap.size := by
  subst hv
  obtain ⟨ad, c', e, h1, h2, h3, h4⟩ := h
  obtain ⟨b', off', rfl, hc⟩ := h4 h0
  simp only [Value.slice.injEq, Option.some.injEq, Addr.mk.injEq] at e
  obtain ⟨⟨rfl, rfl, _⟩, _, _⟩ := e
  exact World.block_lt_of_cell? w _ (hc 0 h0)
end Go.Proofs.Ytpgbnjneoejebaa
