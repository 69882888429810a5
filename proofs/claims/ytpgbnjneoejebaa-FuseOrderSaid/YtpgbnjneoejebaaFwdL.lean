import Derived.Test.YtpgbnjneoejebaaLib
import Derived.Sort.Grow
set_option linter.unusedVariables false
set_option linter.unusedSimpArgs false
namespace Go.Proofs.Ytpgbnjneoejebaa
open Go.RowKit

/-- Nothing that was there has changed, and no draw is taken back. -/
def Fwd (w w' : World) : Prop := Same w w' ∧ w.drawn ≤ w'.drawn
theorem Fwd.refl (w : World) : Fwd w w := ⟨Only.refl _ _, Nat.le_refl _⟩
theorem Fwd.then {a b c : World} (h : Fwd a b) (h' : Fwd b c) : Fwd a c := ⟨h.1.then h'.1, Nat.le_trans h.2 h'.2⟩
theorem Fwd.drew {a w : World} (h : Fwd a w) : Fwd a w.drew := ⟨h.1.drew, Nat.le_trans h.2 (Nat.le_succ _)⟩
theorem Fwd.drewN {a w : World} (h : Fwd a w) (n : Nat) : Fwd a (w.drewN n) := ⟨h.1.drewN n, Nat.le_trans h.2 (Nat.le_add_right _ _)⟩
theorem Fwd.alloc {a w : World} (h : Fwd a w) (o : Obj) : Fwd a (w.alloc o) := ⟨h.1.alloc o, h.2⟩
theorem Fwd.grow {w w' : World} (h : Fwd w w') : ∃ q os, w' = Go.Sort.grow (w.drewN q) os := by
  refine ⟨w'.drawn - w.drawn, w'.heap.extract w.heap.size w'.heap.size, ?_⟩
  obtain ⟨⟨h1, h2, h3, h4, h5⟩, h6⟩ := h
  obtain ⟨hp, tp, dr, os, out⟩ := w
  obtain ⟨hp', tp', dr', os', out'⟩ := w'
  simp only at h1 h2 h3 h4 h5 h6
  subst h1 h2 h3
  unfold Go.Sort.grow World.drewN
  have e1 : hp' = hp ++ hp'.extract hp.size hp'.size := by
    apply Array.ext_getElem?
    intro i
    by_cases hi : i < hp.size
    · rw [Array.getElem?_append_left hi]; exact h5 i hi (fun h => h)
    · rw [Array.getElem?_append_right (by omega)]
      simp only [Array.getElem?_extract]
      by_cases hj : i < hp'.size
      · rw [if_pos (by omega)]; congr 1; omega
      · rw [if_neg (by omega)]; simp; omega
  have e2 : dr + (dr' - dr) = dr' := by omega
  rw [← e1, e2]
/-- Only these blocks have changed, and no draw is taken back. -/
structure OnlyF (S : Nat → Prop) (w w' : World) : Prop extends Only S w w' where
  drawn : w.drawn ≤ w'.drawn
abbrev SameF (w w' : World) : Prop := OnlyF (fun _ => False) w w'
theorem OnlyF.refl (S : Nat → Prop) (w : World) : OnlyF S w w := ⟨Only.refl S w, Nat.le_refl _⟩
theorem OnlyF.trans {S S' : Nat → Prop} {a b c : World} (h : OnlyF S a b) (h' : OnlyF S' b c) (hs : ∀ k, k < a.heap.size → S' k → S k) : OnlyF S a c := ⟨h.toOnly.trans h'.toOnly hs, Nat.le_trans h.drawn h'.drawn⟩
theorem OnlyF.then {S : Nat → Prop} {a b c : World} (h : OnlyF S a b) (h' : SameF b c) : OnlyF S a c := h.trans h' (fun _ _ h => h.elim)
theorem OnlyF.same {S : Nat → Prop} {a b c : World} (h : OnlyF S a b) (h' : OnlyF S b c) : OnlyF S a c := h.trans h' (fun _ _ h => h)
theorem OnlyF.alloc {S : Nat → Prop} {a w : World} (h : OnlyF S a w) (o : Obj) : OnlyF S a (w.alloc o) := ⟨h.toOnly.alloc o, h.drawn⟩
theorem OnlyF.drew {S : Nat → Prop} {a w : World} (h : OnlyF S a w) : OnlyF S a w.drew := ⟨h.toOnly.drew, Nat.le_trans h.drawn (Nat.le_succ _)⟩
theorem OnlyF.drewN {S : Nat → Prop} {a w : World} (h : OnlyF S a w) (n : Nat) : OnlyF S a (w.drewN n) := ⟨h.toOnly.drewN n, Nat.le_trans h.drawn (Nat.le_add_right _ _)⟩
theorem OnlyF.setCell {S : Nat → Prop} {a w : World} (h : OnlyF S a w) {p : Addr} (hp : p.block < a.heap.size → S p.block) (u : Value) : OnlyF S a (w.setCell p u) := ⟨h.toOnly.setCell hp u, h.drawn⟩
theorem OnlyF.put2 {S : Nat → Prop} {a w : World} (h : OnlyF S a w) {g : Nat} (hg : g < a.heap.size → S g) (x y : Value) : OnlyF S a ((w.setCell ⟨g, 0, none⟩ x).setCell ⟨g, 1, none⟩ y) := (h.setCell hg _).setCell hg _
theorem SameF.fwd {w w' : World} (h : SameF w w') : Fwd w w' := ⟨h.toOnly, h.drawn⟩
end Go.Proofs.Ytpgbnjneoejebaa
