import Derived.Test.YtjegohibpojneaaLib
import Derived.Maps.Own
import Derived.Maps.OwnOps
import Derived.Maps.OwnSet
import Derived.Maps.Ext
set_option linter.unusedVariables false
set_option linter.unusedSimpArgs false
namespace Go.Proofs.Ytjegohibpojneaa
open Go.RowKit
open Go.Maps (Keyed)

/-! a map of the call's own, read as a function of its keys: an element stands for itself -/
abbrev mR (v : Value) : Option (DataW Value × List MemPlace) := some (.held v, [])
/-- Block b is a map of at most n entries with keys of type k (int's), m tells each key's element. -/
def MpI (P : Program) (k : TypeId) (w : World) (b n : Nat) (m : Int → Option Value) : Prop :=
  ∃ D : DataW Value, w.ownsMap P k mR b n D ∧ ∀ x : Int, (∀ zd, D.atKey (.int .i64 x) zd = ((m x).map DataW.held).getD zd) ∧ Maps.has D (.int .i64 x) = (m x).isSome
theorem MpI.made (P : Program) (k : TypeId) (w : World) : MpI P k (w.alloc (.map #[] 0)) w.heap.size 0 (fun _ => none) :=
  ⟨_, World.ownsMap_made w P k mR, fun x => ⟨fun zd => rfl, rfl⟩⟩
theorem MpI.mono {P : Program} {k : TypeId} {w : World} {b n n' : Nat} {m : Int → Option Value} (h : MpI P k w b n m) (hn : n ≤ n') : MpI P k w b n' m := by
  obtain ⟨D, h1, h2⟩ := h
  exact ⟨D, h1.mono hn, h2⟩
theorem MpI.lt {P : Program} {k : TypeId} {w : World} {b n : Nat} {m : Int → Option Value} (h : MpI P k w b n m) : b < w.heap.size := by
  obtain ⟨D, h1, h2⟩ := h
  exact h1.lt
theorem MpI.only {S : Nat → Prop} {P : Program} {k : TypeId} {w w' : World} {b n : Nat} {m : Int → Option Value} (h : MpI P k w b n m) (ho : Only S w w') (hS : ¬ S b) : MpI P k w' b n m := by
  obtain ⟨D, ⟨es, clock, hb, F, hs, hD⟩, h2⟩ := h
  exact ⟨D, ⟨es, clock, ho.heap hb hS, F, hs, hD⟩, h2⟩
theorem MpI.same {P : Program} {k : TypeId} {w w' : World} {b n : Nat} {m : Int → Option Value} (h : MpI P k w b n m) (ho : Same w w') : MpI P k w' b n m := h.only ho (fun h => h)

theorem MpI.run_look {P : Program} {k e t : TypeId} {w : World} {b n : Nat} {m : Int → Option Value} (h : MpI P k w b n m) (hk : P.underlying k = some (.int .i64)) (ht : P.underlying t = some (.map k e)) {z : Value} (hz : (zeroValue e).run P w = .ok z w)
    (x : Int) (hx : (Lit.int .i64 x).wf = true) : (Instr.lookup t (.map (some b)) (.int .i64 x) false).run P w = .ok ((m x).getD z) w := by
  obtain ⟨D, h1, h2⟩ := h
  obtain ⟨v, ps, hrun, hv⟩ := h1.lookup (Maps.int_keyed hk) ht hz (zd := .held z) (zp := []) rfl (Maps.keyOf_int_mk hk hx)
  rw [hrun]
  rw [(h2 x).1] at hv
  simp only [Option.some.injEq, Prod.mk.injEq] at hv
  obtain ⟨hv, _⟩ := hv
  cases hm : m x with
  | none => rw [hm] at hv; simp at hv; subst hv; rfl
  | some u => rw [hm] at hv; simp at hv; subst hv; rfl
theorem MpI.run_look_ok {P : Program} {k e t : TypeId} {w : World} {b n : Nat} {m : Int → Option Value} (h : MpI P k w b n m) (hk : P.underlying k = some (.int .i64)) (ht : P.underlying t = some (.map k e)) {z : Value} (hz : (zeroValue e).run P w = .ok z w)
    (x : Int) (hx : (Lit.int .i64 x).wf = true) : (Instr.lookup t (.map (some b)) (.int .i64 x) true).run P w = .ok (.tuple #[(m x).getD z, .bool (m x).isSome]) w := by
  obtain ⟨D, h1, h2⟩ := h
  obtain ⟨v, ps, hrun, hv⟩ := h1.look_ok (Maps.int_keyed hk) ht hz (zd := .held z) (zp := []) rfl (Maps.keyOf_int_mk hk hx)
  rw [hrun]
  rw [(h2 x).1] at hv
  simp only [Option.some.injEq, Prod.mk.injEq] at hv
  obtain ⟨hv, _⟩ := hv
  rw [(h2 x).2]
  cases hm : m x with
  | none => rw [hm] at hv; simp at hv; subst hv; rfl
  | some u => rw [hm] at hv; simp at hv; subst hv; rfl
theorem MpI.run_put {P : Program} {k e t : TypeId} {w : World} {b n : Nat} {m : Int → Option Value} (h : MpI P k w b n m) (hk : P.underlying k = some (.int .i64)) (ht : P.underlying t = some (.map k e)) (hn : n < maxLen)
    (x : Int) (hx : (Lit.int .i64 x).wf = true) (v : Value) : ∃ w', (Instr.mapUpdate t (.map (some b)) (.int .i64 x) v).run P w = .ok () w' ∧ MpI P k w' b (n + 1) (fun y => if y = x then some v else m y) ∧ Only (· = b) w w' := by
  obtain ⟨D, h1, h2⟩ := h
  obtain ⟨w', hrun, h3, hg⟩ := h1.update (Maps.int_keyed hk) ht hn (Maps.keyOf_int_mk hk hx) (val := v) (d := .held v) (ps := []) rfl
  refine ⟨w', hrun, ⟨_, h3, fun y => ?_⟩, (Only.refl _ w).grown hg (fun k hk _ => (Option.some.inj hk).symm)⟩
  by_cases hy : y = x
  · subst hy
    have hkl : WideAt.IsKeyLit (Lit.int .i64 y) := trivial
    refine ⟨fun zd => ?_, ?_⟩
    · rw [Maps.atKey_put_same h1.isMap hkl]; simp
    · rw [Maps.has_put_same h1.isMap hkl]; simp
  · have hne : (Lit.int .i64 y) ≠ (Lit.int .i64 x) := fun h => hy (by injection h)
    refine ⟨fun zd => ?_, ?_⟩
    · rw [Maps.atKey_put_other hne]; simp only [if_neg hy]; exact (h2 y).1 zd
    · rw [Maps.has_put_other hne]; simp only [if_neg hy]; exact (h2 y).2
/-- 'm[k] = v', at the operation. -/
theorem mpi_put {P : Program} (w : World) {ops : Array Oper} {rest : List Oper} {o : Oper} {a : Act} {Q : Exit → Act → World → Prop}
    (hg : o.guard = none) (mo xo vo : Operand) (t : TypeId) (hop : o.op = Op.mapUpdate t mo xo vo) (k e : TypeId) (hk : P.underlying k = some (.int .i64)) (ht : P.underlying t = some (.map k e)) (b n : Nat) (m : Int → Option Value)
    (hm : a.eval mo = .map (some b)) (h : MpI P k w b n m) (hn : n < maxLen) (x : Int) (v : Value) (hx : a.eval xo = .int .i64 x) (hv : a.eval vo = v) (hwf : (Lit.int .i64 x).wf = true)
    (hK : ∀ w', MpI P k w' b (n + 1) (fun y => if y = x then some v else m y) → Only (· = b) w w' → wpList P ops Q rest (a.put o.dst undef) w') :
    wpList P ops Q (o :: rest) a w := by
  refine wpList_plain hg fun K' hK' => ?_
  obtain ⟨w', hrun, r1, r2⟩ := h.run_put hk ht hn x hwf v
  unfold Oper.wp
  simp [execOp, hop, hm, hx, hv, hrun, Result.andThen]
  exact hK' _ _ (hK w' r1 r2)
end Go.Proofs.Ytjegohibpojneaa
