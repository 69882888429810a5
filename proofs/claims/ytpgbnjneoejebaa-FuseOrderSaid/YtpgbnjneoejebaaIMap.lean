import Derived.Test.YtpgbnjneoejebaaFacts
import Derived.Maps.Own
import Derived.Maps.OwnOps
import Derived.Maps.OwnSet
import Derived.Maps.Ext
import Derived.Maps.Range
import Derived.Maps.RangeWalk
set_option linter.unusedVariables false
set_option linter.unusedSimpArgs false
namespace Go.Proofs.Ytpgbnjneoejebaa
open Go.RowKit
open Go.Maps (Keyed)

/-! a map of the call's own with int keys: a list of entries by rising keys; an element stands for itself -/
abbrev EnI (α : Type) := List (Int × α)
def mJ (v : Value) : Option (DataW Value × List MemPlace) := some (.held v, [])
def encJ {α : Type} (enc : α → Value) (p : Int × α) : Lit × DataW Value := (.int .i64 p.1, .held (enc p.2))
def getI {α : Type} (F : EnI α) (k : Int) : Option α := (F.find? fun p => p.1 == k).map (·.2)
def insI {α : Type} (x : Int × α) : EnI α → EnI α
  | [] => [x]
  | y :: r => if decide (x.1 < y.1) then x :: y :: r else y :: insI x r
def delI {α : Type} (F : EnI α) (k : Int) : EnI α := F.filter fun p => !(p.1 == k)
def putI {α : Type} (F : EnI α) (k : Int) (v : α) : EnI α := insI (k, v) (delI F k)
def SortI {α : Type} (F : EnI α) : Prop := F.Pairwise fun p q => p.1 < q.1
theorem same_int (a b : Int) : (Lit.int .i64 a).sameKey (.int .i64 b) = (a == b) := by
  show decide (IntKind.i64 = IntKind.i64 ∧ a = b) = (a == b)
  by_cases h : a = b <;> simp [h]
theorem insert_encI {α : Type} (enc : α → Value) (x : Int × α) : ∀ F : EnI α, DataW.insert (encJ enc x) (F.map (encJ enc)) = (insI x F).map (encJ enc)
  | [] => rfl
  | y :: r => by
    have h := insert_encI enc x r
    have hb : (encJ enc x).1.before (encJ enc y).1 = decide (x.1 < y.1) := rfl
    rw [List.map_cons]
    unfold DataW.insert insI
    rw [hb, h]
    split <;> simp
theorem filter_encI {α : Type} (enc : α → Value) (F : EnI α) (k : Int) : (F.map (encJ enc)).filter (ChangeMaps.notKey (.int .i64 k)) = (delI F k).map (encJ enc) := by
  unfold delI
  rw [List.filter_map]
  congr 1
  refine List.filter_congr (fun p _ => ?_)
  show (!(Lit.int .i64 p.1).sameKey (.int .i64 k)) = _
  rw [same_int]
theorem put_encI {α : Type} (enc : α → Value) (F : EnI α) (k : Int) (v : α) : (DataW.map (F.map (encJ enc))).put (.int .i64 k) (.held (enc v)) = .map ((putI F k v).map (encJ enc)) := by
  rw [DataW.put_eq]
  unfold ChangeMaps.putKey putI
  rw [filter_encI, ← insert_encI]
  rfl
theorem del_encI {α : Type} (enc : α → Value) (F : EnI α) (k : Int) : (DataW.map (F.map (encJ enc))).del (.int .i64 k) = .map ((delI F k).map (encJ enc)) := by
  rw [DataW.del_eq]
  unfold ChangeMaps.delKey
  rw [filter_encI]
theorem find_encI {α : Type} (enc : α → Value) (k : Int) : ∀ F : EnI α, (F.map (encJ enc)).find? (fun p => p.1.sameKey (.int .i64 k)) = (F.find? fun p => p.1 == k).map (encJ enc)
  | [] => rfl
  | y :: r => by
    have h := find_encI enc k r
    have hb : (encJ enc y).1.sameKey (.int .i64 k) = (y.1 == k) := same_int _ _
    rw [List.map_cons, List.find?_cons, List.find?_cons, hb, h]
    cases y.1 == k <;> rfl
theorem at_encI {α : Type} (enc : α → Value) (F : EnI α) (k : Int) (z : Value) : (DataW.map (F.map (encJ enc))).atKey (.int .i64 k) (.held z) = .held (((getI F k).map enc).getD z) := by
  unfold DataW.atKey getI
  dsimp only
  rw [find_encI]
  cases F.find? fun p => p.1 == k <;> rfl
theorem any_encI {α : Type} (enc : α → Value) (F : EnI α) (k : Int) : Maps.has (DataW.map (F.map (encJ enc))) (.int .i64 k) = (getI F k).isSome := by
  unfold getI
  rw [Option.isSome_map, Maps.has_eq]
  induction F with
  | nil => rfl
  | cons y r ih =>
    have hb : (encJ enc y).1.sameKey (.int .i64 k) = (y.1 == k) := same_int _ _
    rw [List.map_cons, List.any_cons, List.find?_cons, hb, ih]
    cases y.1 == k <;> rfl
/-- Block b is a map that holds just F. -/
def MpJ {α : Type} (enc : α → Value) (P : Program) (k : TypeId) (w : World) (b : Nat) (F : EnI α) : Prop := w.ownsMap P k mJ b F.length (.map (F.map (encJ enc)))
theorem own_tightI {P : Program} {k : TypeId} {R : Value → Option (DataW Value × List MemPlace)} {w : World} {b n : Nat} {E : List (Lit × DataW Value)} (h : w.ownsMap P k R b n (.map E)) : w.ownsMap P k R b E.length (.map E) := by
  obtain ⟨es, clock, hb, F, hs, hD⟩ := h
  refine ⟨es, clock, hb, F, ?_, hD⟩
  injection hD with hD
  rw [hD, length_sorted, List.length_map, Array.length_toList]
  exact Nat.le_refl _
section
variable {α : Type} {enc : α → Value} {P : Program} {k e t : TypeId} {w : World} {b : Nat} {F : EnI α}
theorem MpJ.made (enc : α → Value) (P : Program) (k : TypeId) (w : World) : MpJ enc P k (w.alloc (.map #[] 0)) w.heap.size [] := World.ownsMap_made w P k mJ
theorem MpJ.lt (h : MpJ enc P k w b F) : b < w.heap.size := World.ownsMap.lt h
theorem MpJ.only {S : Nat → Prop} {w' : World} (h : MpJ enc P k w b F) (ho : Only S w w') (hS : ¬ S b) : MpJ enc P k w' b F := by
  obtain ⟨es, clock, hb, F, hs, hD⟩ := h
  exact ⟨es, clock, ho.heap hb hS, F, hs, hD⟩
theorem MpJ.same {w' : World} (h : MpJ enc P k w b F) (ho : Same w w') : MpJ enc P k w' b F := h.only ho (fun h => h)
theorem MpJ.sort (h : MpJ enc P k w b F) (hk : P.underlying k = some (.int .i64)) : SortI F := by
  obtain ⟨E, he, hp, _⟩ := World.ownsMap.canon h (Maps.int_keyed hk)
  injection he with he
  rw [← he, List.pairwise_map] at hp
  exact hp.imp (fun h => of_decide_eq_true h)
theorem MpJ.run_look (h : MpJ enc P k w b F) (hk : P.underlying k = some (.int .i64)) (ht : P.underlying t = some (.map k e)) {z : Value} (hz : (zeroValue e).run P w = .ok z w) (y : Int) (hy : (Lit.int .i64 y).wf = true) :
    (Instr.lookup t (.map (some b)) (.int .i64 y) false).run P w = .ok (((getI F y).map enc).getD z) w := by
  obtain ⟨v, ps, hrun, hv⟩ := World.ownsMap.lookup h (Maps.int_keyed hk) ht hz (zd := .held z) (zp := []) rfl (Maps.keyOf_int_mk hk hy)
  rw [hrun]
  rw [at_encI] at hv
  simp only [mJ, Option.some.injEq, Prod.mk.injEq, DataW.held.injEq] at hv
  rw [hv.1]
theorem MpJ.run_look_ok (h : MpJ enc P k w b F) (hk : P.underlying k = some (.int .i64)) (ht : P.underlying t = some (.map k e)) {z : Value} (hz : (zeroValue e).run P w = .ok z w) (y : Int) (hy : (Lit.int .i64 y).wf = true) :
    (Instr.lookup t (.map (some b)) (.int .i64 y) true).run P w = .ok (.tuple #[((getI F y).map enc).getD z, .bool (getI F y).isSome]) w := by
  obtain ⟨v, ps, hrun, hv⟩ := World.ownsMap.look_ok h (Maps.int_keyed hk) ht hz (zd := .held z) (zp := []) rfl (Maps.keyOf_int_mk hk hy)
  rw [hrun]
  rw [at_encI] at hv
  simp only [mJ, Option.some.injEq, Prod.mk.injEq, DataW.held.injEq] at hv
  rw [hv.1, any_encI]
theorem MpJ.run_put (h : MpJ enc P k w b F) (hk : P.underlying k = some (.int .i64)) (ht : P.underlying t = some (.map k e)) (hn : F.length < maxLen) (y : Int) (hy : (Lit.int .i64 y).wf = true) (x : α) :
    ∃ w', (Instr.mapUpdate t (.map (some b)) (.int .i64 y) (enc x)).run P w = .ok () w' ∧ MpJ enc P k w' b (putI F y x) ∧ Only (· = b) w w' := by
  obtain ⟨w', hrun, h3, hg⟩ := World.ownsMap.update h (Maps.int_keyed hk) ht hn (Maps.keyOf_int_mk hk hy) (val := enc x) (d := .held (enc x)) (ps := []) rfl
  rw [put_encI] at h3
  have h4 := own_tightI h3
  rw [List.length_map] at h4
  exact ⟨w', hrun, h4, (Only.refl _ w).grown hg (fun k hk _ => (Option.some.inj hk).symm)⟩
theorem turned_onlyI {w' : World} (h : w.mapTurned w' b) : Only (· = b) w w' := (Only.refl _ w).grown h.grown (fun k hk _ => (Option.some.inj hk).symm)
theorem MpJ.run_del (h : MpJ enc P k w b F) (hk : P.underlying k = some (.int .i64)) (ht : P.underlying t = some (.map k e)) (y : Int) (hy : (Lit.int .i64 y).wf = true) (ty : TypeId) :
    ∃ w', (Builtin.delete_ #[t, k] ty #[.map (some b), .int .i64 y]).run P w = .ok (.tuple #[]) w' ∧ MpJ enc P k w' b (delI F y) ∧ Only (· = b) w w' := by
  obtain ⟨w', hrun, h3, hg⟩ := World.ownsMap.drop h (Maps.int_keyed hk) ht (Maps.keyOf_int_mk hk hy) ty
  rw [del_encI] at h3
  have h4 := own_tightI h3
  rw [List.length_map] at h4
  exact ⟨w', hrun, h4, turned_onlyI hg⟩
theorem MpJ.run_len (h : MpJ enc P k w b F) (ht : P.underlying t = some (.map k e)) (ty : TypeId) : (Builtin.len_ #[t] ty #[.map (some b)]).run P w = .ok (.int .i64 F.length) w := by
  rw [World.ownsMap.len h ht ty, Maps.size_eq, List.length_map]
end
/-- 'm[k] = v', at the operation. -/
theorem mpj_put {α : Type} (enc : α → Value) {P : Program} (w : World) {ops : Array Oper} {rest : List Oper} {o : Oper} {a : Act} {Q : Exit → Act → World → Prop}
    (hg : o.guard = none) (mo xo vo : Operand) (t : TypeId) (hop : o.op = Op.mapUpdate t mo xo vo) (k e : TypeId) (hk : P.underlying k = some (.int .i64)) (ht : P.underlying t = some (.map k e)) (b : Nat) (F : EnI α)
    (hm : a.eval mo = .map (some b)) (h : MpJ enc P k w b F) (hn : F.length < maxLen) (y : Int) (x : α) (hx : a.eval xo = .int .i64 y) (hv : a.eval vo = enc x) (hy : (Lit.int .i64 y).wf = true)
    (hK : ∀ w', MpJ enc P k w' b (putI F y x) → Only (· = b) w w' → wpList P ops Q rest (a.put o.dst undef) w') :
    wpList P ops Q (o :: rest) a w := by
  refine wpList_plain hg fun K' hK' => ?_
  obtain ⟨w', hrun, r1, r2⟩ := h.run_put hk ht hn y hy x
  unfold Oper.wp
  simp [execOp, hop, hm, hx, hv, hrun, Result.andThen]
  exact hK' _ _ (hK w' r1 r2)
/-- 'delete(m, k)', at the operation. -/
theorem mpj_del {α : Type} (enc : α → Value) {P : Program} (w : World) {ops : Array Oper} {rest : List Oper} {o : Oper} {a : Act} {Q : Exit → Act → World → Prop}
    (hg : o.guard = none) (mo xo : Operand) (t k : TypeId) (hop : o.op = Op.call { callee := Callee.builtin Builtin.delete, args := #[mo, xo], argTypes := #[t, k] }) (e : TypeId) (hk : P.underlying k = some (.int .i64)) (ht : P.underlying t = some (.map k e)) (b : Nat) (F : EnI α)
    (hm : a.eval mo = .map (some b)) (h : MpJ enc P k w b F) (y : Int) (hx : a.eval xo = .int .i64 y) (hy : (Lit.int .i64 y).wf = true)
    (hK : ∀ w', MpJ enc P k w' b (delI F y) → Only (· = b) w w' → wpList P ops Q rest (a.put o.dst (.tuple #[])) w') :
    wpList P ops Q (o :: rest) a w := by
  refine wpList_plain hg fun K' hK' => ?_
  obtain ⟨w', hrun, r1, r2⟩ := h.run_del hk ht y hy o.type
  unfold Oper.wp
  simp [execOp, hop, resolve, invoke, builtin, hm, hx, hrun, Result.andThen]
  exact hK' _ _ (hK w' r1 r2)
end Go.Proofs.Ytpgbnjneoejebaa
