import Derived.Test.YtjegohibpojneaaFacts
import Derived.Maps.Own
import Derived.Maps.OwnOps
import Derived.Maps.OwnSet
import Derived.Maps.Ext
import Derived.Maps.Range
import Derived.Maps.RangeWalk
import Derived.StringKeys
set_option linter.unusedVariables false
set_option linter.unusedSimpArgs false
namespace Go.Proofs.Ytjegohibpojneaa
open Go.RowKit
open Go.Maps (Keyed)

/-! a map of the call's own with a string's keys: a list of entries by rising keys; an element stands for itself -/
abbrev EnS (α : Type) := List (List UInt8 × α)
def mS (v : Value) : Option (DataW Value × List MemPlace) := some (.held v, [])
def encE {α : Type} (enc : α → Value) (p : List UInt8 × α) : Lit × DataW Value := (.string p.1, .held (enc p.2))
def getS {α : Type} (F : EnS α) (k : List UInt8) : Option α := (F.find? fun p => p.1 == k).map (·.2)
def insS {α : Type} (x : List UInt8 × α) : EnS α → EnS α
  | [] => [x]
  | y :: r => if bytesBefore x.1 y.1 then x :: y :: r else y :: insS x r
def delS {α : Type} (F : EnS α) (k : List UInt8) : EnS α := F.filter fun p => !(p.1 == k)
def putS {α : Type} (F : EnS α) (k : List UInt8) (v : α) : EnS α := insS (k, v) (delS F k)
def SortS {α : Type} (F : EnS α) : Prop := F.Pairwise fun p q => bytesBefore p.1 q.1 = true
theorem insert_enc {α : Type} (enc : α → Value) (x : List UInt8 × α) : ∀ F : EnS α, DataW.insert (encE enc x) (F.map (encE enc)) = (insS x F).map (encE enc)
  | [] => rfl
  | y :: r => by
    have h := insert_enc enc x r
    have hb : (encE enc x).1.before (encE enc y).1 = bytesBefore x.1 y.1 := rfl
    rw [List.map_cons]
    unfold DataW.insert insS
    rw [hb, h]
    split <;> simp
theorem filter_enc {α : Type} (enc : α → Value) (F : EnS α) (k : List UInt8) : (F.map (encE enc)).filter (ChangeMaps.notKey (.string k)) = (delS F k).map (encE enc) := by
  unfold delS
  rw [List.filter_map]
  rfl
theorem put_enc {α : Type} (enc : α → Value) (F : EnS α) (k : List UInt8) (v : α) : (DataW.map (F.map (encE enc))).put (.string k) (.held (enc v)) = .map ((putS F k v).map (encE enc)) := by
  rw [DataW.put_eq]
  unfold ChangeMaps.putKey putS
  rw [filter_enc, ← insert_enc]
  rfl
theorem del_enc {α : Type} (enc : α → Value) (F : EnS α) (k : List UInt8) : (DataW.map (F.map (encE enc))).del (.string k) = .map ((delS F k).map (encE enc)) := by
  rw [DataW.del_eq]
  unfold ChangeMaps.delKey
  rw [filter_enc]
theorem find_enc {α : Type} (enc : α → Value) (k : List UInt8) : ∀ F : EnS α, (F.map (encE enc)).find? (fun p => p.1.sameKey (.string k)) = (F.find? fun p => p.1 == k).map (encE enc)
  | [] => rfl
  | y :: r => by
    have h := find_enc enc k r
    have hb : (encE enc y).1.sameKey (.string k) = (y.1 == k) := rfl
    rw [List.map_cons, List.find?_cons, List.find?_cons, hb, h]
    cases y.1 == k <;> rfl
theorem at_enc {α : Type} (enc : α → Value) (F : EnS α) (k : List UInt8) (z : Value) : (DataW.map (F.map (encE enc))).atKey (.string k) (.held z) = .held (((getS F k).map enc).getD z) := by
  unfold DataW.atKey getS
  dsimp only
  rw [find_enc]
  cases F.find? fun p => p.1 == k <;> rfl
theorem any_enc {α : Type} (enc : α → Value) (F : EnS α) (k : List UInt8) : Maps.has (DataW.map (F.map (encE enc))) (.string k) = (getS F k).isSome := by
  unfold getS
  rw [Option.isSome_map, Maps.has_eq]
  induction F with
  | nil => rfl
  | cons y r ih =>
    have hb : (encE enc y).1.sameKey (.string k) = (y.1 == k) := rfl
    rw [List.map_cons, List.any_cons, List.find?_cons, hb, ih]
    cases y.1 == k <;> rfl
/-- Block b is a map that holds just F. -/
def MpS {α : Type} (enc : α → Value) (P : Program) (k : TypeId) (w : World) (b : Nat) (F : EnS α) : Prop := w.ownsMap P k mS b F.length (.map (F.map (encE enc)))
theorem own_tight {P : Program} {k : TypeId} {R : Value → Option (DataW Value × List MemPlace)} {w : World} {b n : Nat} {E : List (Lit × DataW Value)} (h : w.ownsMap P k R b n (.map E)) : w.ownsMap P k R b E.length (.map E) := by
  obtain ⟨es, clock, hb, F, hs, hD⟩ := h
  refine ⟨es, clock, hb, F, ?_, hD⟩
  injection hD with hD
  rw [hD, length_sorted, List.length_map, Array.length_toList]
  exact Nat.le_refl _
section
variable {α : Type} {enc : α → Value} {P : Program} {k e t : TypeId} {w : World} {b : Nat} {F : EnS α}
theorem MpS.made (enc : α → Value) (P : Program) (k : TypeId) (w : World) : MpS enc P k (w.alloc (.map #[] 0)) w.heap.size [] := World.ownsMap_made w P k mS
theorem MpS.lt (h : MpS enc P k w b F) : b < w.heap.size := World.ownsMap.lt h
theorem MpS.only {S : Nat → Prop} {w' : World} (h : MpS enc P k w b F) (ho : Only S w w') (hS : ¬ S b) : MpS enc P k w' b F := by
  obtain ⟨es, clock, hb, F, hs, hD⟩ := h
  exact ⟨es, clock, ho.heap hb hS, F, hs, hD⟩
theorem MpS.same {w' : World} (h : MpS enc P k w b F) (ho : Same w w') : MpS enc P k w' b F := h.only ho (fun h => h)
theorem MpS.sort (h : MpS enc P k w b F) (hk : P.underlying k = some .string) : SortS F := by
  obtain ⟨E, he, hp, _⟩ := World.ownsMap.canon h (Maps.string_keyed hk)
  injection he with he
  rw [← he, List.pairwise_map] at hp
  exact hp
theorem MpS.run_look (h : MpS enc P k w b F) (hk : P.underlying k = some .string) (ht : P.underlying t = some (.map k e)) {z : Value} (hz : (zeroValue e).run P w = .ok z w) (s : ByteArray) (hs : s.size ≤ maxLen) :
    (Instr.lookup t (.map (some b)) (.string s) false).run P w = .ok (((getS F s.data.toList).map enc).getD z) w := by
  obtain ⟨v, ps, hrun, hv⟩ := World.ownsMap.lookup h (Maps.string_keyed hk) ht hz (zd := .held z) (zp := []) rfl (WideMaps.keyOf_string_mk hk hs)
  rw [hrun]
  rw [at_enc] at hv
  simp only [mS, Option.some.injEq, Prod.mk.injEq, DataW.held.injEq] at hv
  rw [hv.1]
theorem MpS.run_look_ok (h : MpS enc P k w b F) (hk : P.underlying k = some .string) (ht : P.underlying t = some (.map k e)) {z : Value} (hz : (zeroValue e).run P w = .ok z w) (s : ByteArray) (hs : s.size ≤ maxLen) :
    (Instr.lookup t (.map (some b)) (.string s) true).run P w = .ok (.tuple #[((getS F s.data.toList).map enc).getD z, .bool (getS F s.data.toList).isSome]) w := by
  obtain ⟨v, ps, hrun, hv⟩ := World.ownsMap.look_ok h (Maps.string_keyed hk) ht hz (zd := .held z) (zp := []) rfl (WideMaps.keyOf_string_mk hk hs)
  rw [hrun]
  rw [at_enc] at hv
  simp only [mS, Option.some.injEq, Prod.mk.injEq, DataW.held.injEq] at hv
  rw [hv.1, any_enc]
theorem MpS.run_put (h : MpS enc P k w b F) (hk : P.underlying k = some .string) (ht : P.underlying t = some (.map k e)) (hn : F.length < maxLen) (s : ByteArray) (hs : s.size ≤ maxLen) (x : α) :
    ∃ w', (Instr.mapUpdate t (.map (some b)) (.string s) (enc x)).run P w = .ok () w' ∧ MpS enc P k w' b (putS F s.data.toList x) ∧ Only (· = b) w w' := by
  obtain ⟨w', hrun, h3, hg⟩ := World.ownsMap.update h (Maps.string_keyed hk) ht hn (WideMaps.keyOf_string_mk hk hs) (val := enc x) (d := .held (enc x)) (ps := []) rfl
  rw [put_enc] at h3
  have h4 := own_tight h3
  rw [List.length_map] at h4
  exact ⟨w', hrun, h4, (Only.refl _ w).grown hg (fun k hk _ => (Option.some.inj hk).symm)⟩
theorem turned_only {w' : World} (h : w.mapTurned w' b) : Only (· = b) w w' := (Only.refl _ w).grown h.grown (fun k hk _ => (Option.some.inj hk).symm)
theorem MpS.run_del (h : MpS enc P k w b F) (hk : P.underlying k = some .string) (ht : P.underlying t = some (.map k e)) (s : ByteArray) (hs : s.size ≤ maxLen) (ty : TypeId) :
    ∃ w', (Builtin.delete_ #[t, k] ty #[.map (some b), .string s]).run P w = .ok (.tuple #[]) w' ∧ MpS enc P k w' b (delS F s.data.toList) ∧ Only (· = b) w w' := by
  obtain ⟨w', hrun, h3, hg⟩ := World.ownsMap.drop h (Maps.string_keyed hk) ht (WideMaps.keyOf_string_mk hk hs) ty
  rw [del_enc] at h3
  have h4 := own_tight h3
  rw [List.length_map] at h4
  exact ⟨w', hrun, h4, turned_only hg⟩
theorem MpS.run_len (h : MpS enc P k w b F) (ht : P.underlying t = some (.map k e)) (ty : TypeId) : (Builtin.len_ #[t] ty #[.map (some b)]).run P w = .ok (.int .i64 F.length) w := by
  rw [World.ownsMap.len h ht ty, Maps.size_eq, List.length_map]
end
/-- 'm[k] = v', at the operation. -/
theorem mps_put {α : Type} (enc : α → Value) {P : Program} (w : World) {ops : Array Oper} {rest : List Oper} {o : Oper} {a : Act} {Q : Exit → Act → World → Prop}
    (hg : o.guard = none) (mo xo vo : Operand) (t : TypeId) (hop : o.op = Op.mapUpdate t mo xo vo) (k e : TypeId) (hk : P.underlying k = some .string) (ht : P.underlying t = some (.map k e)) (b : Nat) (F : EnS α)
    (hm : a.eval mo = .map (some b)) (h : MpS enc P k w b F) (hn : F.length < maxLen) (s : ByteArray) (x : α) (hx : a.eval xo = .string s) (hv : a.eval vo = enc x) (hs : s.size ≤ maxLen)
    (hK : ∀ w', MpS enc P k w' b (putS F s.data.toList x) → Only (· = b) w w' → wpList P ops Q rest (a.put o.dst undef) w') :
    wpList P ops Q (o :: rest) a w := by
  refine wpList_plain hg fun K' hK' => ?_
  obtain ⟨w', hrun, r1, r2⟩ := h.run_put hk ht hn s hs x
  unfold Oper.wp
  simp [execOp, hop, hm, hx, hv, hrun, Result.andThen]
  exact hK' _ _ (hK w' r1 r2)
/-- 'delete(m, k)', at the operation. -/
theorem mps_del {α : Type} (enc : α → Value) {P : Program} (w : World) {ops : Array Oper} {rest : List Oper} {o : Oper} {a : Act} {Q : Exit → Act → World → Prop}
    (hg : o.guard = none) (mo xo : Operand) (t k : TypeId) (hop : o.op = Op.call { callee := Callee.builtin Builtin.delete, args := #[mo, xo], argTypes := #[t, k] }) (e : TypeId) (hk : P.underlying k = some .string) (ht : P.underlying t = some (.map k e)) (b : Nat) (F : EnS α)
    (hm : a.eval mo = .map (some b)) (h : MpS enc P k w b F) (s : ByteArray) (hx : a.eval xo = .string s) (hs : s.size ≤ maxLen)
    (hK : ∀ w', MpS enc P k w' b (delS F s.data.toList) → Only (· = b) w w' → wpList P ops Q rest (a.put o.dst (.tuple #[])) w') :
    wpList P ops Q (o :: rest) a w := by
  refine wpList_plain hg fun K' hK' => ?_
  obtain ⟨w', hrun, r1, r2⟩ := h.run_del hk ht s hs o.type
  unfold Oper.wp
  simp [execOp, hop, resolve, invoke, builtin, hm, hx, hrun, Result.andThen]
  exact hK' _ _ (hK w' r1 r2)
end Go.Proofs.Ytjegohibpojneaa
