import Derived.WalkKit
import Derived.WalkSpells
import Derived.WalkLawsBesides
import Derived.RowKit3
import Derived.Below
import Derived.LoopTactic
import Derived.Outline
import Derived.Handy
import Derived.Laws.Rows
import Derived.Laws.LoneSync
import Derived.Laws.BytesArg
import Derived.Lib.Hide
import Derived.KernelRfl
import Derived.OwnWalk
import Derived.LaidEql
import Derived.Defers
import Derived.Laws.Pointers
import Derived.RegionTactic
import Derived.RegionCalls
import Derived.ChangeAlike
import Derived.Deep.QuietTactic
import Derived.BigQuiet
import Derived.StillTailTactics
import Derived.Deep.LoopGhost
import Derived.SliceStrings
import Derived.ProofKit
import Derived.OpenShut
import Derived.ShutString
import Derived.ChangeOld
import Derived.SizedLaws
set_option linter.unusedVariables false
set_option linter.unusedSimpArgs false
namespace Go.Proofs.Ytpgbnjneoejebaa
open Go.RowKit

/-- All blocks but those of S are as they were; the streams too. -/
structure Only (S : Nat → Prop) (w w' : World) : Prop where
  os : w'.os = w.os
  tape : w'.tape = w.tape
  output : w'.output = w.output
  size : w.heap.size ≤ w'.heap.size
  block : ∀ k, k < w.heap.size → ¬ S k → w'.heap[k]? = w.heap[k]?

/-- Nothing that was there has changed. -/
abbrev Same (w w' : World) : Prop := Only (fun _ => False) w w'

theorem Only.refl (S : Nat → Prop) (w : World) : Only S w w := ⟨rfl, rfl, rfl, Nat.le_refl _, fun _ _ _ => rfl⟩
theorem Only.trans {S S' : Nat → Prop} {a b c : World} (h : Only S a b) (h' : Only S' b c) (hs : ∀ k, k < a.heap.size → S' k → S k) : Only S a c :=
  ⟨h'.os.trans h.os, h'.tape.trans h.tape, h'.output.trans h.output, Nat.le_trans h.size h'.size,
    fun k hk hS => (h'.block k (Nat.lt_of_lt_of_le hk h.size) (fun h2 => hS (hs k hk h2))).trans (h.block k hk hS)⟩
theorem Only.then {S : Nat → Prop} {a b c : World} (h : Only S a b) (h' : Same b c) : Only S a c := h.trans h' (fun _ _ h => h.elim)
theorem Only.same {S : Nat → Prop} {a b c : World} (h : Only S a b) (h' : Only S b c) : Only S a c := h.trans h' (fun _ _ h => h)
theorem Only.mono {S S' : Nat → Prop} {w w' : World} (h : Only S w w') (hs : ∀ k, k < w.heap.size → S k → S' k) : Only S' w w' :=
  ⟨h.os, h.tape, h.output, h.size, fun k hk hS => h.block k hk (fun h2 => hS (hs k hk h2))⟩
theorem Only.alloc {S : Nat → Prop} {a w : World} (h : Only S a w) (o : Obj) : Only S a (w.alloc o) :=
  h.then ⟨rfl, rfl, rfl, by simp, fun k hk _ => Below.heap_alloc _ _ _ hk⟩
theorem Only.drew {S : Nat → Prop} {a w : World} (h : Only S a w) : Only S a w.drew := ⟨h.os, h.tape, h.output, h.size, h.block⟩
theorem Only.drewN {S : Nat → Prop} {a w : World} (h : Only S a w) (n : Nat) : Only S a (w.drewN n) := ⟨h.os, h.tape, h.output, h.size, h.block⟩
theorem Only.setCell {S : Nat → Prop} {a w : World} (h : Only S a w) {p : Addr} (hp : p.block < a.heap.size → S p.block) (u : Value) : Only S a (w.setCell p u) :=
  h.trans (S' := (· = p.block)) ⟨rfl, rfl, rfl, by simp, fun k _ hk => Below.heap_setCell _ _ _ _ hk⟩ (fun k hk e => by subst e; exact hp hk)
theorem Only.grown {S : Nat → Prop} {a w w' : World} {row : Option Nat} (h : Only S a w) (hg : w.grownBy w' row) (hr : ∀ k, row = some k → k < a.heap.size → S k) : Only S a w' :=
  h.trans (S' := fun k => some k = row) ⟨hg.os, hg.tape, hg.output, hg.size, fun k hk hne => hg.block k hk hne⟩ (fun k hk e => hr k e.symm hk)
theorem Only.below {w w' : World} (h : Same w w') : Below w.heap.size w w' := ⟨h.os, h.tape, h.output, h.size, fun k hk => h.block k hk (fun h => h)⟩
theorem Only.ofBelow {w w' : World} (h : Below w.heap.size w w') : Same w w' := ⟨h.os, h.tape, h.output, h.size, fun k hk _ => h.block k hk⟩
theorem Only.grownBy {S : Nat → Prop} {w w' : World} {row : Option Nat} (h : Only S w w') (hs : ∀ k, k < w.heap.size → S k → some k = row) : w.grownBy w' row :=
  ⟨h.os, h.tape, h.output, h.size, fun k hk hne => h.block k hk (fun h2 => hne (hs k hk h2))⟩

theorem Only.cell {S : Nat → Prop} {w w' : World} (h : Only S w w') {p : Addr} (hp : p.block < w.heap.size) (hS : ¬ S p.block) : w'.cell? p = w.cell? p := World.cell?_of_block (h.block _ hp hS)
theorem Only.cell_eq {S : Nat → Prop} {w w' : World} (h : Only S w w') {b j : Nat} {v : Value} (hc : w.cell? ⟨b, j, none⟩ = some v) (hS : ¬ S b) : w'.cell? ⟨b, j, none⟩ = some v :=
  (h.cell (p := ⟨b, j, none⟩) (World.block_lt_of_cell? w _ hc) hS).trans hc
theorem Only.cell_at {S : Nat → Prop} {w w' : World} (h : Only S w w') {p : Addr} {v : Value} (hc : w.cell? p = some v) (hS : ¬ S p.block) : w'.cell? p = some v :=
  (h.cell (World.block_lt_of_cell? w _ hc) hS).trans hc
theorem Only.frozen {S : Nat → Prop} {w w' : World} (h : Only S w w') {p : Addr} (hp : p.block < w.heap.size) (hS : ¬ S p.block) : w'.frozen? p = w.frozen? p := World.frozen?_of_block (h.block _ hp hS)
theorem heap_lt {w : World} {b : Nat} {o : Obj} (h : w.heap[b]? = some o) : b < w.heap.size := (Array.getElem?_eq_some_iff.1 h).1
theorem Only.heap {S : Nat → Prop} {w w' : World} (h : Only S w w') {b : Nat} {o : Obj} (hb : w.heap[b]? = some o) (hS : ¬ S b) : w'.heap[b]? = some o := (h.block b (heap_lt hb) hS).trans hb

/-- A block that is known whole: its cells, none frozen. -/
theorem blk_cells {w : World} {b : Nat} {cs : Array Value} {t : TypeId} (h : w.heap[b]? = some (.cells cs t (0, 0))) : ∀ j, w.cell? ⟨b, j, none⟩ = cs[j]? := fun j => cell_of_row w b j cs t _ h
theorem blk_frozen {w : World} {b : Nat} {cs : Array Value} {t : TypeId} (h : w.heap[b]? = some (.cells cs t (0, 0))) : ∀ j, w.frozen? ⟨b, j, none⟩ = false := fun j => frozen_of_row w b j cs t h
theorem blk_set {w : World} {b j : Nat} {cs : Array Value} {t : TypeId} {v : Value} (h : w.heap[b]? = some (.cells cs t (0, 0))) : (w.setCell ⟨b, j, none⟩ v).heap[b]? = some (.cells (cs.setIfInBounds j v) t (0, 0)) := heap_setCell_same w b j cs t v h
theorem blk_new (w : World) (o : Obj) : (w.alloc o).heap[w.heap.size]? = some o := heap_alloc_new w o
theorem blk_old {w : World} (o : Obj) {b : Nat} {o' : Obj} (h : w.heap[b]? = some o') : (w.alloc o).heap[b]? = some o' := (Below.heap_alloc w o b (heap_lt h)).trans h

theorem run_makeFunc {P : Program} (fn : Fn) (first cap : Array Value) (w : World) : (Instr.makeFunc fn first cap).run P w = .ok (.func fn first cap) w := rfl
theorem run_not {P : Program} (x : Bool) (w : World) : (Op.unary .not (.bool x)).run P w = .ok (.bool (!x)) w := rfl

/-- Two pointers that are one. -/
theorem run_equalIn_ptr_same {P : Program} (w : World) (d : Nat) {t e : TypeId} {j : TypeInfo} (a : Addr) (h : P.underlying t = some (.pointer e)) (he : P.info? e = some j) (hz : j.size ≠ 0) :
    (Op.equalIn (d + 1) t (.pointer (some a)) (.pointer (some a))).run P w = .ok true w := by
  simp [Op.equalIn, run_underlying h, sizeOf, typeInfo, he, hz, run_sameAddr_same]
theorem run_neq_ptr_same {P : Program} (w : World) {t e : TypeId} {j : TypeInfo} (a : Addr) (h : P.underlying t = some (.pointer e)) (he : P.info? e = some j) (hz : j.size ≠ 0) :
    (binOp .neq t (.pointer (some a)) (.pointer (some a))).run P w = .ok (.bool false) w := by
  simp only [binOp]
  simp [Op.equal, Op.maxDepth, run_equalIn_ptr_same w 9999 a h he hz]
theorem run_eql_ptr_same {P : Program} (w : World) {t e : TypeId} {j : TypeInfo} (a : Addr) (h : P.underlying t = some (.pointer e)) (he : P.info? e = some j) (hz : j.size ≠ 0) :
    (binOp .eql t (.pointer (some a)) (.pointer (some a))).run P w = .ok (.bool true) w := by
  simp only [binOp]
  simp [Op.equal, Op.maxDepth, run_equalIn_ptr_same w 9999 a h he hz]

theorem own_base {w : World} {base : Nat} {e : TypeId} {size n : Nat} {v : Value} {xs : List Value} (h : w.ownsRow base e size v n xs) {w' : World} (hg : w.grownBy w' v.ownBlock) : Only (fun k => base ≤ k) w w' :=
  (Only.refl _ _).grown hg (fun k hk _ => (h.lt k hk).1)
/-- An owned row lives on where its block is none of those that may have changed. -/
theorem own_keep {S : Nat → Prop} {w w' : World} {base : Nat} {e : TypeId} {size n : Nat} {v : Value} {xs : List Value} (h : w.ownsRow base e size v n xs) (ho : Only S w w') (hS : ∀ k, v.ownBlock = some k → ¬ S k) : w'.ownsRow base e size v n xs := by
  refine ⟨h.1, ?_⟩
  rcases h.2 with hn | ⟨g, cap, cur, rfl, hb, hgg, rest⟩
  · exact .inl hn
  · exact .inr ⟨g, cap, cur, rfl, hb, ho.heap hgg (hS g rfl), rest⟩
theorem own_same {w w' : World} {base : Nat} {e : TypeId} {size n : Nat} {v : Value} {xs : List Value} (h : w.ownsRow base e size v n xs) (ho : Same w w') : w'.ownsRow base e size v n xs := own_keep h ho (fun _ _ h => h)
theorem own_lo {w : World} {base base' : Nat} {e : TypeId} {size n : Nat} {v : Value} {xs : List Value} (h : w.ownsRow base e size v n xs) (hb : base' ≤ base) : w.ownsRow base' e size v n xs := by
  refine ⟨h.1, ?_⟩
  rcases h.2 with hn | ⟨g, cap, cur, rfl, hb', rest⟩
  · exact .inl hn
  · exact .inr ⟨g, cap, cur, rfl, Nat.le_trans hb hb', rest⟩

/-- 'append(v, x...)' onto a row of the call's own, whatever slice x is. -/
theorem app_any {P : Program} {w : World} {ops : Array Oper} {rest : List Oper} {o : Oper} {a : Act} {Q : Exit → Act → World → Prop} (hgd : o.guard = none) (s x : Operand) (t : TypeId)
    (ho : o.op = .call { callee := .builtin .append, args := #[s, x], argTypes := #[t, t] })
    (base : Nat) (e : TypeId) (z : Value) (size bytes : Nat) (ht : P.underlying t = some (.slice e)) (hinfo : (P.info? e).map (fun i => (i.zero, i.size, i.bytes)) = some (some z, size, bytes))
    (hzs : z.cells.size = size) (hsz : 0 < size)
    (v : Value) (n : Nat) (xs : List Value) (hs : a.eval s = v) (hown : w.ownsRow base e size v n xs)
    (ad : Option Addr) (m c : Nat) (news : List Value) (hx : a.eval x = .slice ad m c)
    (h : ∀ v' w', w'.ownsRow base e size v' (n + m) (xs ++ news) → Only (fun k => base ≤ k) w w' → wpList P ops Q rest (a.put o.dst v') w')
    (hl : news.length = m * size) (hnone : ad = none → m = 0 ∧ c = 0)
    (hnews : ∀ b, ad = some b → ∀ j u, news[j]? = some u → w.cell? (b.add j) = some u) (h1 : ∀ u ∈ news, u.oneCell' = true)
    (h63 : n + m ≤ maxLen) (hbytes : (n + m) * bytes ≤ 140737488355328) (hbase : base ≤ w.heap.size)
    : wpList P ops Q (o :: rest) a w := by
  obtain ⟨i, hi, hz0, hz1, hz2⟩ := info_parts hinfo
  cases ad with
  | some b => exact wpList_append_own w hgd s x t ho base e i z size bytes ht hi hz0 hz1 hz2 hzs hsz v n xs hs hown b m c news hx hl (hnews b rfl) h1 h63 hbytes hbase fun v' w' h2 h3 _ => h v' w' h2 (own_base hown h3)
  | none =>
    obtain ⟨rfl, rfl⟩ := hnone rfl
    obtain rfl : news = [] := List.eq_nil_of_length_eq_zero (by simpa using hl)
    refine wpList_plain hgd fun K hK' => ?_
    have hrun := run_append_owned_none (P := P) w base t o.type e i size ht hi v n xs hown
    unfold Oper.wp
    simp [execOp, ho, resolve, invoke, builtin, hs, hx, hrun, Result.andThen]
    exact hK' _ _ (h v w (by simpa using hown) (Only.refl _ _))

/-- 'append(v, u)': one element, which lies in a new block of its own. -/
theorem app_one {P : Program} {W : World} {ops : Array Oper} {rest : List Oper} {o : Oper} {a : Act} {Q : Exit → Act → World → Prop} (news : List Value) (hgd : o.guard = none) (s x : Operand) (t : TypeId)
    (ho : o.op = .call { callee := .builtin .append, args := #[s, x], argTypes := #[t, t] })
    (base : Nat) (e : TypeId) (z : Value) (size bytes : Nat) (ht : P.underlying t = some (.slice e)) (hinfo : (P.info? e).map (fun i => (i.zero, i.size, i.bytes)) = some (some z, size, bytes))
    (hzs : z.cells.size = size) (hsz : 0 < size)
    (v : Value) (n : Nat) (xs : List Value) (hs : a.eval s = v) (hown : W.ownsRow base e size v n xs)
    (hx : a.eval x = .slice (some ⟨W.heap.size, 0, none⟩) 1 1)
    (h : ∀ v' w', w'.ownsRow base e size v' (n + 1) (xs ++ news) → Only (fun k => base ≤ k) W w' → wpList P ops Q rest (a.put o.dst v') w')
    (hl : news.length = size) (h1 : ∀ u ∈ news, u.oneCell' = true)
    (h63 : n + 1 ≤ maxLen) (hbytes : (n + 1) * bytes ≤ 140737488355328) (hbase : base ≤ W.heap.size)
    : wpList P ops Q (o :: rest) a (W.alloc (.cells news.toArray e)) := by
  refine app_any hgd s x t ho base e z size bytes ht hinfo hzs hsz v n xs hs (hown.alloc _) _ 1 1 news hx (fun v' w' h2 h3 => h v' w' h2 (((Only.refl _ W).alloc _).same h3)) (by simpa using hl) (by intro h; cases h) ?_ h1 h63 hbytes (by simp; omega)
  intro b hb j u hu
  injection hb with hb
  subst hb
  have : (⟨W.heap.size, 0, none⟩ : Addr).add j = ⟨W.heap.size, j, none⟩ := by unfold Addr.add; split <;> simp_all
  rw [this, blk_cells (blk_new _ _)]
  simpa using hu

/-- A slice of n values of one cell each: nil, empty, or at an address where its cells lie. -/
def Sl {α : Type} (w : World) (enc : α → Value) (v : Value) (l : List α) : Prop :=
  ∃ ad c, v = .slice ad l.length c ∧ l.length ≤ c ∧ c ≤ maxLen ∧ (ad = none → c = 0) ∧ (0 < l.length → ∃ b off, ad = some ⟨b, off, none⟩ ∧ ∀ i (h : i < l.length), w.cell? ⟨b, off + i, none⟩ = some (enc l[i]))
theorem own_sl {α : Type} {w : World} {base : Nat} {e : TypeId} {v : Value} {n : Nat} {l : List α} {enc : α → Value} (h : w.ownsRow base e 1 v n (l.map enc)) : Sl w enc v l := by
  have hn : l.length = n := by simpa using h.1
  subst hn
  rcases h.2 with ⟨rfl, h0⟩ | ⟨g, cap, cur, rfl, _, hg, hnc, hm, _, htake⟩
  · have hl : l = [] := List.eq_nil_of_length_eq_zero h0
    subst hl
    exact ⟨none, 0, rfl, by simp, by simp, fun _ => rfl, fun h => absurd h (by simp)⟩
  · refine ⟨_, _, rfl, hnc, hm, (by intro h; cases h), fun _ => ⟨g, 0, rfl, fun i hi => ?_⟩⟩
    rw [Nat.zero_add, blk_cells hg]
    have := congrArg (fun l => l[i]?) htake
    simpa [List.getElem?_take, hi] using this
theorem Sl.only {α : Type} {S : Nat → Prop} {w w' : World} {v : Value} {l : List α} {enc : α → Value} (h : Sl w enc v l) (ho : Only S w w') (hS : ∀ b, S b → w.heap.size ≤ b) : Sl w' enc v l := by
  obtain ⟨ad, c, rfl, h1, h2, h3, h4⟩ := h
  refine ⟨ad, c, rfl, h1, h2, h3, fun h0 => ?_⟩
  obtain ⟨b, off, rfl, hc⟩ := h4 h0
  refine ⟨b, off, rfl, fun i hi => ?_⟩
  have hlt := World.block_lt_of_cell? w _ (hc i hi)
  exact ho.cell_eq (hc i hi) (fun hb => by have := hS b hb; simp at hlt; omega)
theorem Sl.same {α : Type} {w w' : World} {v : Value} {l : List α} {enc : α → Value} (h : Sl w enc v l) (ho : Same w w') : Sl w' enc v l := h.only ho (fun _ h => h.elim)
/-- What is read of a slice, as 'app_any' asks for it. -/
theorem Sl.news {α : Type} {w : World} {ad : Option Addr} {n c : Nat} {l : List α} {enc : α → Value} (h : Sl w enc (.slice ad n c) l) :
    n = l.length ∧ (ad = none → n = 0 ∧ c = 0) ∧ ∀ b, ad = some b → ∀ j u, (l.map enc)[j]? = some u → w.cell? (b.add j) = some u := by
  obtain ⟨ad', c', he, h1, h2, h3, h4⟩ := h
  simp only [Value.slice.injEq] at he
  obtain ⟨rfl, rfl, rfl⟩ := he
  refine ⟨rfl, fun h => ⟨by have := h3 h; omega, h3 h⟩, fun b hb j u hu => ?_⟩
  have hj : j < l.length := by
    rcases Nat.lt_or_ge j l.length with h | h
    · exact h
    · rw [List.getElem?_eq_none (by simpa using h)] at hu; cases hu
  obtain ⟨b', off, e, hc⟩ := h4 (by omega)
  obtain rfl : b = ⟨b', off, none⟩ := by rw [hb] at e; exact Option.some.inj e
  have : (⟨b', off, none⟩ : Addr).add j = ⟨b', off + j, none⟩ := by unfold Addr.add; split <;> simp_all
  rw [this, hc j hj]
  simpa [hj] using hu

theorem cell_spot {w : World} {a : Addr} {v : Value} (h : w.cell? a = some v) : a.spot = none := by
  unfold World.cell? at h
  cases e : a.spot with
  | none => rfl
  | some n => split at h <;> simp [e] at h
open Go.ChangeShapes Go.WideShapes Go.ChangeAt in
/-- A []string that came in. -/
theorem sl_strings {H : Type} {enc : TypeId × Value → H} {P : Program} {w : World} {t e : TypeId} {a : Option Addr} {len cap : Nat} {d : DataW H} {ps : List MemPlace}
    (ht : P.underlying t = some (.slice e)) (he : P.underlying e = some .string) (hc : P.cellsOf e = 1) (h : DataW.Trod enc P w 0 (fun _ => true) true t (.slice a len cap) d ps) :
    ∃ l : List ByteArray, Sl w .string (.slice a len cap) l ∧ ∀ s ∈ l, s.size ≤ maxLen := by
  obtain ⟨fuel, hf⟩ := h
  rcases open_strings ht he hc hf with ⟨hcs, _⟩ | ⟨x, l, c, ss, hcs, _, hl, hm, hz, _, hcell, hws⟩
  · simp [Value.cells] at hcs
    obtain ⟨rfl, rfl, rfl⟩ := hcs
    exact ⟨[], ⟨none, 0, rfl, by simp, by simp, fun _ => rfl, fun h => absurd h (by simp)⟩, by simp⟩
  · simp [Value.cells] at hcs
    obtain ⟨rfl, rfl, rfl⟩ := hcs
    have hz' : ss.length = cap := by simpa using hz
    have hlen : (ss.take len).length = len := by simp; omega
    refine ⟨ss.take len, ⟨some x, cap, by rw [hlen], by rw [hlen]; exact hl, hm, (by intro h; cases h), fun h0 => ?_⟩, fun s hs => hws s (List.mem_of_mem_take hs)⟩
    obtain ⟨b, off, spot⟩ := x
    have := cell_spot (hcell 0 (by omega))
    simp only [Addr.add, if_true] at this
    subst this
    refine ⟨b, off, rfl, fun i hi => ?_⟩
    have := hcell i (by omega)
    have e1 : (⟨b, off, none⟩ : Addr).add i = ⟨b, off + i, none⟩ := by unfold Addr.add; split <;> simp_all
    rw [e1] at this
    rw [this]
    simp [List.getD, show i < ss.length by omega]
end Go.Proofs.Ytpgbnjneoejebaa
