import Derived.Test.YtjegohibpojneaaVdMap
set_option linter.unusedVariables false
set_option linter.unusedSimpArgs false
namespace Go.Proofs.Ytjegohibpojneaa
open Go.RowKit
open Go.Maps (Keyed)

/-! a range over a map with a string's keys -/
def lS (left : Lit → Bool) (k : List UInt8) : Bool := left (.string k)
theorem has_getS {α : Type} {F : EnS α} {k : List UInt8} {x : α} (h : getS F k = some x) : (k, x) ∈ F := by
  unfold getS at h
  cases hf : F.find? (fun p => p.1 == k) with
  | none => rw [hf] at h; cases h
  | some p =>
    rw [hf] at h
    have h1 := List.mem_of_find?_eq_some hf
    have h2 := List.find?_some hf
    simp only [Option.map_some, Option.some.injEq] at h
    simp only [beq_iff_eq] at h2
    subst h h2
    exact h1
theorem getS_has {α : Type} {k : List UInt8} {x : α} : ∀ {F : EnS α}, SortS F → (k, x) ∈ F → getS F k = some x
  | [], _, h => absurd h (by simp)
  | y :: r, hs, h => by
    obtain ⟨h1, h2⟩ := List.pairwise_cons.1 hs
    unfold getS
    rw [List.find?_cons]
    rcases List.mem_cons.1 h with rfl | h
    · simp
    · have hne : (y.1 == k) = false := by
        cases hc : y.1 == k with
        | false => rfl
        | true =>
          have := h1 _ h
          rw [show y.1 = k by simpa using hc] at this
          simp only at this
          rw [WideAt.bytes_irrefl] at this
          cases this
      rw [hne]
      exact getS_has h2 h
/-- The step of a range, at the operation. -/
theorem mps_next {α : Type} (enc : α → Value) {P : Program} (w : World) {ops : Array Oper} {rest : List Oper} {o : Oper} {a : Act} {Q : Exit → Act → World → Prop}
    (hg : o.guard = none) (it : Operand) (hop : o.op = Op.next it false) (k : TypeId) (hk : P.underlying k = some .string) (b r : Nat) (F : EnS α) (left : Lit → Bool) (cnt : Nat)
    (hit : a.eval it = .pointer (some ⟨r, 0, none⟩)) (h : w.ranges P k mS b r F.length (.map (F.map (encE enc))) left cnt)
    (hDone : (∀ kl, left kl = false) → wpList P ops Q rest (a.put o.dst (.tuple #[.bool false])) w)
    (hMore : ∀ (s : ByteArray) (x : α) (w' : World) (cnt' : Nat), s.size ≤ maxLen → left (.string s.data.toList) = true → getS F s.data.toList = some x → w'.ranges P k mS b r F.length (.map (F.map (encE enc))) (fun z => left z && !z.sameKey (.string s.data.toList)) cnt' → cnt' < cnt →
      Only (· = r) w w' → w'.heap.size = w.heap.size → (Instr.entry (.pointer (some ⟨r, 0, none⟩))).run P w' = .ok (.tuple #[.string s, enc x]) w' → wpList P ops Q rest (a.put o.dst (.tuple #[.bool true, .string s, enc x])) w') :
    wpList P ops Q (o :: rest) a w := by
  refine wpList_next_ranges w hg it hop k (Maps.string_keyed hk) mS (fun s : ByteArray => Value.string s) (fun v : Value => v) (fun key kl hkey => ?_) (fun v y _ => ⟨v, rfl⟩) b r F.length _ left cnt hit h (fun _ hl => hDone hl) (fun s c kl y w' cnt' hkey hlk hv hat hrg hlt hgr hsz hen => ?_)
  · obtain ⟨s, h1, _, _⟩ := WideMaps.string_of_keyOf hk hkey
    exact ⟨s, h1⟩
  · obtain ⟨s', h1, rfl, h3⟩ := WideMaps.string_of_keyOf hk hkey
    obtain rfl : s = s' := by injection h1
    simp only [mS, Option.some.injEq] at hv
    subst hv
    cases hgs : getS F s.data.toList with
    | none =>
      have e1 := hat (.held (.bool true))
      have e2 := hat (.held (.bool false))
      rw [at_enc, hgs] at e1 e2
      rw [← e1] at e2
      simp at e2
    | some x =>
      have e1 := hat (.held undef)
      rw [at_enc, hgs] at e1
      simp only [Option.map_some, Option.getD_some, DataW.held.injEq] at e1
      subst e1
      exact hMore s x w' cnt' h3 hlk hgs hrg hlt ((Only.refl _ w).grown hgr (fun i hi _ => (Option.some.inj hi).symm)) hsz hen
/-- 'range m', at the operation. -/
theorem mps_range {α : Type} (enc : α → Value) {P : Program} (w : World) {ops : Array Oper} {rest : List Oper} {o : Oper} {a : Act} {Q : Exit → Act → World → Prop}
    (hg : o.guard = none) (m : Operand) (t : TypeId) (hop : o.op = Op.range t m) (k e : TypeId) (hk : P.underlying k = some .string) (ht : P.underlying t = some (.map k e)) (b : Nat) (F : EnS α)
    (hm : a.eval m = .map (some b)) (h : MpS enc P k w b F)
    (hK : ∀ w' left, (∀ p ∈ F, left (.string p.1) = true) → w'.ranges P k mS b w.heap.size F.length (.map (F.map (encE enc))) left F.length → Same w w' → w'.heap.size = w.heap.size + 1 → wpList P ops Q rest (a.put o.dst (.pointer (some ⟨w.heap.size, 0, none⟩))) w') :
    wpList P ops Q (o :: rest) a w := by
  refine wpList_range_own w hg m t hop k e (Maps.string_keyed hk) ht mS b F.length _ hm h (fun w' hr hgr hsz => ?_)
  rw [Maps.size_eq, List.length_map] at hr
  refine hK w' _ (fun p hp => ?_) hr ((Only.refl _ w).grown hgr (fun i hi _ => by cases hi)) hsz
  rw [any_enc, getS_has (MpS.sort h hk) (show (p.1, p.2) ∈ F from hp)]
  rfl
/-- What is counted of those that have come. -/
def sumS {α : Type} (f : α → Nat) (left : Lit → Bool) (F : EnS α) : Nat := (F.map fun p => if left (.string p.1) then 0 else f p.2).sum
theorem sum_start {α : Type} (f : α → Nat) (left : Lit → Bool) : ∀ (F : EnS α), (∀ p ∈ F, left (.string p.1) = true) → sumS f left F = 0
  | [], _ => rfl
  | p :: r, h => by
    have := sum_start f left r (fun q hq => h q (List.mem_cons_of_mem _ hq))
    unfold sumS at this ⊢
    rw [List.map_cons, List.sum_cons, this, if_pos (h p List.mem_cons_self)]
theorem sum_end {α : Type} (f : α → Nat) (left : Lit → Bool) (F : EnS α) (h : ∀ kl, left kl = false) : sumS f left F = (F.map fun p => f p.2).sum := by
  unfold sumS
  congr 1
  refine List.map_congr_left (fun p _ => ?_)
  rw [h]; rfl
theorem sum_miss {α : Type} (f : α → Nat) (left : Lit → Bool) (k : List UInt8) : ∀ (F : EnS α), (∀ p ∈ F, p.1 ≠ k) → sumS f (fun z => left z && !z.sameKey (.string k)) F = sumS f left F
  | [], _ => rfl
  | p :: r, h => by
    have h1 := sum_miss f left k r (fun q hq => h q (List.mem_cons_of_mem _ hq))
    have h2 : (Lit.string p.1).sameKey (.string k) = false := by
      show (p.1 == k) = false
      simpa using h p List.mem_cons_self
    unfold sumS at h1 ⊢
    rw [List.map_cons, List.sum_cons, h1, List.map_cons, List.sum_cons]
    simp [h2]
theorem sum_step {α : Type} (f : α → Nat) (left : Lit → Bool) (k : List UInt8) (x : α) : ∀ (F : EnS α), SortS F → (k, x) ∈ F → left (.string k) = true → sumS f (fun z => left z && !z.sameKey (.string k)) F = sumS f left F + f x
  | [], _, h, _ => absurd h (by simp)
  | p :: r, hs, h, hl => by
    obtain ⟨h1, h2⟩ := List.pairwise_cons.1 hs
    rcases List.mem_cons.1 h with rfl | h
    · have hm := sum_miss f left k r (fun q hq e => by
        have := h1 q hq
        rw [e] at this
        simp only at this
        rw [WideAt.bytes_irrefl] at this
        cases this)
      have h3 : (Lit.string k).sameKey (.string k) = true := by show (k == k) = true; simp
      unfold sumS at hm ⊢
      rw [List.map_cons, List.sum_cons, hm, List.map_cons, List.sum_cons]
      simp [h3, hl]
      omega
    · have hm := sum_step f left k x r h2 h hl
      have h3 : (Lit.string p.1).sameKey (.string k) = false := by
        show (p.1 == k) = false
        cases hc : p.1 == k with
        | false => rfl
        | true =>
          have := h1 _ h
          rw [show p.1 = k by simpa using hc] at this
          simp only at this
          rw [WideAt.bytes_irrefl] at this
          cases this
      unfold sumS at hm ⊢
      rw [List.map_cons, List.sum_cons, hm, List.map_cons, List.sum_cons]
      simp [h3]
      omega
end Go.Proofs.Ytjegohibpojneaa
