import Derived.Test.YtpgbnjneoejebaaIMap
set_option linter.unusedVariables false
set_option linter.unusedSimpArgs false
namespace Go.Proofs.Ytpgbnjneoejebaa
open Go.RowKit
open Go.Maps (Keyed)

/-! a range over a map with int keys -/
theorem has_getI {α : Type} {F : EnI α} {k : Int} {x : α} (h : getI F k = some x) : (k, x) ∈ F := by
  unfold getI at h
  cases hf : F.find? (fun p => p.1 == k) with
  | none => rw [hf] at h; cases h
  | some p =>
    rw [hf] at h
    have h1 := List.mem_of_find?_eq_some hf
    have h2 := List.find?_some hf
    simp only [Option.map_some, Option.some.injEq] at h
    simp only [beq_iff_eq] at h2
    subst h h2
    exact h1
theorem getI_has {α : Type} {k : Int} {x : α} : ∀ {F : EnI α}, SortI F → (k, x) ∈ F → getI F k = some x
  | [], _, h => absurd h (by simp)
  | y :: r, hs, h => by
    obtain ⟨h1, h2⟩ := List.pairwise_cons.1 hs
    unfold getI
    rw [List.find?_cons]
    rcases List.mem_cons.1 h with rfl | h
    · simp
    · have hne : (y.1 == k) = false := by
        cases hc : y.1 == k with
        | false => rfl
        | true =>
          have := h1 _ h
          rw [show y.1 = k by simpa using hc] at this
          simp only at this
          exact absurd this (Int.lt_irrefl _)
      rw [hne]
      exact getI_has h2 h
/-- The step of a range, at the operation. -/
theorem mpj_next {α : Type} (enc : α → Value) {P : Program} (w : World) {ops : Array Oper} {rest : List Oper} {o : Oper} {a : Act} {Q : Exit → Act → World → Prop}
    (hg : o.guard = none) (it : Operand) (hop : o.op = Op.next it false) (k : TypeId) (hk : P.underlying k = some (.int .i64)) (b r : Nat) (F : EnI α) (left : Lit → Bool) (cnt : Nat)
    (hit : a.eval it = .pointer (some ⟨r, 0, none⟩)) (h : w.ranges P k mJ b r F.length (.map (F.map (encJ enc))) left cnt)
    (hDone : (∀ kl, left kl = false) → wpList P ops Q rest (a.put o.dst (.tuple #[.bool false])) w)
    (hMore : ∀ (s : Int) (x : α) (w' : World) (cnt' : Nat), (Lit.int .i64 s).wf = true → left (.int .i64 s) = true → getI F s = some x → w'.ranges P k mJ b r F.length (.map (F.map (encJ enc))) (fun z => left z && !z.sameKey (.int .i64 s)) cnt' → cnt' < cnt →
      Only (· = r) w w' → w'.heap.size = w.heap.size → (Instr.entry (.pointer (some ⟨r, 0, none⟩))).run P w' = .ok (.tuple #[.int .i64 s, enc x]) w' → wpList P ops Q rest (a.put o.dst (.tuple #[.bool true, .int .i64 s, enc x])) w') :
    wpList P ops Q (o :: rest) a w := by
  refine wpList_next_ranges w hg it hop k (Maps.int_keyed hk) mJ (fun s : Int => Value.int .i64 s) (fun v : Value => v) (fun key kl hkey => ?_) (fun v y _ => ⟨v, rfl⟩) b r F.length _ left cnt hit h (fun _ hl => hDone hl) (fun s c kl y w' cnt' hkey hlk hv hat hrg hlt hgr hsz hen => ?_)
  · obtain ⟨s, h1, _, _⟩ := Maps.keyOf_int_inv hk hkey
    exact ⟨s, h1⟩
  · obtain ⟨s', h1, rfl, h3⟩ := Maps.keyOf_int_inv hk hkey
    obtain rfl : s = s' := by injection h1
    simp only [mJ, Option.some.injEq] at hv
    subst hv
    cases hgs : getI F s with
    | none =>
      have e1 := hat (.held (.bool true))
      have e2 := hat (.held (.bool false))
      rw [at_encI, hgs] at e1 e2
      rw [← e1] at e2
      simp at e2
    | some x =>
      have e1 := hat (.held undef)
      rw [at_encI, hgs] at e1
      simp only [Option.map_some, Option.getD_some, DataW.held.injEq] at e1
      subst e1
      exact hMore s x w' cnt' h3 hlk hgs hrg hlt ((Only.refl _ w).grown hgr (fun i hi _ => (Option.some.inj hi).symm)) hsz hen
/-- The loop stays where it is while other blocks change. -/
theorem ranges_only {H : Type} {P : Program} {k : TypeId} {R : Value → Option (DataW H × List MemPlace)} {w w' : World} {b r n : Nat} {D : DataW H} {left : Lit → Bool} {cnt : Nat} {S : Nat → Prop} (h : w.ranges P k R b r n D left cnt) (ho : Only S w w') (hb : ¬ S b) (hr : ¬ S r) : w'.ranges P k R b r n D left cnt := by
  obtain ⟨es, clock, since, seen, c0, h1, F, hs, hD, h2, rest⟩ := h
  exact ⟨es, clock, since, seen, c0, ho.heap h1 hb, F, hs, hD, ho.heap h2 hr, rest⟩
/-- What has been come to, amid a range. -/
structure CameI {α : Type} (F : EnI α) (left : Lit → Bool) (l : List (Int × α)) : Prop where
  nodup : l.Nodup
  mem : ∀ p, p ∈ l ↔ p ∈ F ∧ left (.int .i64 p.1) = false
theorem cameI_start {α : Type} {F : EnI α} {left : Lit → Bool} (h : ∀ p ∈ F, left (.int .i64 p.1) = true) : CameI F left [] :=
  ⟨List.nodup_nil, fun p => ⟨fun h => by simp at h, fun ⟨h1, h2⟩ => by rw [h p h1] at h2; cases h2⟩⟩
theorem cameI_step {α : Type} {F : EnI α} {left : Lit → Bool} {l : List (Int × α)} (h : CameI F left l) (hs : SortI F) {s : Int} {x : α} (hg : getI F s = some x) (hl : left (.int .i64 s) = true) :
    CameI F (fun z => left z && !z.sameKey (.int .i64 s)) (l ++ [(s, x)]) := by
  have hin : (s, x) ∉ l := fun hm => by have := (h.mem _).1 hm; simp only at this; rw [hl] at this; cases this.2
  refine ⟨?_, fun p => ?_⟩
  · rw [List.nodup_append]
    refine ⟨h.nodup, by simp, fun a ha b hb e => ?_⟩
    simp only [List.mem_singleton] at hb
    subst hb; subst e
    exact hin ha
  · rw [List.mem_append, h.mem, List.mem_singleton]
    simp only [same_int, Bool.and_eq_false_iff, Bool.not_eq_false', beq_iff_eq]
    constructor
    · rintro (⟨h1, h2⟩ | rfl)
      · exact ⟨h1, .inl h2⟩
      · exact ⟨has_getI hg, .inr rfl⟩
    · rintro ⟨h1, h2 | h2⟩
      · exact .inl ⟨h1, h2⟩
      · have h3 := getI_has hs (show (p.1, p.2) ∈ F from h1)
        rw [h2, hg] at h3
        exact .inr (Prod.ext h2 (Option.some.inj h3).symm)
theorem cameI_end {α : Type} {F : EnI α} {left : Lit → Bool} {l : List (Int × α)} (h : CameI F left l) (hs : SortI F) (he : ∀ kl, left kl = false) : l.Perm F := by
  refine (List.perm_ext_iff_of_nodup h.nodup (List.Pairwise.imp (fun {a b} h e => by subst e; exact absurd h (Int.lt_irrefl _)) hs)).2 (fun p => ?_)
  rw [h.mem, he]; simp
theorem cameI_len {α : Type} {F : EnI α} {left : Lit → Bool} {l : List (Int × α)} (h : CameI F left l) (hs : SortI F) : l.length ≤ F.length := by
  have hn : F.Nodup := List.Pairwise.imp (fun {a b} h e => by subst e; exact absurd h (Int.lt_irrefl _)) hs
  have hp : l.Perm (F.filter fun p => !left (.int .i64 p.1)) := (List.perm_ext_iff_of_nodup h.nodup (hn.sublist List.filter_sublist)).2 (fun p => by rw [h.mem, List.mem_filter]; simp)
  rw [hp.length_eq]
  exact List.length_filter_le _ _
/-- 'range m', at the operation. -/
theorem mpj_range {α : Type} (enc : α → Value) {P : Program} (w : World) {ops : Array Oper} {rest : List Oper} {o : Oper} {a : Act} {Q : Exit → Act → World → Prop}
    (hg : o.guard = none) (m : Operand) (t : TypeId) (hop : o.op = Op.range t m) (k e : TypeId) (hk : P.underlying k = some (.int .i64)) (ht : P.underlying t = some (.map k e)) (b : Nat) (F : EnI α)
    (hm : a.eval m = .map (some b)) (h : MpJ enc P k w b F)
    (hK : ∀ w' left, (∀ p ∈ F, left (.int .i64 p.1) = true) → w'.ranges P k mJ b w.heap.size F.length (.map (F.map (encJ enc))) left F.length → Same w w' → w'.heap.size = w.heap.size + 1 → wpList P ops Q rest (a.put o.dst (.pointer (some ⟨w.heap.size, 0, none⟩))) w') :
    wpList P ops Q (o :: rest) a w := by
  refine wpList_range_own w hg m t hop k e (Maps.int_keyed hk) ht mJ b F.length _ hm h (fun w' hr hgr hsz => ?_)
  rw [Maps.size_eq, List.length_map] at hr
  refine hK w' _ (fun p hp => ?_) hr ((Only.refl _ w).grown hgr (fun i hi _ => by cases hi)) hsz
  rw [any_encI, getI_has (MpJ.sort h hk) (show (p.1, p.2) ∈ F from hp)]
  rfl
end Go.Proofs.Ytpgbnjneoejebaa
