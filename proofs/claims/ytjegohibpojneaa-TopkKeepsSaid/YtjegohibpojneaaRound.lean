import Derived.Test.YtjegohibpojneaaSl
import Derived.RangeFuncNested
import Derived.RangeFuncBound
import Derived.RangeFuncCalls
import Derived.RangeFuncLeaves
import Derived.RangeFuncBox
import Derived.OwnWalkIn
import Derived.TacticsInMore
import Derived.LoopNIn
import Derived.LoopIn
import Derived.OrdersIn
import Derived.OrdersHeld
import Derived.Deep.AppendLies
set_option linter.unusedVariables false
set_option linter.unusedSimpArgs false
namespace Go.Proofs.Ytjegohibpojneaa
open Go.RowKit

/-! a region that draws its order, in a round of a range over a function: by the plain laws of orders -/
def noDefer (o : Oper) : Bool := match o.op with | .defer _ => false | _ => true
theorem noDefer_at {ops : Array Oper} (h : ops.all noDefer = true) {i : Nat} {o : Oper} (ho : ops[i]? = some o) : ∀ c, o.op ≠ .defer c := by
  intro c hc
  have h1 := (Array.all_eq_true'.1 h) o (Array.mem_of_getElem? ho)
  unfold noDefer at h1
  rw [hc] at h1
  cases h1
theorem rows_wide {n : Nat} {P : Program} {row : String} {args : Array Value} {w : World} {R : Value → World → Prop} (l : Nat) (h : Rows P row args w R) : RowsIn (Fence.wide.inRound l) n P row args w R := fun c cs _ =>
  let ⟨v, w', r, s⟩ := h c cs
  ⟨v, w', r, stepsIn_wide.2 s⟩
theorem opIn_of_op {P : Program} {ops : Array Oper} {Q : Exit → Act → World → Prop} {i : Nat} {K K' : Act → World → Prop} {a : Act} {w : World} (l m : Nat) (hd : ops.all noDefer = true) (hq : ¬ LetsOut Q) (hk : ∀ a w, K a w → K' a w)
    (h : wpOp P ops Q i K a w) : wpOpIn (Fence.wide.inRound l) m P ops Q i K' a w := by
  unfold wpOp at h
  unfold wpOpIn
  cases ho : ops[i]? with
  | none => rw [ho] at h; exact hk _ _ h
  | some o =>
    simp only [ho] at h ⊢
    by_cases hw : Region.wanted o (yielded ops a.tmps) = true
    · rw [if_pos hw] at h ⊢
      rcases h with h | ⟨_, hl⟩
      · refine ⟨fun _ _ => trivial, ?_⟩
        rw [Oper.semAt_eq _ _ _ (noDefer_at hd ho)]
        unfold Oper.wp at h
        generalize (execOp a.eval o).run P w = r at *
        cases r with
        | ok x w' =>
          cases x with
          | value v => exact hk _ _ h
          | skip => exact hk _ _ h
          | defer d => exact hk _ _ h
          | enter f args =>
            refine ⟨fun h => (by cases h), CallsIn.inRound l (callsIn_wide.2 (Calls.mono h fun e w'' he => ?_))⟩
            cases e with
            | returned v => exact hk _ _ he
            | panicked c => exact he
            | outgrown => exact he
          | row row args => exact ⟨fun h => (by cases h), rows_wide l (Rows.mono h fun v w'' he => hk _ _ he)⟩
          | _ => exact absurd h (by simp [Oper.upon])
        | halt x w' =>
          cases x with
          | panic v => exact h
          | _ => exact absurd h (by simp [Oper.upon])
      · exact absurd hl hq
    · rw [if_neg hw] at h ⊢
      exact ⟨fun _ _ => trivial, hk _ _ h⟩
theorem anyIn_of_any {P : Program} {md : Region.Mode} {ops : Array Oper} {Q : Exit → Act → World → Prop} (l m : Nat) (hd : ops.all noDefer = true) (hq : ¬ LetsOut Q) : ∀ (fuel : Nat) (listed : Array Bool) (a : Act) (w : World),
    wpAny P md ops Q fuel listed a w → wpAnyIn (Fence.wide.inRound l) m P md ops Q fuel listed a w
  | 0, _, _, _, h => h
  | fuel + 1, listed, a, w, h => ⟨h.1, fun i hi => opIn_of_op l m hd hq (fun a' w' h' => anyIn_of_any l m hd hq fuel _ a' w' h') (h.2 i hi)⟩
/-- The beginning: such a region, of whose orders the plain laws tell. -/
theorem round_held {P : Program} {id : Nat} {ops : Array Oper} {Q : Exit → Act → World → Prop} {a : Act} {w : World} {l m : Nat} (S : World → Prop) (hm : P.follows .mixedOrders = true) (hd : ops.all noDefer = true) (hq : ¬ LetsOut Q)
    (h : wpAnyH P .any ops Q S ops.size (Array.replicate ops.size false) a w.drew) : (Code.region id ops true).wpIn (Fence.wide.inRound l) m P Q a w :=
  wpIn_region_any hm (anyIn_of_any l m hd hq _ _ _ _ (wpAny_of_held _ _ _ _ h))
/-- One operation alone may come up. -/
theorem held_one {P : Program} {md : Region.Mode} {ops : Array Oper} {Q : Exit → Act → World → Prop} {S : World → Prop} {o : Oper} {fuel : Nat} {listed : Array Bool} {a : Act} {w : World} (i : Nat) (hr : Region.ready md ops listed = [i]) (ho : ops[i]? = some o)
    (h : ∀ K : Act → World → Prop, (∀ a' w', S w' → wpAnyH P md ops Q S fuel (listed.setIfInBounds i true) a' w' → K a' w') → if Region.wanted o (yielded ops a.tmps) = true then Oper.wp P o a w K Q else K (a.put o.dst undef) w) :
    wpAnyH P md ops Q S (fuel + 1) listed a w := by
  refine wpAnyH_all hr (by simp) ?_
  intro j hj
  obtain rfl : j = i := by simpa using hj
  unfold wpOp
  simp only [ho]
  have h1 := h (fun a' w' => S w' ∧ wpAnyH P md ops Q S fuel (listed.setIfInBounds j true) a' w') (fun a' w' h1 h2 => ⟨h1, h2⟩)
  by_cases hw : Region.wanted o (yielded ops a.tmps) = true
  · rw [if_pos hw] at h1 ⊢
    exact .inl h1
  · rw [if_neg hw] at h1 ⊢
    exact h1
/-- Two may. -/
theorem held_two {P : Program} {md : Region.Mode} {ops : Array Oper} {Q : Exit → Act → World → Prop} {S : World → Prop} {o1 o2 : Oper} {fuel : Nat} {listed : Array Bool} {a : Act} {w : World} (i j : Nat) (hr : Region.ready md ops listed = [i, j]) (ho1 : ops[i]? = some o1) (ho2 : ops[j]? = some o2)
    (h1 : ∀ K : Act → World → Prop, (∀ a' w', S w' → wpAnyH P md ops Q S fuel (listed.setIfInBounds i true) a' w' → K a' w') → if Region.wanted o1 (yielded ops a.tmps) = true then Oper.wp P o1 a w K Q else K (a.put o1.dst undef) w)
    (h2 : ∀ K : Act → World → Prop, (∀ a' w', S w' → wpAnyH P md ops Q S fuel (listed.setIfInBounds j true) a' w' → K a' w') → if Region.wanted o2 (yielded ops a.tmps) = true then Oper.wp P o2 a w K Q else K (a.put o2.dst undef) w) :
    wpAnyH P md ops Q S (fuel + 1) listed a w := by
  refine wpAnyH_all hr (by simp) ?_
  intro k hk
  have hkk : k = i ∨ k = j := by simpa using hk
  unfold wpOp
  rcases hkk with rfl | rfl
  · simp only [ho1]
    have h1 := h1 (fun a' w' => S w' ∧ wpAnyH P md ops Q S fuel (listed.setIfInBounds k true) a' w') (fun a' w' h1 h2 => ⟨h1, h2⟩)
    by_cases hw : Region.wanted o1 (yielded ops a.tmps) = true
    · rw [if_pos hw] at h1 ⊢
      exact .inl h1
    · rw [if_neg hw] at h1 ⊢
      exact h1
  · simp only [ho2]
    have h1 := h2 (fun a' w' => S w' ∧ wpAnyH P md ops Q S fuel (listed.setIfInBounds k true) a' w') (fun a' w' h1 h2 => ⟨h1, h2⟩)
    by_cases hw : Region.wanted o2 (yielded ops a.tmps) = true
    · rw [if_pos hw] at h1 ⊢
      exact .inl h1
    · rw [if_neg hw] at h1 ⊢
      exact h1
/-- One more on a row, at a step of a region that draws: only the row's own block has changed. -/
theorem step_lies {P : Program} (w : World) {ops : Array Oper} {o : Oper} {a : Act} {K : Act → World → Prop} {Q : Exit → Act → World → Prop} {E : Prop} (hgd : o.guard = none) (s x : Operand) (t : TypeId)
    (ho : o.op = .call { callee := .builtin .append, args := #[s, x], argTypes := #[t, t] })
    (base : Nat) (e : TypeId) (z : Value) (size bytes : Nat) (ht : P.underlying t = some (.slice e)) (hinfo : (P.info? e).map (fun i => (i.zero, i.size, i.bytes)) = some (some z, size, bytes)) (hzs : z.cells.size = size) (hsz : 0 < size)
    (v : Value) (n : Nat) (xs : List Value) (hs : a.eval s = v) (hown : w.ownsRow base e size v n xs)
    (B : Nat) (us : List Value) (hx : a.eval x = .slice (some ⟨B, 0, none⟩) 1 1) (hB : w.heap[B]? = some (.cells us.toArray e (0, 0))) (hl : us.length = size) (h1 : ∀ u ∈ us, u.oneCell' = true)
    (h63 : n + 1 ≤ maxLen) (hbytes : (n + 1) * bytes ≤ 140737488355328) (hbase : base ≤ w.heap.size)
    (h : ∀ g cap w', w'.ownsRow base e size (.slice (some ⟨g, 0, none⟩) (n + 1) cap) (n + 1) (xs ++ us) → Only (fun k => v.ownBlock = some k) w w' → (v.ownBlock = some g ∨ w.heap.size ≤ g) → K (a.put o.dst (.slice (some ⟨g, 0, none⟩) (n + 1) cap)) w') :
    if Region.wanted o (yielded ops a.tmps) = true then Oper.wp P o a w K Q else E := by
  obtain ⟨i, hi, hz0, hz1, hz2⟩ := info_parts hinfo
  refine step_append_lies w hgd s x t ho base e i z size bytes ht hi hz0 hz1 hz2 hzs hsz v n xs hs hown ⟨B, 0, none⟩ 1 1 us hx (by omega) (World.news_of_block hB) h1 (by omega) h63 hbytes hbase w.heap.size rfl ?_
  intro g cap w' h2 hg hl _
  exact h g cap w' h2 ((Only.refl _ w).grown hg (fun k hk _ => hk)) (hl.imp id (fun h => by omega))
end Go.Proofs.Ytjegohibpojneaa
