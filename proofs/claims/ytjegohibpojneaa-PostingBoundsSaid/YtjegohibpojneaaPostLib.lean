import Derived.Test.YtjegohibpojneaaDocReadP
import Derived.Test.YtjegohibpojneaaDocPrint
import Derived.Deep.RegionLaw
set_option linter.unusedVariables false
set_option linter.unusedSimpArgs false
namespace Go.Proofs.Ytjegohibpojneaa
open Go.RowKit
attribute [local go_sem ↓] Go.wp_at_zero Go.wp_at_succ

/-- One more on a row of structs, at a step of a region that draws. -/
theorem step_oneP {P : Program} (w : World) {ops : Array Oper} {o : Oper} {a : Act} {K : Act → World → Prop} {Q : Exit → Act → World → Prop} {E : Prop} (hgd : o.guard = none) (s x : Operand) (t : TypeId)
    (ho : o.op = .call { callee := .builtin .append, args := #[s, x], argTypes := #[t, t] })
    (base : Nat) (e : TypeId) (z : Value) (size bytes : Nat) (ht : P.underlying t = some (.slice e)) (hinfo : (P.info? e).map (fun i => (i.zero, i.size, i.bytes)) = some (some z, size, bytes)) (hzs : z.cells.size = size) (hsz : 0 < size)
    (v : Value) (n : Nat) (xs : List Value) (hs : a.eval s = v) (hown : w.ownsRow base e size v n xs)
    (B : Nat) (us : List Value) (hx : a.eval x = .slice (some ⟨B, 0, none⟩) 1 1) (hB : w.heap[B]? = some (.cells us.toArray e (0, 0))) (hl : us.length = size) (h1 : ∀ u ∈ us, u.oneCell' = true)
    (h63 : n + 1 ≤ maxLen) (hbytes : (n + 1) * bytes ≤ 140737488355328) (hbase : base ≤ w.heap.size)
    (h : ∀ g cap w', w'.ownsRow base e size (.slice (some ⟨g, 0, none⟩) (n + 1) cap) (n + 1) (xs ++ us) → Only (fun k => base ≤ k) w w' → K (a.put o.dst (.slice (some ⟨g, 0, none⟩) (n + 1) cap)) w') :
    if Region.wanted o (yielded ops a.tmps) = true then Oper.wp P o a w K Q else E := by
  obtain ⟨i, hi, hz0, hz1, hz2⟩ := info_parts hinfo
  refine step_append_lies w hgd s x t ho base e i z size bytes ht hi hz0 hz1 hz2 hzs hsz v n xs hs hown ⟨B, 0, none⟩ 1 1 us hx (by omega) (World.news_of_block hB) h1 (by omega) h63 hbytes hbase w.heap.size rfl ?_
  intro g cap w' h2 hg hl _
  exact h g cap w' h2 (own_base hown hg)
theorem Sl.offRdP {w : World} {v : Value} {l : List Int} {b : Nat} {st : RS} (h : Sl w num v l) (hR : Rd w b st) : ∀ b' off n c, 0 < l.length → v = .slice (some ⟨b', off, none⟩) n c → ¬ b' = b := by
  rintro b' off n c h0 rfl rfl
  obtain ⟨ad, c', e, _, _, _, h4⟩ := h
  obtain ⟨b2, off2, rfl, hc⟩ := h4 h0
  simp only [Value.slice.injEq, Option.some.injEq, Addr.mk.injEq] at e
  obtain ⟨⟨rfl, rfl, _⟩, _, _⟩ := e
  have h5 := hc 0 h0
  rw [blk_cells hR] at h5
  generalize off + 0 = k at h5
  match k, h5 with
  | 0, h5 => simp at h5
  | 1, h5 => simp at h5
  | k + 2, h5 => simp at h5
theorem Sl.pastP {w w' : World} {v : Value} {l : List Int} {b : Nat} {st : RS} (h : Sl w num v l) (hR : Rd w b st) (ho : Only (· = b) w w') : Sl w' num v l := h.keep2 ho (h.offRdP hR)
theorem own_blkP {w : World} {g : Nat} (n size : Nat) {cs : Array Value} {e : TypeId} (h : w.heap[g]? = some (.cells cs e (0, 0))) (hs : cs.size = n * size) (hm : n ≤ maxLen) : w.ownsRow g e size (.slice (some ⟨g, 0, none⟩) n n) n cs.toList :=
  ⟨by simpa using hs, .inr ⟨g, n, cs, rfl, Nat.le_refl _, h, Nat.le_refl _, hm, hs, List.take_of_length_le (by simp [hs])⟩⟩
end Go.Proofs.Ytjegohibpojneaa
