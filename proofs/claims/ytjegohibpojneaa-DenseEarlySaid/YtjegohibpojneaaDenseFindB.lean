import Derived.Test.YtjegohibpojneaaDenseFindA
set_option linter.unusedVariables false
set_option linter.unusedSimpArgs false
namespace Go.Proofs.Ytjegohibpojneaa
open Go.RowKit
attribute [local go_sem ↓] Go.wp_at_zero Go.wp_at_succ

theorem find_any (m k : Int) (vq vr : Value) (fm : Nat) (cap : Array Value) (q : List Int) (l : List RowP) (P : Int → Bool) (cb : Nat) (n : Int) (w : World)
    (hq : ∀ w1, Only (· = cb) w w1 → Sl w1 (.int .i64) vq q) (hr : ∀ w1, Only (· = cb) w w1 → SlR w1 vr l) (hc : CntW w cb n)
    (hlq : ∀ x ∈ q, i64b x) (hlr : ∀ r ∈ l, i64b r.1 ∧ ∀ x ∈ r.2, i64b x)
    (hM : ∀ x w1, Only (· = cb) w w1 → Calls Try.prog fm (#[.int .i64 x] ++ cap) w1 fun e w' => e = .returned (.bool (P x)) ∧ Same w1 w')
    (hE : ∀ (args : Array Value) (w : World), (callFunc fm args).run Try.prog w = .ok (.enter fm args) w) (hl : l.length ≤ 1000) (hn : 0 ≤ n ∧ n ≤ 1000000) :
    Calls Try.prog 79 #[.pointer (some ⟨cb, 0, none⟩), .int .i64 m, vq, vr, .int .i64 k, .func (.func fm) #[] cap] w (FindR m q l k P cb n w) := by
  by_cases h1 : m < 0 ∨ 1 < m ∨ k < 1 ∨ 1000 < k
  · exact find_bad m k vq vr _ q l P cb n w hq hr hc hlq hlr (by rcases h1 with h | h | h | h; exact .inl h; exact .inr (.inl h); exact .inr (.inr (.inl h)); exact .inr (.inr (.inr (.inl h))))
  cases h2 : vecB q with
  | false => exact find_bad m k vq vr _ q l P cb n w hq hr hc hlq hlr (.inr (.inr (.inr (.inr (.inl h2)))))
  | true =>
    cases h3 : riseB l l.length with
    | false => exact find_bad m k vq vr _ q l P cb n w hq hr hc hlq hlr (.inr (.inr (.inr (.inr (.inr h3)))))
    | true => exact find_good m k vq vr fm cap q l P cb n w hq hr hc hlq hlr hM hE (by omega) (by omega) h2 h3 hl hn
theorem SlR.only {S : Nat → Prop} {w w' : World} {v : Value} {l : List RowP} (h : SlR w v l) (ho : Only S w w') (hS : ∀ b, S b → w.heap.size ≤ b) : SlR w' v l :=
  h.same (ho.mono (fun k hk h => by have := hS k h; omega))
set_option maxRecDepth 100000 in
set_option maxHeartbeats 1000000 in
/-- dense.Find: with a count of its own. -/
theorem dfind_any (m k : Int) (vq vr : Value) (fm : Nat) (cap : Array Value) (q : List Int) (l : List RowP) (P : Int → Bool) (w : World)
    (hq : Sl w (.int .i64) vq q) (hr : SlR w vr l) (hlq : ∀ x ∈ q, i64b x) (hlr : ∀ r ∈ l, i64b r.1 ∧ ∀ x ∈ r.2, i64b x)
    (hM : ∀ x w1, Same w w1 → Calls Try.prog fm (#[.int .i64 x] ++ cap) w1 fun e w' => e = .returned (.bool (P x)) ∧ Same w1 w')
    (hE : ∀ (args : Array Value) (w : World), (callFunc fm args).run Try.prog w = .ok (.enter fm args) w) (hl : l.length ≤ 1000) :
    Calls Try.prog 73 #[.int .i64 m, vq, vr, .int .i64 k, .func (.func fm) #[] cap] w fun e w' => ∃ v', e = .returned (.tuple #[v', .int .i64 (dfindP m q l k P).2]) ∧ Same w w' ∧ SlP w' v' (dfindP m q l k P).1 := by
  have hS0 : Same w (w.alloc (.cells #[.int .i64 0] 137)) := (Only.refl _ w).alloc _
  have hc : CntW (w.alloc (.cells #[.int .i64 0] 137)) w.heap.size 0 := blk_new _ _
  have hf := fun w1 (h : Only (· = w.heap.size) (w.alloc (.cells #[.int .i64 0] 137)) w1) => (show Same w w1 from (hS0.mono (S' := (· = w.heap.size)) (fun _ _ h => h.elim) |>.same h).mono (fun i hi h => by omega))
  have cf := find_any m k vq vr fm cap q l P w.heap.size 0 _ (fun w1 h => hq.same (hf w1 h)) (fun w1 h => hr.same (hf w1 h)) hc hlq hlr (fun x w1 h => hM x w1 (hf w1 h)) hE hl (by omega)
  have HF := Lib.hid hf
  have CF := Lib.hid cf
  clear hf cf hc hS0 hM hr hq hlq hlr
  go_enter Try.func73, Try.ntmps73
  go_wp2_with fail
  refine CF.out.mono ?_
  rintro e w1 ⟨v', t, rfl, hO, hs, _⟩
  have HO := Lib.hid hO; have HSP := Lib.hid hs
  clear hO hs
  go_wp2_with fail
  go_ret2
  exact ⟨v', rfl, HF.out _ HO.out, HSP.out⟩
end Go.Proofs.Ytjegohibpojneaa
