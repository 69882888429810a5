import Derived.Test.YtjegohibpojneaaPackR
import Derived.Test.YtjegohibpojneaaSl
import Derived.Shelf.Abstract
set_option linter.unusedVariables false
set_option linter.unusedSimpArgs false
namespace Go.Proofs.Ytjegohibpojneaa
open Go.RowKit

/-- What 'row' hands back: n steps, as long as the reader isn't bad. -/
def rowL {σ : Type} (rs : σ → RS) (step : σ → Int × σ) : Nat → σ → List Int × σ
  | 0, s => ([], s)
  | n + 1, s => match rs s with
    | none => ([], s)
    | some _ => ((step s).1 :: (rowL rs step n (step s).2).1, (rowL rs step n (step s).2).2)
def rowS {σ : Type} (rs : σ → RS) (step : σ → Int × σ) (n : Nat) (s : σ) : List Int × σ :=
  match rs (rowL rs step n s).2 with
  | none => ([], (rowL rs step n s).2)
  | some _ => rowL rs step n s
theorem rowS_none {σ : Type} {rs : σ → RS} {step : σ → Int × σ} {n : Nat} {s s' : σ} {l : List Int} (h : rowL rs step n s = (l, s')) (hn : rs s' = none) : rowS rs step n s = ([], s') := by
  unfold rowS; rw [h]; simp only; rw [hn]
theorem rowS_some {σ : Type} {rs : σ → RS} {step : σ → Int × σ} {n : Nat} {s s' : σ} {l : List Int} {r : List UInt8} (h : rowL rs step n s = (l, s')) (hn : rs s' = some r) : rowS rs step n s = (l, s') := by
  unfold rowS; rw [h]; simp only; rw [hn]
theorem rowL_stop {σ : Type} {rs : σ → RS} {step : σ → Int × σ} (n : Nat) {s : σ} (hn : rs s = none) : rowL rs step n s = ([], s) := by
  cases n with
  | zero => rfl
  | succ n => unfold rowL; rw [hn]
theorem rowL_go {σ : Type} {rs : σ → RS} {step : σ → Int × σ} (n : Nat) {s : σ} {r : List UInt8} (hn : rs s = some r) : rowL rs step (n + 1) s = ((step s).1 :: (rowL rs step n (step s).2).1, (rowL rs step n (step s).2).2) := by
  conv => lhs; unfold rowL
  rw [hn]
abbrev num (x : Int) : Value := .int .i64 x
/-- A row of numbers that lies in no block below base. -/
def SlF (w : World) (base : Nat) (v : Value) (l : List Int) : Prop := Sl w num v l ∧ Fr base v
theorem SlF.nil (w : World) (base : Nat) : SlF w base (.slice none 0 0) [] := ⟨⟨none, 0, rfl, by simp, by simp, fun _ => rfl, fun h => absurd h (by simp)⟩, Fr.nil _ _ _⟩
theorem SlF.lo {w : World} {a b : Nat} {v : Value} {l : List Int} (h : SlF w b v l) (hab : a ≤ b) : SlF w a v l := ⟨h.1, h.2.mono hab⟩

set_option maxRecDepth 100000 in
theorem row_any {σ : Type} (b n f : Nat) (cap : Array Value) (S : Nat → Prop) (I : Nat → World → σ → Prop) (rs : σ → RS) (step : σ → Int × σ) (s0 : σ) (w : World)
    (hE : ∀ (args : Array Value) (w : World), (callFunc f args).run Try.prog w = .ok (.enter f args) w)
    (hR : ∀ k w1 s, I k w1 s → Rd w1 b (rs s))
    (hK : ∀ k w1 w2 s, I k w1 s → Only (fun k => w.heap.size ≤ k) w1 w2 → I k w2 s)
    (hC : ∀ k w1 s l, k < n → I k w1 s → rs s = some l → Calls Try.prog f cap w1 fun e w' => e = .returned (.int .i64 (step s).1) ∧ Only S w1 w' ∧ I (k + 1) w' (step s).2)
    (hS : ∀ k, S k → k < w.heap.size)
    (hrk : ∀ k w1 s l, k < n → I k w1 s → rs s = some l → k ≤ 1000000000000)
    (h0 : I 0 w s0) :
    Calls Try.prog 138 #[.pointer (some ⟨b, 0, none⟩), .int .i64 n, .func (.func f) #[] cap] w fun e w' => ∃ v k, e = .returned v ∧ Only S w w' ∧ I k w' (rowS rs step n s0).2 ∧ SlF w' w.heap.size v (rowS rs step n s0).1 := by
  have H0 := Lib.hid h0; have HR := Lib.hid hR; have HK := Lib.hid hK; have HC := Lib.hid hC; have HS := Lib.hid hS; have HRK := Lib.hid hrk
  clear h0 hR hK hC hS hrk
  go_enter Try.func138, Try.ntmps138
  go_wp2_with fail
  go_loopw [7, 8] (fun v i wr => ∃ (k : Nat) (s : σ) (acc : List Int), k ≤ n ∧ i = .int .i64 k ∧ acc.length = k ∧ Only S w wr ∧ I k wr s ∧ wr.ownsRow w.heap.size 3 1 v k (acc.map num) ∧
    (acc ++ (rowL rs step (n - k) s).1, (rowL rs step (n - k) s).2) = rowL rs step n s0) (fun _ i _ => n - (intOf i).toNat)
  case atStart => exact ⟨0, s0, [], by omega, rfl, rfl, Only.refl _ _, H0.out, World.ownsRow_nil _ _ _ _, rfl⟩
  case round =>
    obtain ⟨k, s, acc, hk, rfl, hacc, hO, hI, hown, heq⟩ := hrel
    have hr := HR.out k wr s hI
    have h1 := hr.c1
    have HRD := Lib.hid hr; have HI := Lib.hid hI; have HW := Lib.hid hown; have HE := Lib.hid heq
    clear hr hI hown heq
    cases hst : rs s with
    | none =>
      rw [hst] at h1
      simp only [Option.isNone_none] at h1
      have e : rowS rs step n s0 = ([], s) := rowS_none (l := acc) (by rw [← HE.out, rowL_stop _ hst]; simp) hst
      have HE2 := Lib.hid e; have HST := Lib.hid hst
      clear e hst
      by_cases hlt : k < n
      all_goals
        go_wp2
        go_ret
        rw [HE2.out]
        exact ⟨_, k, rfl, hO, HI.out, SlF.nil _ _⟩
    | some l =>
      rw [hst] at h1
      simp only [Option.isNone_some] at h1
      by_cases hlt : k < n
      · have hb := HRK.out k wr s l hlt HI.out hst
        have hgo := rowL_go (step := step) (n - k - 1) hst
        rw [show n - k - 1 + 1 = n - (k + 1) + 1 by omega, show n - k - 1 = n - (k + 1) by omega] at hgo
        have heq := HE.out
        rw [show n - k = n - (k + 1) + 1 by omega, hgo] at heq
        have HST := Lib.hid hst; have HE2 := Lib.hid heq
        clear hst hgo heq
        go_wp2_with (first | (go_at_fn f; refine (HC.out k wr s l hlt HI.out HST.out).mono ?_; rintro e w1 ⟨rfl, hO1, hI1⟩) | (at_builtin; refine app_one [.int .i64 (step s).1] rfl (.tmp 21) (.tmp 24) 23 rfl w.heap.size 3 (.int .i64 0) 1 8 Try.underlying23 (by kernel_rfl) rfl (by decide) _ k _ rfl (own_keep HW.out hO1 (fun g hg hSg => by have h1 := HS.out g hSg; have h2 := (HW.out.lt g hg).1; omega)) rfl ?_ ?c1 ?c2 ?c3 ?c4 ?c5; intro v' w2 hown2 hO2))
        case c1 => rfl
        case c2 => intro u hu; simp at hu; subst hu; rfl
        case c3 => unfold maxLen; omega
        case c4 => omega
        case c5 => exact Nat.le_trans hO.size hO1.size
        refine ⟨⟨k + 1, (step s).2, acc ++ [(step s).1], by omega, by go_num, by simp [hacc], (hO.same hO1).trans hO2 (fun j hj h => by omega), HK.out _ _ _ _ hI1 hO2, by simpa using hown2, ?_⟩, by simp [intOf]; omega⟩
        rw [← HE2.out, List.append_assoc]; rfl
      · obtain rfl : k = n := by omega
        have heq := HE.out
        rw [Nat.sub_self] at heq
        simp only [rowL, List.append_nil] at heq
        have HE2 := Lib.hid (rowS_some heq.symm hst)
        clear hst heq
        go_wp2
        go_ret
        rw [HE2.out]
        exact ⟨_, k, rfl, hO, HI.out, own_sl HW.out, own_fr HW.out⟩
end Go.Proofs.Ytjegohibpojneaa
