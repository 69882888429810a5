import Derived.Test.YtjegohibpojneaaDenseSc
import Derived.Test.YtjegohibpojneaaDenseRise
import Derived.Test.YtjegohibpojneaaTopOffer
set_option linter.unusedVariables false
set_option linter.unusedSimpArgs false
namespace Go.Proofs.Ytjegohibpojneaa
open Go.RowKit
attribute [local go_sem ↓] Go.wp_at_zero Go.wp_at_succ

/-- What Find answers. -/
def FindR (m : Int) (q : List Int) (l : List RowP) (k : Int) (P : Int → Bool) (cb : Nat) (n : Int) (w : World) (e : Ending) (w' : World) : Prop :=
  ∃ (v' : Value) (t : Nat), e = .returned (.tuple #[v', .int .i64 (dfindP m q l k P).2]) ∧ Only (· = cb) w w' ∧ SlP w' v' (dfindP m q l k P).1 ∧ CntW w' cb (n + (t : Int)) ∧
    ((dfindP m q l k P).2 ≠ 0 → t = 0) ∧ ((dfindP m q l k P).2 = 0 → (offsP m q P l).length ≤ t ∧ t ≤ 8 * (offsP m q P l).length)
theorem fa0 : (0 : Int) ≠ 1 := by decide
/-- The two measures. -/
theorem mfun (m : Int) (hm : m = 0 ∨ m = 1) : ∃ fb fc : Nat,
    (∀ w, (Instr.index 202 (.agg #[.func (.func 157) #[] #[], .func (.func 158) #[] #[], .func (.func 160) #[] #[], .func (.func 161) #[] #[]]) (.int .i64 m)).run Try.prog w = .ok (.agg #[.func (.func fb) #[] #[], .func (.func fc) #[] #[]]) w) ∧
    (∀ (args : Array Value) (w : World), (callFunc fb args).run Try.prog w = .ok (.enter fb args) w) ∧ (∀ (args : Array Value) (w : World), (callFunc fc args).run Try.prog w = .ok (.enter fc args) w) ∧
    (∀ (x y : Int) (w0 : World), (-127 ≤ x ∧ x ≤ 127) → (-127 ≤ y ∧ y ≤ 127) → Calls Try.prog fb #[.int .i64 x, .int .i64 y] w0 fun e w' => e = .returned (.int .i64 (brP m x y)) ∧ w' = w0) ∧
    (∀ (x : Int) (w0 : World), (-127 ≤ x ∧ x ≤ 127) → Calls Try.prog fc #[.int .i64 x] w0 fun e w' => e = .returned (.int .i64 (couldP m x)) ∧ w' = w0) := by
  rcases hm with rfl | rfl
  · exact ⟨157, 158, mix0, enters_b0, fun _ _ => by kernel_rfl, fun x y w0 hx hy => brings0_any x y w0 (by have := br_range 0 x y hx hy; unfold brP at this; rw [if_pos rfl] at this; omega), fun x w0 hx => could0_any x w0 (by omega)⟩
  · exact ⟨160, 161, mix1, enters_b1, fun _ _ => by kernel_rfl, fun x y w0 hx hy => brings1_any x y w0 (by omega) (by have := br_range 1 x y hx hy; unfold brP at this; rw [if_neg (by omega)] at this; omega), fun x w0 hx => could1_any x w0⟩
set_option maxRecDepth 100000 in
set_option maxHeartbeats 8000000 in
theorem find_bad (m k : Int) (vq vr vm : Value) (q : List Int) (l : List RowP) (P : Int → Bool) (cb : Nat) (n : Int) (w : World)
    (hq : ∀ w1, Only (· = cb) w w1 → Sl w1 (.int .i64) vq q) (hr : ∀ w1, Only (· = cb) w w1 → SlR w1 vr l) (hc : CntW w cb n)
    (hlq : ∀ x ∈ q, i64b x) (hlr : ∀ r ∈ l, i64b r.1 ∧ ∀ x ∈ r.2, i64b x) (hbad : m < 0 ∨ 1 < m ∨ k < 1 ∨ 1000 < k ∨ vecB q = false ∨ riseB l l.length = false) :
    Calls Try.prog 79 #[.pointer (some ⟨cb, 0, none⟩), .int .i64 m, vq, vr, .int .i64 k, vm] w (FindR m q l k P cb n w) := by
  have HC := Lib.hid hc
  have hfin : ∀ (c : Int) w', Same w w' → dfindP m q l k P = ([], c) → c ≠ 0 → FindR m q l k P cb n w (.returned (.tuple #[.slice none 0 0, .int .i64 c])) w' := by
    intro c w' hS he hc0
    refine ⟨_, 0, by rw [he], hS.mono (fun _ _ h => h.elim), by rw [he]; exact SlP.nil _, by simpa using HC.out.only hS (fun h => h), fun _ => rfl, fun h => by rw [he] at h; exact absurd h hc0⟩
  have HF := Lib.hid hfin
  have HCQ := Lib.hid (fun w0 (h : Same w w0) => dright_any vq q w0 (hq w0 (h.mono (fun _ _ h => h.elim))) hlq)
  have HCR := Lib.hid (fun w0 (h : Same w w0) => rising_any vr l w0 (hr w0 (h.mono (fun _ _ h => h.elim))) hlr)
  obtain ⟨a1, c1, rfl, _⟩ := hq w (Only.refl _ _)
  obtain ⟨a2, c2, rfl, _⟩ := hr w (Only.refl _ _)
  have hS0 : Same w ((w.alloc (.cells #[.pointer (some ⟨cb, 0, none⟩)] 204)).alloc (.cells #[.slice a1 q.length c1] 23)) := ((Only.refl _ w).alloc _).alloc _
  have hB := blk_new1 w (.cells #[.pointer (some ⟨cb, 0, none⟩)] 204) (.cells #[.slice a1 q.length c1] 23)
  have p0 := blk_cells hB 0
  simp only [List.getElem?_toArray, List.getElem?_cons_zero] at p0
  have HS0 := Lib.hid hS0
  clear hq hr hc hfin hS0 hB hlq hlr
  by_cases h1 : m < 0
  · have hd : decide (m < 0) = true := decide_eq_true h1
    have he : dfindP m q l k P = ([], 1) := by unfold dfindP; rw [if_pos (.inl h1)]
    have HE := Lib.hid he
    clear hbad h1 he
    go_enter Try.func79, Try.ntmps79
    go_wp2_with fail
    go_ret2
    exact HF.out _ _ HS0.out HE.out (by decide)
  have hd1 : decide (m < 0) = false := decide_eq_false h1
  by_cases h2 : 1 < m
  · have hd : decide (1 < m) = true := decide_eq_true h2
    have he : dfindP m q l k P = ([], 1) := by unfold dfindP; rw [if_pos (.inr (.inl h2))]
    have HE := Lib.hid he
    clear hbad h1 h2 he
    go_enter Try.func79, Try.ntmps79
    go_wp2_with fail
    go_ret2
    exact HF.out _ _ HS0.out HE.out (by decide)
  have hd2 : decide (1 < m) = false := decide_eq_false h2
  by_cases h3 : k < 1
  · have hd : decide (k < 1) = true := decide_eq_true h3
    have he : dfindP m q l k P = ([], 1) := by unfold dfindP; rw [if_pos (.inr (.inr (.inl h3)))]
    have HE := Lib.hid he
    clear hbad h1 h2 h3 he
    go_enter Try.func79, Try.ntmps79
    go_wp2_with fail
    go_ret2
    exact HF.out _ _ HS0.out HE.out (by decide)
  have hd3 : decide (k < 1) = false := decide_eq_false h3
  by_cases h4 : 1000 < k
  · have hd : decide (1000 < k) = true := decide_eq_true h4
    have he : dfindP m q l k P = ([], 1) := by unfold dfindP; rw [if_pos (.inr (.inr (.inr h4)))]
    have HE := Lib.hid he
    clear hbad h1 h2 h3 h4 he
    go_enter Try.func79, Try.ntmps79
    go_wp2_with fail
    go_ret2
    exact HF.out _ _ HS0.out HE.out (by decide)
  have hd4 : decide (1000 < k) = false := decide_eq_false h4
  have hbad2 : vecB q = false ∨ riseB l l.length = false := by
    rcases hbad with h | h | h | h | h | h
    · exact absurd h h1
    · exact absurd h h2
    · exact absurd h h3
    · exact absurd h h4
    · exact .inl h
    · exact .inr h
  have he : dfindP m q l k P = ([], 2) := by
    unfold dfindP
    rw [if_neg (by omega), if_pos (by rcases hbad2 with h | h <;> rw [h] <;> simp)]
  have HE := Lib.hid he
  clear hbad h1 h2 h3 h4 he
  cases hvq : vecB q with
  | false =>
    have CQ := Lib.hid (by have := HCQ.out; rw [hvq] at this; exact this : ∀ w0, Same w w0 → Calls Try.prog 77 #[.slice a1 q.length c1] w0 fun e w' => e = .returned (.bool false) ∧ Same w0 w')
    clear hvq hbad2
    go_enter Try.func79, Try.ntmps79
    go_wp2_with fail
    refine (CQ.out _ HS0.out).mono ?_
    rintro e w1 ⟨rfl, hS1⟩
    have HS1 := Lib.hid (HS0.out.then hS1)
    clear hS1
    go_wp2_with fail
    go_ret2
    exact HF.out _ _ HS1.out HE.out (by decide)
  | true =>
    have hri : riseB l l.length = false := by rcases hbad2 with h | h; rw [hvq] at h; cases h; exact h
    have CQ := Lib.hid (by have := HCQ.out; rw [hvq] at this; exact this : ∀ w0, Same w w0 → Calls Try.prog 77 #[.slice a1 q.length c1] w0 fun e w' => e = .returned (.bool true) ∧ Same w0 w')
    have CR := Lib.hid (by have := HCR.out; rw [hri] at this; exact this : ∀ w0, Same w w0 → Calls Try.prog 129 #[.slice a2 l.length c2] w0 fun e w' => e = .returned (.bool false) ∧ Same w0 w')
    clear hvq hbad2 hri
    go_enter Try.func79, Try.ntmps79
    go_wp2_with fail
    refine (CQ.out _ HS0.out).mono ?_
    rintro e w1 ⟨rfl, hS1⟩
    have HS1 := Lib.hid (HS0.out.then hS1)
    clear hS1
    go_wp2_with fail
    refine (CR.out _ HS1.out).mono ?_
    rintro e w2 ⟨rfl, hS2⟩
    have HS2 := Lib.hid (HS1.out.then hS2)
    clear hS2
    go_wp2_with fail
    go_ret2
    exact HF.out _ _ HS2.out HE.out (by decide)
end Go.Proofs.Ytjegohibpojneaa
