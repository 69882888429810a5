import Derived.Test.YtafhgpknffkjmaaBitsZ
import Derived.Deep.RegionHeld3
set_option linter.unusedVariables false
set_option linter.unusedSimpArgs false
namespace Go.Proofs.Ytafhgpknffkjmaa
open Go.RowKit

/-- A whole number as the document has it: its bits and its sign. -/
def Bg (w : World) (v : Value) (z : Int) : Prop := ∃ s, v = .agg #[s, .bool (decide (z < 0))] ∧ Sl w .bool s (nb z.natAbs)
theorem Bg.same {w w' : World} {v : Value} {z : Int} (h : Bg w v z) (ho : Same w w') : Bg w' v z := by
  obtain ⟨s, rfl, hs⟩ := h
  exact ⟨s, rfl, hs.same ho⟩

theorem Sl.lit {α : Type} {w : World} {v : Value} {l : List α} {enc : α → Value} (h : Sl w enc v l) : ∃ ad c, v = .slice ad l.length c ∧ l.length ≤ c ∧ c ≤ maxLen := by
  obtain ⟨ad, c, rfl, h1, h2, _, _⟩ := h
  exact ⟨ad, c, rfl, h1, h2⟩
theorem pair_facts2 {w : World} {b : Nat} {u v : Value} {t : TypeId} (h : w.heap[b]? = some (.cells #[u, v] t (0, 0))) :
    w.cell? ⟨b, 0, none⟩ = some u ∧ w.cell? ⟨b, 1, none⟩ = some v ∧ w.frozen? ⟨b, 0, none⟩ = false ∧ w.frozen? ⟨b, 1, none⟩ = false := ⟨blk_cells h 0, blk_cells h 1, blk_frozen h 0, blk_frozen h 1⟩
theorem pair_set2 {w : World} {b : Nat} {u v : Value} {t : TypeId} (h : w.heap[b]? = some (.cells #[u, v] t (0, 0))) (x y : Value) : ((w.setCell ⟨b, 0, none⟩ x).setCell ⟨b, 1, none⟩ y).heap[b]? = some (.cells #[x, y] t (0, 0)) := by
  have := blk_set (j := 1) (v := y) (blk_set (j := 0) (v := x) h)
  simpa using this
theorem Only.put2 {S : Nat → Prop} {a w : World} (h : Only S a w) {g : Nat} (hg : g < a.heap.size → S g) (x y : Value) : Only S a ((w.setCell ⟨g, 0, none⟩ x).setCell ⟨g, 1, none⟩ y) := (h.setCell hg _).setCell hg _
theorem Sl.put {α : Type} {w w' : World} {base : Nat} {v : Value} {l : List α} {enc : α → Value} {b : Nat} (h : Sl w enc v l) (hF : Fr base v) (hb : b < base) (ho : Only (· = b) w w') : Sl w' enc v l :=
  h.keep ho (fun x off sp n c e hx => by have := hF x off sp n c e; omega)

set_option maxRecDepth 100000 in
set_option maxHeartbeats 1000000 in
theorem of_any (v : Int) (w : World) (hv : -9223372036854775808 ≤ v ∧ v ≤ 9223372036854775807) :
    Calls Try.prog 49 #[.int .i64 v] w fun e w' => ∃ r, e = .returned r ∧ Same w w' ∧ Bg w' r v := by
  by_cases hn : 0 ≤ v
  · obtain ⟨n, rfl⟩ := Int.eq_ofNat_of_zero_le hn
    have hd : decide ((n : Int) < 0) = false := by simp
    have u1 : IntKind.u64.wrap (n : Int) = (n : Int) := by rw [IntKind.wrap_u64]; omega
    have hn2 : n < 18446744073709551616 := by omega
    have HD := Lib.hid hd
    clear hd
    go_enter Try.func49, Try.ntmps49
    go_wp2_with (go_at_call 80; refine (word2n_any n _ hn2).mono ?_; rintro e w2 ⟨v2, rfl, hS2, hV2, hF2⟩; obtain ⟨ad2, c2, rfl, hc2, hm2⟩ := hV2.lit; have HV2 := Lib.hid hV2; have HF2 := Lib.hid hF2; have hb2 := hS2.heap (blk_new _ _) (fun h => h); obtain ⟨m0, m1, m2, m3⟩ := pair_facts2 hb2; have HB2 := Lib.hid hb2; clear hV2 hF2 hb2)
    (try simp only [Exit.inBlock, Exit.then])
    refine bodyPost_ret (results_cell_row rfl _ _ _ _ _ _ _ rfl (pair_set2 HB2.out _ _) Try.underlying76 rfl (by kernel_rfl)) rfl ?_
    refine ⟨_, rfl, (((Only.refl _ w).alloc _).then hS2).put2 (fun h => absurd h (by simp)) _ _, _, by rw [HD.out], ?_⟩
    exact HV2.out.put HF2.out (by simp) ((Only.refl (· = w.heap.size) w2).put2 (fun _ => rfl) _ _)
  · obtain ⟨n, hm⟩ : ∃ n : Nat, v = -(n : Int) - 1 := ⟨(-v - 1).toNat, by omega⟩
    subst hm
    have hd : decide (-(n : Int) - 1 < 0) = true := by simp; omega
    have hab : (-(n : Int) - 1).natAbs = n + 1 := by omega
    have hn2 : n + 1 < 18446744073709551616 := by omega
    have u0 : -(n : Int) - 1 + 1 = -(n : Int) := by omega
    have HD := Lib.hid hd; have HAB := Lib.hid hab
    clear hd hab
    have hln := (nb_length_le (n + 1) 64 (by omega))
    go_enter Try.func49, Try.ntmps49
    go_wp2_with fail
    refine (word2n_any (n + 1) _ hn2).mono ?_
    rintro e w2 ⟨v2, rfl, hS2, hV2, hF2⟩
    obtain ⟨ad2, c2, rfl, hc2, hm2⟩ := hV2.lit
    have HV2 := Lib.hid hV2; have HF2 := Lib.hid hF2
    have hb2 := hS2.heap (blk_new _ _) (fun h => h)
    obtain ⟨m0, m1, m2, m3⟩ := pair_facts2 hb2
    have HB2 := Lib.hid hb2
    clear hV2 hF2 hb2
    go_wp2_with fail
    (try simp only [Exit.inBlock, Exit.then])
    refine bodyPost_ret (results_cell_row rfl _ _ _ _ _ _ _ rfl (pair_set2 HB2.out _ _) Try.underlying76 rfl (by kernel_rfl)) rfl ?_
    refine ⟨_, rfl, (((Only.refl _ w).alloc _).then hS2).put2 (fun h => absurd h (by simp)) _ _, _, by rw [HD.out], ?_⟩
    rw [HAB.out]
    exact HV2.out.put HF2.out (by simp) ((Only.refl (· = w.heap.size) w2).put2 (fun _ => rfl) _ _)

theorem sgn_mul (x y : Int) : ((decide (x < 0) != decide (y < 0)) && decide (x * y ≠ 0)) = decide (x * y < 0) := by
  rcases Int.lt_trichotomy x 0 with h | h | h
  · rcases Int.lt_trichotomy y 0 with g | g | g
    · have := Int.mul_pos_of_neg_of_neg h g
      rw [decide_eq_true h, decide_eq_true g, decide_eq_false (p := x * y < 0) (by omega)]; rfl
    · subst g; simp
    · have := Int.mul_neg_of_neg_of_pos h g
      rw [decide_eq_true h, decide_eq_false (p := y < 0) (by omega), decide_eq_true (p := x * y ≠ 0) (by omega), decide_eq_true this]; rfl
  · subst h; simp
  · rcases Int.lt_trichotomy y 0 with g | g | g
    · have := Int.mul_neg_of_pos_of_neg h g
      rw [decide_eq_false (p := x < 0) (by omega), decide_eq_true g, decide_eq_true (p := x * y ≠ 0) (by omega), decide_eq_true this]; rfl
    · subst g; simp
    · have := Int.mul_pos h g
      rw [decide_eq_false (p := x < 0) (by omega), decide_eq_false (p := y < 0) (by omega), decide_eq_false (p := x * y < 0) (by omega)]; rfl
theorem blk3 (w : World) (o1 o2 o3 : Obj) : (((w.alloc o1).alloc o2).alloc o3).heap[w.heap.size]? = some o1 ∧ (((w.alloc o1).alloc o2).alloc o3).heap[w.heap.size + 1]? = some o2 ∧ (((w.alloc o1).alloc o2).alloc o3).heap[w.heap.size + 2]? = some o3 := by
  refine ⟨blk_old _ (blk_old _ (blk_new _ _)), blk_old _ ?_, ?_⟩
  · have := blk_new (w.alloc o1) o2; rwa [World.size_alloc] at this
  · have := blk_new ((w.alloc o1).alloc o2) o3; rwa [World.size_alloc, World.size_alloc] at this

set_option maxRecDepth 100000 in
set_option maxHeartbeats 2000000 in
theorem bmul_any (r1 r2 : Value) (x y : Int) (w : World) (h1 : Bg w r1 x) (h2 : Bg w r2 y) (hx : (nb x.natAbs).length ≤ 100000) (hy : (nb y.natAbs).length ≤ 100000) :
    Calls Try.prog 51 #[r1, r2] w fun e w' => ∃ r, e = .returned r ∧ Same w w' ∧ Bg w' r (x * y) := by
  obtain ⟨s1, rfl, hs1⟩ := h1
  obtain ⟨s2, rfl, hs2⟩ := h2
  obtain ⟨a1, c1, rfl, hc1, hm1⟩ := hs1.lit
  obtain ⟨a2, c2, rfl, hc2, hm2⟩ := hs2.lit
  have hb3 := blk3 w (.cells #[.slice a1 (nb x.natAbs).length c1, .bool (decide (x < 0))] 76) (.cells #[.slice a2 (nb y.natAbs).length c2, .bool (decide (y < 0))] 76) (.cells #[.slice none 0 0, .bool false] 76)
  have HB3 := Lib.hid hb3; have HS1 := Lib.hid hs1; have HS2 := Lib.hid hs2
  clear hb3 hs1 hs2
  have hlen := nb_mul_len x.natAbs y.natAbs
  have hmz : x.natAbs * y.natAbs = (x * y).natAbs := Int.natAbs_mul x y |>.symm
  rw [hmz] at hlen
  have hpos : 0 < (nb (x * y).natAbs).length ↔ x * y ≠ 0 := by rw [nb_len_pos]; omega
  have hsg : ((decide (x < 0) != decide (y < 0)) && decide (0 < (nb (x * y).natAbs).length)) = decide (x * y < 0) := by
    rw [decide_eq_decide.2 hpos]; exact sgn_mul x y
  have HSG := Lib.hid hsg; have HMZ := Lib.hid hmz
  clear hsg hmz hpos
  have ct := fun w0 hS0 => times_any _ _ (nb x.natAbs) (nb y.natAbs) w0 (HS1.out.same hS0) (HS2.out.same hS0) (by omega) (by omega)
  have CT := Lib.hid ct
  clear ct
  have hz : ¬ 0 < (nb (x * y).natAbs).length ∨ 0 < (nb (x * y).natAbs).length := by omega
  generalize decide (x < 0) = p at *
  generalize decide (y < 0) = q at *
  cases p
  all_goals cases q
  all_goals rcases hz with hz | hz
  all_goals
    have hsgn := HSG.out
    simp only [hz, decide_true, decide_false, Bool.and_false, Bool.and_true, bne_self_eq_false, Bool.false_and] at hsgn
    have HSGN := Lib.hid hsgn
    clear hsgn HSG
    go_enter Try.func51, Try.ntmps51
    go_wp2_with (go_at_call 83; refine (CT.out _ (((Only.refl (fun _ => False) w).alloc _).alloc _ |>.alloc _)).mono ?_; rintro e w4 ⟨v4, rfl, hS4, hV4, hF4⟩; rw [bv_nb, bv_nb, HMZ.out] at hV4; obtain ⟨a4, c4, rfl, hc4, hm4⟩ := hV4.lit; have HV4 := Lib.hid hV4; have HF4 := Lib.hid hF4; obtain ⟨m0, m1, m2, m3⟩ := pair_facts2 (hS4.heap HB3.out.1 (fun h => h)); obtain ⟨n0, n1, n2, n3⟩ := pair_facts2 (hS4.heap HB3.out.2.1 (fun h => h)); have hb4 := hS4.heap HB3.out.2.2 (fun h => h); obtain ⟨o0, o1, o2, o3⟩ := pair_facts2 hb4; have HB4 := Lib.hid hb4; clear hb4 hV4 hF4)
    (try simp only [Exit.inBlock, Exit.then])
    refine bodyPost_ret (results_cell_row rfl _ _ _ _ _ _ _ rfl (pair_set2 HB4.out _ _) Try.underlying76 rfl (by kernel_rfl)) rfl ?_
    refine ⟨_, rfl, (((((Only.refl _ w).alloc _).alloc _).alloc _).then hS4).put2 (fun h => by omega) _ _, _, by first | (rw [← HSGN.out]; done) | (rw [← HSGN.out]; rfl), ?_⟩
    exact HV4.out.put HF4.out (by simp) ((Only.refl (· = w.heap.size + 2) w4).put2 (fun _ => rfl) _ _)

/-- What a number of 64 bits with a sign can hold. -/
def fits (z : Int) : Prop := -9223372036854775808 ≤ z ∧ z < 9223372036854775808
instance (z : Int) : Decidable (fits z) := inferInstanceAs (Decidable (_ ∧ _))
def backI (z : Int) : Int := if fits z then z else 0

set_option maxRecDepth 100000 in
set_option maxHeartbeats 2000000 in
theorem back_any (r1 : Value) (z : Int) (w : World) (h1 : Bg w r1 z) (hx : (nb z.natAbs).length ≤ 1000000) :
    Calls Try.prog 47 #[r1] w fun e w' => e = .returned (.tuple #[.int .i64 (backI z), .bool (decide (fits z))]) ∧ Same w w' := by
  obtain ⟨s1, rfl, hs1⟩ := h1
  obtain ⟨a1, c1, rfl, hc1, hm1⟩ := hs1.lit
  have hb1 := blk_new w (.cells #[.slice a1 (nb z.natAbs).length c1, .bool (decide (z < 0))] 76)
  have HS1 := Lib.hid hs1; have HB1 := Lib.hid hb1
  clear hs1 hb1
  have cv := fun w0 hS0 => value_any _ z.natAbs w0 (HS1.out.same hS0) hx
  obtain ⟨n, hn⟩ : ∃ n, n = z.natAbs := ⟨_, rfl⟩
  rw [← hn] at cv hx hc1 HS1 HB1 ⊢
  have hcase : (¬ n < 18446744073709551616) ∨ (n < 18446744073709551616 ∧ 9223372036854775808 < n) ∨ (n = 9223372036854775808 ∧ 0 ≤ z) ∨ (n = 9223372036854775808 ∧ z < 0) ∨ (n < 9223372036854775808 ∧ 0 ≤ z) ∨ (n < 9223372036854775808 ∧ 0 < n ∧ z < 0) := by omega
  have HN := Lib.hid hn
  clear hn
  rcases hcase with g | ⟨g, g2⟩ | ⟨g, g2⟩ | ⟨g, g2⟩ | ⟨g, g2⟩ | ⟨g, g3, g2⟩
  · have hf : ¬ fits z := by have := HN.out; unfold fits; omega
    rw [if_neg g, decide_eq_false g] at cv
    have hb : backI z = 0 := by unfold backI; rw [if_neg hf]
    rw [hb, decide_eq_false hf]
    have CV := Lib.hid cv
    clear cv hf hb g
    go_enter Try.func47, Try.ntmps47
    go_wp2_with (go_at_call 76; refine (CV.out _ ((Only.refl (fun _ => False) w).alloc _)).mono ?_; rintro e w2 ⟨rfl, hS2⟩; obtain ⟨m0, m1, m2, m3⟩ := pair_facts2 (hS2.heap HB1.out (fun h => h)))
    go_ret2
    exact ⟨rfl, ((Only.refl _ w).alloc _).then hS2⟩
  · have hf : ¬ fits z := by have := HN.out; unfold fits; omega
    rw [if_pos g, decide_eq_true g] at cv
    have hb : backI z = 0 := by unfold backI; rw [if_neg hf]
    rw [hb, decide_eq_false hf]
    have CV := Lib.hid cv
    clear cv hf hb
    go_enter Try.func47, Try.ntmps47
    go_wp2_with (go_at_call 76; refine (CV.out _ ((Only.refl (fun _ => False) w).alloc _)).mono ?_; rintro e w2 ⟨rfl, hS2⟩; obtain ⟨m0, m1, m2, m3⟩ := pair_facts2 (hS2.heap HB1.out (fun h => h)))
    go_ret2
    exact ⟨rfl, ((Only.refl _ w).alloc _).then hS2⟩
  · have hf : ¬ fits z := by have := HN.out; unfold fits; omega
    subst g
    rw [if_pos (by decide), decide_eq_true (by decide)] at cv
    have hb : backI z = 0 := by unfold backI; rw [if_neg hf]
    rw [hb, decide_eq_false hf]
    have CV := Lib.hid cv
    have hd : decide (z < 0) = false := decide_eq_false (by omega)
    rw [hd] at HB1 ⊢
    clear cv hf hb hd g2
    go_enter Try.func47, Try.ntmps47
    go_wp2_with (go_at_call 76; refine (CV.out _ ((Only.refl (fun _ => False) w).alloc _)).mono ?_; rintro e w2 ⟨rfl, hS2⟩; obtain ⟨m0, m1, m2, m3⟩ := pair_facts2 (hS2.heap HB1.out (fun h => h)))
    go_ret2
    exact ⟨rfl, ((Only.refl _ w).alloc _).then hS2⟩
  · have hz : z = -9223372036854775808 := by have := HN.out; omega
    subst g
    rw [if_pos (by decide), decide_eq_true (by decide)] at cv
    subst hz
    have CV := Lib.hid cv
    rw [show decide ((-9223372036854775808 : Int) < 0) = true from rfl] at HB1 ⊢
    rw [show backI (-9223372036854775808) = -9223372036854775808 from rfl, show decide (fits (-9223372036854775808)) = true from rfl]
    clear cv g2
    go_enter Try.func47, Try.ntmps47
    go_wp2_with (go_at_call 76; refine (CV.out _ ((Only.refl (fun _ => False) w).alloc _)).mono ?_; rintro e w2 ⟨rfl, hS2⟩; obtain ⟨m0, m1, m2, m3⟩ := pair_facts2 (hS2.heap HB1.out (fun h => h)))
    go_ret2
    exact ⟨rfl, ((Only.refl _ w).alloc _).then hS2⟩
  · have hf : fits z := by have := HN.out; unfold fits; omega
    have hz : z = (n : Int) := by have := HN.out; omega
    rw [if_pos (by omega), decide_eq_true (by omega)] at cv
    have hb : backI z = (n : Int) := by unfold backI; rw [if_pos hf, hz]
    rw [hb, decide_eq_true hf]
    have CV := Lib.hid cv
    have hd : decide (z < 0) = false := decide_eq_false (by omega)
    rw [hd] at HB1 ⊢
    clear cv hf hb hd g2 hz
    go_enter Try.func47, Try.ntmps47
    go_wp2_with (go_at_call 76; refine (CV.out _ ((Only.refl (fun _ => False) w).alloc _)).mono ?_; rintro e w2 ⟨rfl, hS2⟩; obtain ⟨m0, m1, m2, m3⟩ := pair_facts2 (hS2.heap HB1.out (fun h => h)))
    go_ret2
    exact ⟨rfl, ((Only.refl _ w).alloc _).then hS2⟩
  · have hf : fits z := by have := HN.out; unfold fits; omega
    have hz : z = -(n : Int) := by have := HN.out; omega
    rw [if_pos (by omega), decide_eq_true (by omega)] at cv
    have hb : backI z = -(n : Int) := by unfold backI; rw [if_pos hf, hz]
    rw [hb, decide_eq_true hf]
    have CV := Lib.hid cv
    have hd : decide (z < 0) = true := decide_eq_true (by omega)
    rw [hd] at HB1 ⊢
    have u2 : ((n : Int) == 0) = false := by simp; omega
    clear cv hf hb hd g2 hz
    go_enter Try.func47, Try.ntmps47
    go_wp2_with (go_at_call 76; refine (CV.out _ ((Only.refl (fun _ => False) w).alloc _)).mono ?_; rintro e w2 ⟨rfl, hS2⟩; obtain ⟨m0, m1, m2, m3⟩ := pair_facts2 (hS2.heap HB1.out (fun h => h)))
    go_ret2
    have e : (-((n : Int) - 1) - 1 : Int) = -(n : Int) := by omega
    refine ⟨?_, ((Only.refl _ w).alloc _).then hS2⟩
    rw [← e]
    rfl
end Go.Proofs.Ytafhgpknffkjmaa
