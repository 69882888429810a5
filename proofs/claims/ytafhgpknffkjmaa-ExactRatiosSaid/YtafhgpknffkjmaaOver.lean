import Derived.Test.YtafhgpknffkjmaaBitsY
import Derived.Deep.OwnRows
set_option linter.unusedVariables false
set_option linter.unusedSimpArgs false
namespace Go.Proofs.Ytafhgpknffkjmaa
open Go.RowKit

/-! a row that lies in a block of its own -/
def RowIn (w : World) (g : Nat) (e : TypeId) (l : List Value) : Prop := w.heap[g]? = some (.cells l.toArray e (0, 0))
theorem RowIn.cell {w : World} {g : Nat} {e : TypeId} {l : List Value} (h : RowIn w g e l) (j : Nat) : w.cell? ⟨g, j, none⟩ = l[j]? := by rw [blk_cells h]; simp
theorem RowIn.frozen {w : World} {g : Nat} {e : TypeId} {l : List Value} (h : RowIn w g e l) (j : Nat) : w.frozen? ⟨g, j, none⟩ = false := blk_frozen h j
theorem RowIn.set {w : World} {g : Nat} {e : TypeId} {l : List Value} (h : RowIn w g e l) (j : Nat) (v : Value) : RowIn (w.setCell ⟨g, j, none⟩ v) g e (l.set j v) := by
  have := blk_set (j := j) (v := v) h
  unfold RowIn
  rw [this]; simp
theorem RowIn.only {S : Nat → Prop} {w w' : World} {g : Nat} {e : TypeId} {l : List Value} (h : RowIn w g e l) (ho : Only S w w') (hS : ¬ S g) : RowIn w' g e l := ho.heap h hS
theorem RowIn.same {w w' : World} {g : Nat} {e : TypeId} {l : List Value} (h : RowIn w g e l) (ho : Same w w') : RowIn w' g e l := ho.heap h (fun h => h)
theorem RowIn.lt {w : World} {g : Nat} {e : TypeId} {l : List Value} (h : RowIn w g e l) : g < w.heap.size := heap_lt h
theorem RowIn.made (w : World) (z : Value) (n : Nat) (e : TypeId) : RowIn (w.alloc (.cells (madeCells #[z] n) e)) w.heap.size e (List.replicate n z) := by
  unfold RowIn
  rw [blk_new]
  congr 2
  apply Array.ext'
  rw [toList_madeCells_one]
theorem RowIn.sl {α : Type} {w : World} {g : Nat} {e : TypeId} {l : List α} {enc : α → Value} (h : RowIn w g e (l.map enc)) (hm : l.length ≤ maxLen) : Sl w enc (.slice (some ⟨g, 0, none⟩) l.length l.length) l := by
  refine ⟨_, _, rfl, Nat.le_refl _, hm, (by intro h; cases h), fun _ => ⟨g, 0, rfl, fun i hi => ?_⟩⟩
  rw [Nat.zero_add, h.cell]; simp [hi]

theorem set_rep {α : Type} (k : Nat) (x y : α) (t : List α) : (List.replicate (k + 1) x ++ t).set k y = List.replicate k x ++ (y :: t) := by
  induction k with
  | zero => rfl
  | succ k ih => rw [List.replicate_succ, List.cons_append, List.set_cons_succ, ih, List.replicate_succ (n := k), List.cons_append]
theorem bv_drop_nb (A q : Nat) (h : q ≤ (nb A).length) : bv ((nb A).drop q) = A / 2 ^ q := by
  have h1 := bv_split (nb A) q h
  rw [bv_nb] at h1
  have h2 := bv_lt ((nb A).take q)
  rw [List.length_take, Nat.min_eq_left h] at h2
  generalize bv ((nb A).drop q) = D at *
  generalize bv ((nb A).take q) = T at *
  rw [h1, Nat.add_mul_div_left _ _ (Nat.pow_pos (by omega)), Nat.div_eq_of_lt h2, Nat.zero_add]
theorem div_bit (b x B : Nat) (hb : b ≤ 1) (hB : 0 < B) : (b + 2 * (x % B) < B → (b + 2 * x) / B = 2 * (x / B) ∧ (b + 2 * x) % B = b + 2 * (x % B)) ∧ (B ≤ b + 2 * (x % B) → (b + 2 * x) / B = 1 + 2 * (x / B) ∧ (b + 2 * x) % B = b + 2 * (x % B) - B) := by
  have h1 := Nat.div_add_mod x B
  have h2 := Nat.mod_lt x hB
  generalize x / B = Q at *
  generalize x % B = R at *
  subst h1
  have e : b + 2 * (B * Q + R) = b + 2 * R + B * (2 * Q) := by rw [Nat.mul_add, ← Nat.mul_assoc, ← Nat.mul_assoc, Nat.mul_comm 2 B, Nat.mul_assoc]; omega
  rw [e]
  refine ⟨fun h => ?_, fun h => ?_⟩
  · rw [Nat.add_mul_div_left _ _ hB, Nat.add_mul_mod_self_left, Nat.div_eq_of_lt h, Nat.mod_eq_of_lt h]; omega
  · have e2 : b + 2 * R + B * (2 * Q) = b + 2 * R - B + B * (1 + 2 * Q) := by rw [Nat.mul_add, Nat.mul_one]; omega
    rw [e2, Nat.add_mul_div_left _ _ hB, Nat.add_mul_mod_self_left, Nat.div_eq_of_lt (by omega), Nat.mod_eq_of_lt (by omega)]; omega
theorem nb_div_len (A B : Nat) (n : Nat) (h : (nb A).length ≤ n) : (nb (A / B)).length ≤ n := Nat.le_trans (nb_len_mono (Nat.div_le_self _ _)) h
theorem bv_rep (n : Nat) (l : List Bool) : bv (List.replicate n false ++ l) = 2 ^ n * bv l := by
  rw [bv_append, List.length_replicate]
  have : bv (List.replicate n false) = 0 := by
    induction n with
    | zero => rfl
    | succ n ih => rw [List.replicate_succ]; show false.toNat + 2 * bv (List.replicate n false) = 0; rw [ih]; rfl
  omega

set_option maxRecDepth 100000 in
set_option maxHeartbeats 2000000 in
theorem over2_any (v1 v2 : Value) (A B : Nat) (w : World) (h1 : Sl w .bool v1 (nb A)) (h2 : Sl w .bool v2 (nb B)) (hla : (nb A).length ≤ 400000) (hlb : (nb B).length ≤ 400000) (hB : 0 < B) :
    Calls Try.prog 95 #[v1, v2] w fun e w' => ∃ q r, e = .returned (.tuple #[q, r]) ∧ Same w w' ∧ Sl w' .bool q (nb (A / B)) ∧ Sl w' .bool r (nb (A % B)) ∧ Fr w.heap.size q ∧ Fr w.heap.size r := by
  obtain ⟨a, ha⟩ : ∃ a, a = nb A := ⟨_, rfl⟩
  have hdn := fun q h => bv_drop_nb A q h
  have hva : bv a = A := by rw [ha, bv_nb]
  rw [← ha] at h1 hla hdn
  have H1 := Lib.hid h1; have H2 := Lib.hid h2
  obtain ⟨ad1, c1, rfl, hc1, hm1, _, hx1⟩ := h1
  obtain ⟨ad2, c2, rfl, hc2, hm2, _, hx2⟩ := h2
  have HX1 := Lib.hid hx1
  have HVA := Lib.hid hva; have HDN := Lib.hid hdn; have HA := Lib.hid ha
  clear hx1 hx2 hva hdn ha
  obtain ⟨i0, hi, hz0, hz1, hz2⟩ := info_parts (P := Try.prog) (e := 4) (z := .bool false) (size := 1) (bytes := 1) (by kernel_rfl)
  have HI := Lib.hid (And.intro hi (And.intro hz0 (And.intro hz1 hz2)))
  clear hi hz0 hz1 hz2
  go_enter Try.func95, Try.ntmps95
  go_wp2_with (at_make; refine wpList_make_row w rfl (.tmp 10) (.tmp 10) 74 rfl 4 i0 (.bool false) Try.underlying74 HI.out.1 HI.out.2.1 HI.out.2.2.1 rfl .i64 .i64 a.length rfl rfl (by rw [HI.out.2.2.2]; omega) (by omega) ?_)
  have hR0 := RowIn.made w (.bool false) a.length 4
  have hS0 : Same w (w.alloc (.cells (madeCells #[.bool false] a.length) 4)) := (Only.refl _ w).alloc _
  generalize w.alloc (.cells (madeCells #[Value.bool false] a.length) 4) = W0 at *
  have HS0 := Lib.hid hS0; have HR0 := Lib.hid hR0
  have hg0 := hR0.lt
  clear hS0 hR0
  go_wp2_with fail
  go_loopw [7, 8] (fun r i wr => ∃ (j : Nat) (t : List Bool), j ≤ a.length ∧ i = .int .i64 ((j : Int) - 1) ∧ t.length + j = a.length ∧ bv t = A / 2 ^ j / B ∧ Only (· = w.heap.size) W0 wr ∧ RowIn wr w.heap.size 4 ((List.replicate j false ++ t).map .bool) ∧ Sl wr .bool r (nb (A / 2 ^ j % B)) ∧ Fr W0.heap.size r) (fun _ i _ => (intOf i + 1).toNat)
  case atStart =>
    have hz : A / 2 ^ a.length = 0 := by rw [← HDN.out a.length (by omega), List.drop_length]; rfl
    refine ⟨a.length, [], by omega, rfl, by simp, by rw [hz, Nat.zero_div]; rfl, Only.refl _ _, by simpa using HR0.out, ?_, Fr.nil _ _ _⟩
    rw [hz, Nat.zero_mod, nb_zero]
    exact ⟨none, 0, rfl, by simp, by simp, fun _ => rfl, fun h => absurd h (by simp)⟩
  case round =>
    obtain ⟨j, t, hj, rfl, htl, hbt, hS, hR, hV, hF⟩ := hrel
    by_cases h0 : 0 < j
    · obtain ⟨q, rfl⟩ : ∃ q, j = q + 1 := ⟨j - 1, by omega⟩
      have e1 : ((q + 1 : Nat) : Int) - 1 = (q : Int) := by omega
      rw [e1]
      obtain ⟨b1, o1, rfl, k1⟩ := HX1.out (by omega)
      have hb1 : b1 < w.heap.size := World.block_lt_of_cell? w _ (k1 q (by omega))
      replace k1 := hS.cell_eq (HS0.out.cell_eq (k1 q (by omega)) (fun h => h)) (by omega)
      have hdr := bv_drop a q (by omega)
      rw [HDN.out q (by omega), HDN.out (q + 1) (by omega)] at hdr
      have hdb := div_bit (a[q]).toNat (A / 2 ^ (q + 1)) B (Bool.toNat_le _) hB
      rw [← hdr] at hdb
      have hRB := Nat.mod_lt (A / 2 ^ (q + 1)) hB
      generalize hz : A / 2 ^ (q + 1) % B = R at *
      generalize hz2 : A / 2 ^ (q + 1) / B = Q at *
      have hzl : (nb R).length ≤ 400000 := Nat.le_trans (nb_len_mono (Nat.le_of_lt hRB)) hlb
      have HV := Lib.hid hV; have HF := Lib.hid hF; have HDR := Lib.hid hdr; have HDB := Lib.hid hdb; have HBT := Lib.hid hbt; have HR := Lib.hid hR
      obtain ⟨ad3, c3, rfl, hc3, hm3, hn3, hx3⟩ := hV
      have hown := World.ownsRow_lit (base := wr.heap.size) (e := 4) (size := 1) wr #[.bool a[q]] 1 (Nat.le_refl _) (by simp [maxLen]) rfl
      have HN := Lib.hid (HV.out.same ((Only.refl (fun _ => False) wr).alloc (.cells #[.bool a[q]] 4))).news
      have HOW := Lib.hid hown
      have hsz : wr.heap.size ≤ (wr.alloc (.cells #[.bool a[q]] 4)).heap.size := by simp
      have hws := hS.size
      clear hx3 hown hdr hF hdb hbt hR hz hz2
      go_wp2_with (at_builtin; refine app_any rfl (.tmp 23) (.tmp 24) 74 rfl wr.heap.size 4 (.bool false) 1 1 Try.underlying74 (by kernel_rfl) rfl (by decide) _ 1 [.bool a[q]] rfl HOW.out ad3 (nb R).length c3 ((nb R).map Value.bool) rfl ?_ (by simp) HN.out.2.1 (fun b hb j u hu => HN.out.2.2 b hb j u hu) (by intro u hu; obtain ⟨x, _, rfl⟩ := List.mem_map.1 hu; rfl) (by unfold maxLen; omega) (by omega) hsz; intro v' w3 hown3 hO3)
      have hw3 : Only (· = w.heap.size) W0 w3 := (hS.alloc _).trans hO3 (fun g h1 h2 => by omega)
      have hr3 : RowIn w3 w.heap.size 4 ((List.replicate (q + 1) false ++ t).map .bool) := (HR.out.only ((Only.refl (fun _ => False) wr).alloc _) (fun h => h)).only hO3 (by have := HR.out.lt; omega)
      have hs3 : Sl w3 Value.bool v' (a[q] :: nb R) := own_sl (n := 1 + (nb R).length) (e := 4) (base := wr.heap.size) (by simpa using hown3)
      refine (trim_any _ _ _ hs3 (by simp; omega)).mono ?_
      rintro e w4 ⟨v4, rfl, hS4, hV4, hF4⟩
      rw [nb_cons] at hV4
      have hF4' := (hF4 _ (own_fr hown3)).mono hws
      have hw4 := hw3.then hS4
      have hr4 := hr3.same hS4
      have hxl : (nb ((a[q]).toNat + 2 * R)).length ≤ 400001 := by
        have h1 : (a[q]).toNat + 2 * R < 2 ^ ((nb R).length + 1) := by have := nb_lt R; have := Bool.toNat_le a[q]; rw [Nat.pow_succ]; omega
        have := nb_length_le _ _ h1
        omega
      generalize hX : (a[q]).toNat + 2 * R = X at *
      have HV4 := Lib.hid hV4; have HF4 := Lib.hid hF4'; have HS4 := Lib.hid hw4; have HR4 := Lib.hid hr4
      clear hV4 hF4 hF4' hw4 hw3 hs3 hown3 hO3 hS4 hS hr3 hr4 hX k1
      have hrep : (List.replicate (q + 1) false ++ t) = List.replicate q false ++ (false :: t) := by rw [List.replicate_succ', List.append_assoc]; rfl
      have HREP := Lib.hid hrep
      clear hrep
      by_cases hlt : X < B
      · have hd := HDB.out.1 hlt
        have HD := Lib.hid hd
        clear hd
        go_wp2_with fail
        refine (less_any _ _ X B _ HV4.out (H2.out.same ((HS0.out.trans HS4.out (fun k hk h => by omega)))) (by omega) (by omega)).mono ?_
        rw [decide_eq_true hlt]
        rintro e w5 ⟨rfl, hS5⟩
        go_wp2_with fail
        refine ⟨⟨q, false :: t, by omega, by go_num, by simp; omega, ?_, HS4.out.then hS5, ?_, ?_, HF4.out⟩, by simp [intOf]; try omega⟩
        · show false.toNat + 2 * bv t = _
          rw [HBT.out, HD.out.1]; simp
        · rw [← HREP.out]; exact HR4.out.same hS5
        · rw [HD.out.2]; exact HV4.out.same hS5
      · have hd := HDB.out.2 (by omega)
        have HD := Lib.hid hd
        clear hd
        go_wp2_with fail
        refine (less_any _ _ X B _ HV4.out (H2.out.same ((HS0.out.trans HS4.out (fun k hk h => by omega)))) (by omega) (by omega)).mono ?_
        rw [decide_eq_false hlt]
        rintro e w5 ⟨rfl, hS5⟩
        have hw5 := HS4.out.then hS5
        go_wp2_with fail
        refine (minus_any _ _ (nb X) (nb B) _ (HV4.out.same hS5) (H2.out.same ((HS0.out.trans hw5 (fun k hk h => by omega)))) (by omega) (nb_len_mono (by omega)) (by rw [bv_nb, bv_nb]; omega)).mono ?_
        rintro e w6 ⟨v6, rfl, hS6, hV6, hF6⟩
        rw [bv_nb, bv_nb] at hV6
        have hw6 := hw5.then hS6
        have hr6 := (HR4.out.same hS5).same hS6
        have hF6' := hF6.mono (show W0.heap.size ≤ w5.heap.size by exact hw5.size)
        have HV6 := Lib.hid hV6; have HF6 := Lib.hid hF6'; have HS6 := Lib.hid hw6; have HR6 := Lib.hid hr6
        have kq := hr6.cell q
        have kf := hr6.frozen q
        have kl := hr6.lt
        clear hV6 hF6 hF6' hw6 hr6 hw5 hS5 hS6
        rw [show ((List.replicate (q + 1) false ++ t).map Value.bool)[q]? = some (.bool false) by simp [List.getElem?_append, List.getElem?_replicate]] at kq
        go_wp2_with fail
        refine ⟨⟨q, true :: t, by omega, by go_num, by simp; omega, ?_, HS6.out.setCell (fun _ => rfl) _, ?_, ?_, ?_⟩, by simp [intOf]; try omega⟩
        · show true.toNat + 2 * bv t = _
          rw [HBT.out, HD.out.1]; rfl
        · have := HR6.out.set q (.bool true)
          rw [← List.map_set, set_rep] at this
          exact this
        · rw [HD.out.2]
          exact HV6.out.keep ((Only.refl (· = w.heap.size) w6).setCell (fun _ => rfl) _) (fun b off sp n c e h => by have := HF6.out b off sp n c e; omega)
        · exact HF6.out
    · obtain rfl : j = 0 := by omega
      rw [Nat.pow_zero, Nat.div_one] at hbt hV
      simp only [List.replicate_zero, List.nil_append] at hR
      have hq := hR.sl (by unfold maxLen; omega)
      rw [show t.length = a.length by omega] at hq
      have HQ := Lib.hid hq; have HBT := Lib.hid hbt; have HV := Lib.hid hV; have HF := Lib.hid hF
      have hw := HS0.out.trans hS (S' := (· = w.heap.size)) (S := fun _ => False) (fun k hk h => by omega)
      clear hq hbt hV hF hR
      go_wp2_with fail
      refine (trim_any _ t _ HQ.out (by omega)).mono ?_
      rintro e w5 ⟨v5, rfl, hS5, hV5, hF5⟩
      have hf5 := hF5 w.heap.size (by intro b off sp n c e; injection e with e _ _; injection e with e; injection e with e _ _; omega)
      rw [HBT.out] at hV5
      have HV5 := Lib.hid hV5; have HF5 := Lib.hid hf5
      clear hV5 hf5 hF5
      go_wp2_with fail
      go_ret2
      exact ⟨_, _, rfl, hw.then hS5, HV5.out, HV.out.same hS5, HF5.out, HF.out.mono (by omega)⟩
end Go.Proofs.Ytafhgpknffkjmaa
