import Derived.Test.YtjegohibpojneaaPackRefT
import Derived.Test.YtjegohibpojneaaPackRis
set_option linter.unusedVariables false
set_option linter.unusedSimpArgs false
namespace Go.Proofs.Ytjegohibpojneaa
open Go.RowKit

abbrev rd0 : Obj := .cells #[.string ⟨#[]⟩, .bool false] 156
abbrev rdO (st : RS) : Obj := .cells #[.string (str (st.getD [])), .bool st.isNone] 156
theorem sl_nil {α : Type} (w : World) (enc : α → Value) : Sl w enc (.slice none 0 0) [] := ⟨none, 0, rfl, by simp, by simp, fun _ => rfl, fun h => absurd h (by simp)⟩
/-- A struct result that is stored at last into its own block g, beside a value. -/
theorem Only.put2 {S : Nat → Prop} {a w : World} (h : Only S a w) {g : Nat} (hg : g < a.heap.size → S g) (x y : Value) : Only S a ((w.setCell ⟨g, 0, none⟩ x).setCell ⟨g, 1, none⟩ y) := (h.setCell hg _).setCell hg _

theorem varS_none0 (st : RS) (h : (varS st).2 = none) : (varS st).1 = 0 := by
  unfold varS at h ⊢
  split
  · rfl
  · rename_i hb
    rw [if_neg hb] at h
    unfold wordS at h ⊢
    cases st with
    | none => rfl
    | some l =>
      simp only at h ⊢
      cases hw : wd 0 0 l with
      | none => rfl
      | some p => rw [hw] at h; cases h

set_option maxHeartbeats 4000000 in
set_option maxRecDepth 100000 in
theorem rtr2_fr (st : RS) (most : Int) (w : World) (hlen : (st.getD []).length ≤ 1000000000000) :
    Calls Try.prog 93 #[rdV st, .int .i64 most] w fun e w' => ∃ v, e = .returned (.tuple #[rdV (risR st most).2, v]) ∧ Same w w' ∧ SlF w' w.heap.size v (risR st most).1 := by
  have hv : risR st most = ((rowS Prod.fst risStep (varS st).1 (if most < (varS st).1 then none else (varS st).2, -1)).1, (rowS Prod.fst risStep (varS st).1 (if most < (varS st).1 then none else (varS st).2, -1)).2.1) := rfl
  have hless := varS_less st
  have hle := varS_le st
  have hc := fun w0 => rtv2_any st w0 hlen
  generalize varS st = p at *
  obtain ⟨n, st'⟩ := p
  simp only at hc hv hless hle
  have HV := Lib.hid hv; have HC := Lib.hid hc
  clear hv hc
  have hb := fun o => blk2 w o rd0
  have HB := Lib.hid hb
  clear hb
  have hnone : rowS Prod.fst risStep n ((none : RS), (-1 : Int)) = ([], ((none : RS), (-1 : Int))) := rowS_none (rowL_stop n rfl) rfl
  have HN := Lib.hid hnone
  clear hnone
  go_enter Try.func93, Try.ntmps93
  by_cases hbad : st' = none ∨ most < n
  · have hq : (if most < (n : Int) then (none : RS) else st') = none := by
      rcases hbad with h | h
      · rw [h]; split <;> rfl
      · rw [if_pos h]
    have HR : Hid (risR st most = ([], none)) := Lib.hid (by rw [HV.out, hq, HN.out])
    clear hq
    have hcs : st' = none ∨ (∃ r, st' = some r) ∧ most < n := by
      cases st' with
      | none => exact Or.inl rfl
      | some r => exact Or.inr ⟨⟨r, rfl⟩, by rcases hbad with h | h; cases h; exact h⟩
    clear hbad
    rcases hcs with rfl | ⟨⟨r, rfl⟩, hbig⟩
    all_goals
      simp only [Option.getD_none, Option.isNone_none, Option.getD_some, Option.isNone_some] at *
      go_wp2_with (first | (go_at_call 92; refine (HC.out _).mono ?_; rintro e w1 ⟨rfl, hS1⟩) | (go_at_call 142; refine (rfail2_any _).mono ?_; rintro e w2 ⟨rfl, hS2⟩; have hb2 := hS2.heap (((Only.refl (fun _ => False) w1).alloc _).heap (hS1.heap (HB.out _) (fun h => h)) (fun h => h)) (fun h => h); obtain ⟨m0, m1, m2, m3⟩ := pair_facts hb2))
      have hfin := pair_set hb2 (.string (str [])) (.bool true)
      (try simp only [Exit.inBlock, Exit.then])
      refine bodyPost_ret (results_ct rfl _ _ _ _ _ _ _ rfl hfin Try.underlying156 rfl (by kernel_rfl)) rfl ?_
      rw [HR.out]
      exact ⟨_, rfl, (((((Only.refl (fun _ => False) w).alloc _).alloc _).then hS1).alloc _ |>.then hS2).put2 (fun h => absurd h (by simp)) _ _, SlF.nil _ _⟩
  · obtain ⟨r0, rfl⟩ : ∃ r, st' = some r := by
      cases st' with
      | none => exact absurd (Or.inl rfl) hbad
      | some r => exact ⟨r, rfl⟩
    have hnb : ¬ most < n := fun h => hbad (Or.inr h)
    rw [if_neg hnb] at HV
    clear hbad
    simp only [Option.getD_some, Option.isNone_some] at *
    go_wp2_with (go_at_call 92; refine (HC.out _).mono ?_; rintro e w1 ⟨rfl, hS1⟩; have hs1 := hS1.size; rw [World.size_alloc, World.size_alloc] at hs1; have hbR := hS1.heap (HB.out _) (fun h => h))
    have hlen0 : r0.length ≤ 1000000000000 := by omega
    obtain ⟨W0, hW0⟩ : ∃ W0, W0 = w1.alloc (.cells #[.string (str r0), .bool false] 156) := ⟨_, rfl⟩
    rw [← hW0]
    have hSW : Same w W0 := by rw [hW0]; exact ((((Only.refl (fun _ => False) w).alloc _).alloc _).then hS1).alloc _
    have hb6 : W0.heap[w1.heap.size]? = some (.cells #[.string (str r0), .bool false] 156 (0, 0)) := by rw [hW0]; exact blk_new _ _
    have hbR0 : W0.heap[w.heap.size + 1]? = some (.cells #[.string ⟨#[]⟩, .bool false] 156 (0, 0)) := by rw [hW0]; exact blk_old _ hbR
    have hsz0 : W0.heap.size = w1.heap.size + 1 := by rw [hW0, World.size_alloc]
    have hres : ∀ w', Only (fun k => w1.heap.size ≤ k) W0 w' → w'.heap[w.heap.size + 1]? = some (.cells #[.string ⟨#[]⟩, .bool false] 156 (0, 0)) := fun w' h => h.heap hbR0 (by omega)
    have hsame : ∀ w', Only (fun k => w1.heap.size ≤ k) W0 w' → Same w w' := fun w' h => hSW.trans h (fun k hk h => by omega)
    have HRES := Lib.hid hres; have HSAME := Lib.hid hsame; have HB6 := Lib.hid hb6; have HSZ := Lib.hid hsz0; have HS1 := Lib.hid hs1
    clear hres hsame hb6 hsz0 hbR0 hSW hbR hS1 hW0 hs1
    go_loopw [8, 9] (fun ov i wr => ∃ (k : Nat) (l' : List UInt8) (last : Int) (acc : List Int), k ≤ n ∧ i = .int .i64 k ∧ acc.length = k ∧ Only (fun k => w1.heap.size ≤ k) W0 wr ∧ wr.heap[w1.heap.size]? = some (.cells #[.string (str l'), .bool false] 156 (0, 0)) ∧
      wr.ownsRow W0.heap.size 3 1 ov k (acc.map num) ∧ (acc ++ (rowL Prod.fst risStep (n - k) (some l', last)).1, (rowL Prod.fst risStep (n - k) (some l', last)).2) = rowL Prod.fst risStep n (some r0, -1) ∧ k + l'.length ≤ 1000000000000 ∧
      (if k = 0 then last = -1 else acc[k - 1]? = some last) ∧ -1 ≤ last ∧ last ≤ 9223372036854775807) (fun _ i _ => n - (intOf i).toNat)
    case atStart => exact ⟨0, r0, -1, [], by omega, rfl, rfl, Only.refl _ _, HB6.out, World.ownsRow_nil _ _ _ _, rfl, by omega, rfl, by omega, by omega⟩
    case round =>
      obtain ⟨k, l', last, acc, hk, rfl, hacc, hO, hb6, hown, heq, hbd, hlast, hlo, hhi⟩ := hrel
      by_cases hltk : k < n
      · have hgo := rowL_go (rs := Prod.fst) (step := risStep) (n - (k + 1)) (s := (some l', last)) rfl
        rw [show n - k = n - (k + 1) + 1 by omega, hgo] at heq
        have hst' : risStep (some l', last) = if 9223372036854775806 - last < (varS (some l')).1 then (0, (none, last)) else (last + ((varS (some l')).1 + 1), ((varS (some l')).2, last + ((varS (some l')).1 + 1))) := rfl
        have hc2 := fun w0 => rtv2_any (some l') w0 (by simp; omega)
        have hone := varS_one l'
        have hle2 := varS_le (some l')
        have hnn := varS_none0 (some l')
        generalize varS (some l') = p2 at *
        obtain ⟨d, st2⟩ := p2
        simp only at hst' hc2 hone hle2 hnn
        have HST := Lib.hid hst'; have HC2 := Lib.hid hc2; have HONE := Lib.hid hone; have HEQ := Lib.hid heq; have HNN := Lib.hid hnn; have HO := Lib.hid hO; have H6 := Lib.hid hb6; have HW := Lib.hid hown; have HLA := Lib.hid hlast
        clear hgo hst' hc2 hone heq hnn hO hb6 hown hlast
        obtain ⟨q0, q1, q2, q3⟩ := pair_facts H6.out
        have hfailE : (risStep (some l', last)).2.1 = none → risR st most = ([], none) := by
          intro hx
          have h1 := HEQ.out
          rw [rowL_stop (rs := Prod.fst) (n - (k + 1)) hx] at h1
          have h2 := rowS_none h1.symm hx
          rw [HV.out, h2]
          exact congrArg _ hx
        have HFE := Lib.hid hfailE
        clear hfailE
        cases st2 with
        | none =>
          obtain rfl : d = 0 := HNN.out rfl
          have HE : Hid (risR st most = ([], none)) := Lib.hid (HFE.out (by rw [HST.out]; split <;> rfl))
          simp only [Option.getD_none, Option.isNone_none] at *
          go_wp2_with (first | (go_at_call 92; refine (HC2.out _).mono ?_; rintro e w2 ⟨rfl, hS2⟩; have hb62 := hS2.heap H6.out (fun h => h); obtain ⟨p0, p1, p2, p3⟩ := pair_facts hb62; have hlt6 := heap_lt hb62) | (go_at_call 142; refine (rfail2_any _).mono ?_; rintro e w4 ⟨rfl, hS4⟩; have hO4 : Only (fun k => w1.heap.size ≤ k) W0 w4 := (((HO.out.then hS2).put2 (fun _ => Nat.le_refl _) _ _).alloc _).then hS4; have hb4 := HRES.out w4 hO4; obtain ⟨m0, m1, m2, m3⟩ := pair_facts hb4))
          have hfin := pair_set hb4 (.string (str [])) (.bool true)
          (try simp only [Exit.inBlock, Exit.then])
          refine bodyPost_ret (results_ct rfl _ _ _ _ _ _ _ rfl hfin Try.underlying156 rfl (by kernel_rfl)) rfl ?_
          rw [HE.out]
          exact ⟨_, rfl, (HSAME.out _ hO4).put2 (fun h => absurd h (by simp)) _ _, SlF.nil _ _⟩
        | some l2 =>
          simp only [Option.getD_some, Option.isNone_some] at *
          have hl2 := HONE.out l2 rfl
          have hcell : 0 < k → ∃ g8 cap8, u8 = .slice (some ⟨g8, 0, none⟩) k cap8 ∧ W0.heap.size ≤ g8 ∧ k ≤ cap8 ∧ wr.cell? ⟨g8, k - 1, none⟩ = some (.int .i64 last) := by
            intro h0
            obtain ⟨g8, cap8, e, h1, h2⟩ := own_form HW.out h0
            refine ⟨g8, cap8, e, h1, h2, ?_⟩
            have h3 := HW.out
            rw [e] at h3
            have h4 := h3.cellAt (k - 1) (by omega)
            have h5 := HLA.out
            rw [if_neg (by omega)] at h5
            rw [h4, List.getElem?_map, h5]; rfl
          by_cases hbig : 9223372036854775806 - last < d
          · have hk0 : 0 < k := by
              rcases Nat.eq_zero_or_pos k with h | h
              · have := HLA.out; rw [if_pos h] at this; omega
              · exact h
            have HE : Hid (risR st most = ([], none)) := Lib.hid (HFE.out (by rw [HST.out, if_pos hbig]))
            obtain ⟨g8, cap8, rfl, hg8, hcap8, hc8⟩ := hcell hk0
            have HC8 := Lib.hid hc8
            clear hc8
            have e1 : ((k : Int) - 1).toNat = k - 1 := by omega
            have hkc : ((k : Int) - 1) = ((k - 1 : Nat) : Int) := by omega
            have hkk : k - 1 < k := by omega
            have hg8n : g8 ≠ w1.heap.size := by have := HSZ.out; omega
            have hg8m : w1.heap.size ≠ g8 := by have := HSZ.out; omega
            by_cases hmx : last = 9223372036854775807
            · have hmb : (last == 9223372036854775807) = true := by simp [hmx]
              have HMX := Lib.hid hmx
              clear hmx
              go_wp2_with (first | (go_at_call 92; refine (HC2.out _).mono ?_; rintro e w2 ⟨rfl, hS2⟩; have hb62 := hS2.heap H6.out (fun h => h); obtain ⟨p0, p1, p2, p3⟩ := pair_facts hb62; have hlt6 := heap_lt hb62; have c8 := fun x y o => ((Only.refl (fun _ => False) _).alloc o).cell_eq (((Only.refl (· = w1.heap.size) w2).put2 (g := w1.heap.size) (fun _ => rfl) x y).cell_eq (hS2.cell_eq HC8.out (fun h => h)) hg8n) (fun h => h)) | (go_at_call 142; refine (rfail2_any _).mono ?_; rintro e w4 ⟨rfl, hS4⟩; have hO4 : Only (fun k => w1.heap.size ≤ k) W0 w4 := (((HO.out.then hS2).put2 (fun _ => Nat.le_refl _) _ _).alloc _).then hS4; have hb4 := HRES.out w4 hO4; obtain ⟨m0, m1, m2, m3⟩ := pair_facts hb4))
              have hfin := pair_set hb4 (.string (str [])) (.bool true)
              (try simp only [Exit.inBlock, Exit.then])
              refine bodyPost_ret (results_ct rfl _ _ _ _ _ _ _ rfl hfin Try.underlying156 rfl (by kernel_rfl)) rfl ?_
              rw [HE.out]
              exact ⟨_, rfl, (HSAME.out _ hO4).put2 (fun h => absurd h (by simp)) _ _, SlF.nil _ _⟩
            · have hmb : (last == 9223372036854775807) = false := by simp [hmx]
              go_wp2_with (first | (go_at_call 92; refine (HC2.out _).mono ?_; rintro e w2 ⟨rfl, hS2⟩; have hb62 := hS2.heap H6.out (fun h => h); obtain ⟨p0, p1, p2, p3⟩ := pair_facts hb62; have hlt6 := heap_lt hb62; have c8 := fun x y o => ((Only.refl (fun _ => False) _).alloc o).cell_eq (((Only.refl (· = w1.heap.size) w2).put2 (g := w1.heap.size) (fun _ => rfl) x y).cell_eq (hS2.cell_eq HC8.out (fun h => h)) hg8n) (fun h => h)) | (go_at_call 142; refine (rfail2_any _).mono ?_; rintro e w4 ⟨rfl, hS4⟩; have hO4 : Only (fun k => w1.heap.size ≤ k) W0 w4 := (((HO.out.then hS2).put2 (fun _ => Nat.le_refl _) _ _).alloc _).then hS4; have hb4 := HRES.out w4 hO4; obtain ⟨m0, m1, m2, m3⟩ := pair_facts hb4))
              have hfin := pair_set hb4 (.string (str [])) (.bool true)
              (try simp only [Exit.inBlock, Exit.then])
              refine bodyPost_ret (results_ct rfl _ _ _ _ _ _ _ rfl hfin Try.underlying156 rfl (by kernel_rfl)) rfl ?_
              rw [HE.out]
              exact ⟨_, rfl, (HSAME.out _ hO4).put2 (fun h => absurd h (by simp)) _ _, SlF.nil _ _⟩
          · have HRS : Hid (risStep (some l', last) = (last + (d + 1), (some l2, last + (d + 1)))) := Lib.hid (by rw [HST.out, if_neg hbig])
            rcases Nat.eq_zero_or_pos k with hk0 | hk0
            · have hl1 : last = -1 := by have := HLA.out; rw [if_pos hk0] at this; exact this
              subst hl1
              have hx : -1 + ((d : Int) + 1) = d := by omega
              rw [hx] at HRS
              subst hk0
              go_wp2_with (first | (go_at_call 92; refine (HC2.out _).mono ?_; rintro e w2 ⟨rfl, hS2⟩; have hb62 := hS2.heap H6.out (fun h => h); obtain ⟨p0, p1, p2, p3⟩ := pair_facts hb62; have hlt6 := heap_lt hb62) | (at_builtin; refine app_one [.int .i64 (d : Int)] rfl (.tmp 60) (.tmp 62) 23 rfl W0.heap.size 3 (.int .i64 0) 1 8 Try.underlying23 (by kernel_rfl) rfl (by decide) _ 0 _ rfl (own_keep HW.out ((((Only.refl (· = w1.heap.size) wr).then hS2).put2 (fun _ => rfl) _ _).alloc _) (fun g hg h => by have h1 := (HW.out.lt g hg).1; have := HSZ.out; omega)) (by first | rfl | (show Value.slice (some ⟨w2.heap.size + 1, 0, none⟩) 1 1 = _; simp)) ?_ ?c1 ?c2 ?c3 ?c4 ?c5; intro v' w5 hown5 hO5))
              case c1 => rfl
              case c2 => intro u hu; simp at hu; subst hu; rfl
              case c3 => unfold maxLen; omega
              case c4 => omega
              case c5 => have h1 := HO.out.size; have h2 := hS2.size; simp; omega
              have hO3 : Only (fun k => w1.heap.size ≤ k) W0 w5 := (((HO.out.then hS2).put2 (fun _ => Nat.le_refl _) _ _).alloc _).trans hO5 (fun k hk h => by have := HSZ.out; omega)
              have hb63 : w5.heap[w1.heap.size]? = some (.cells #[.string (str l2), .bool false] 156 (0, 0)) := hO5.heap (blk_old _ (pair_set hb62 _ _)) (by have := HSZ.out; omega)
              refine ⟨⟨0 + 1, l2, (d : Int), acc ++ [(d : Int)], by omega, by go_num, by simp [hacc], hO3, hb63, by simpa using hown5, ?_, by omega, by rw [if_neg (by omega)]; simp [hacc], by omega, by omega⟩, by simp [intOf]; omega⟩
              have h1 := HEQ.out
              rw [HRS.out] at h1
              rw [← h1, List.append_assoc]; rfl
            · obtain ⟨g8, cap8, rfl, hg8, hcap8, hc8⟩ := hcell hk0
              have HC8 := Lib.hid hc8
              clear hc8
              have e1 : ((k : Int) - 1).toNat = k - 1 := by omega
              have hkc : ((k : Int) - 1) = ((k - 1 : Nat) : Int) := by omega
              have hkk : k - 1 < k := by omega
              have hg8n : g8 ≠ w1.heap.size := by have := HSZ.out; omega
              have hg8m : w1.heap.size ≠ g8 := by have := HSZ.out; omega
              have hmb : (last == 9223372036854775807) = false := by simp; omega
              have e2 : wrap64 (wrap64 (last + (d : Int)) + 1) = last + ((d : Int) + 1) := by unfold wrap64; omega
              have e3 : wrap64 (last + (d : Int) + 1) = last + ((d : Int) + 1) := by unfold wrap64; omega
              have e4 : last + (d : Int) + 1 = last + ((d : Int) + 1) := by omega
              have e5 : wrap64 (last + (d : Int)) = last + (d : Int) := by unfold wrap64; omega
              obtain ⟨x, hx⟩ : ∃ x, last + ((d : Int) + 1) = x := ⟨_, rfl⟩
              have hxb : -1 ≤ x ∧ x ≤ 9223372036854775807 := by omega
              rw [hx] at HRS e2 e3 e4
              clear e2
              clear hx
              go_wp2_with (first | (go_at_call 92; refine (HC2.out _).mono ?_; rintro e w2 ⟨rfl, hS2⟩; have hb62 := hS2.heap H6.out (fun h => h); obtain ⟨p0, p1, p2, p3⟩ := pair_facts hb62; have hlt6 := heap_lt hb62; have c8 := fun x y o => ((Only.refl (fun _ => False) _).alloc o).cell_eq (((Only.refl (· = w1.heap.size) w2).put2 (g := w1.heap.size) (fun _ => rfl) x y).cell_eq (hS2.cell_eq HC8.out (fun h => h)) hg8n) (fun h => h)) | (at_builtin; refine app_one [.int .i64 x] rfl (.tmp 60) (.tmp 62) 23 rfl W0.heap.size 3 (.int .i64 0) 1 8 Try.underlying23 (by kernel_rfl) rfl (by decide) _ k _ rfl (own_keep HW.out ((((Only.refl (· = w1.heap.size) wr).then hS2).put2 (fun _ => rfl) _ _).alloc _) (fun g hg h => by have h1 := (HW.out.lt g hg).1; have := HSZ.out; omega)) (by first | rfl | (show Value.slice (some ⟨w2.heap.size + 1, 0, none⟩) 1 1 = _; simp)) ?_ ?c1 ?c2 ?c3 ?c4 ?c5; intro v' w5 hown5 hO5))
              case c1 => rfl
              case c2 => intro u hu; simp at hu; subst hu; rfl
              case c3 => unfold maxLen; omega
              case c4 => omega
              case c5 => have h1 := HO.out.size; have h2 := hS2.size; simp; omega
              have hO3 : Only (fun k => w1.heap.size ≤ k) W0 w5 := (((HO.out.then hS2).put2 (fun _ => Nat.le_refl _) _ _).alloc _).trans hO5 (fun k hk h => by have := HSZ.out; omega)
              have hb63 : w5.heap[w1.heap.size]? = some (.cells #[.string (str l2), .bool false] 156 (0, 0)) := hO5.heap (blk_old _ (pair_set hb62 _ _)) (by have := HSZ.out; omega)
              refine ⟨⟨k + 1, l2, x, acc ++ [x], by omega, by go_num, by simp [hacc], hO3, hb63, by simpa using hown5, ?_, by omega, by rw [if_neg (by omega)]; simp [hacc], by omega, by omega⟩, by simp [intOf]; omega⟩
              have h1 := HEQ.out
              rw [HRS.out] at h1
              rw [← h1, List.append_assoc]; rfl
      · obtain rfl : k = n := by omega
        rw [Nat.sub_self] at heq
        simp only [rowL, List.append_nil] at heq
        have hrow := rowS_some heq.symm rfl
        have HE : Hid (risR st most = (acc, some l')) := Lib.hid (by rw [HV.out, hrow])
        have HO := Lib.hid hO; have H6 := Lib.hid hb6; have HW := Lib.hid hown
        clear heq hrow hO hb6 hown hlast
        obtain ⟨q0, q1, q2, q3⟩ := pair_facts H6.out
        obtain ⟨m0, m1, m2, m3⟩ := pair_facts (HRES.out _ HO.out)
        have hne : w.heap.size + 1 ≠ w1.heap.size := by have := HS1.out; omega
        go_wp2_with fail
        have hfin := pair_set (HRES.out _ HO.out) (.string (str l')) (.bool false)
        (try simp only [Exit.inBlock, Exit.then])
        refine bodyPost_ret (results_ct rfl _ _ _ _ _ _ _ rfl hfin Try.underlying156 rfl (by kernel_rfl)) rfl ?_
        rw [HE.out]
        exact ⟨_, rfl, (HSAME.out _ HO.out).put2 (fun h => absurd h (by simp)) _ _, own_sl (own_keep HW.out ((Only.refl (· = w.heap.size + 1) wr).put2 (fun _ => rfl) _ _) (fun g hg h => by have h1 := (HW.out.lt g hg).1; have := HS1.out; have := HSZ.out; omega)), (own_fr HW.out).mono (by have := HSZ.out; have := HS1.out; omega)⟩
theorem rtr2_any (st : RS) (most : Int) (w : World) (hlen : (st.getD []).length ≤ 1000000000000) :
    Calls Try.prog 93 #[rdV st, .int .i64 most] w fun e w' => ∃ v, e = .returned (.tuple #[rdV (risR st most).2, v]) ∧ Same w w' ∧ Sl w' num v (risR st most).1 :=
  (rtr2_fr st most w hlen).mono fun e w' ⟨v, h1, h2, h3⟩ => ⟨v, h1, h2, h3.1⟩
end Go.Proofs.Ytjegohibpojneaa
