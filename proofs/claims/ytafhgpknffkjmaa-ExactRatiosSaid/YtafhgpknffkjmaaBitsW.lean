import Derived.Test.YtafhgpknffkjmaaBits
import Derived.Test.YtafhgpknffkjmaaProg
set_option linter.unusedVariables false
set_option linter.unusedSimpArgs false
namespace Go.Proofs.Ytafhgpknffkjmaa
open Go.RowKit

theorem Sl.take {α : Type} {w : World} {enc : α → Value} {ad : Option Addr} {c : Nat} {l : List α} (h : Sl w enc (.slice ad l.length c) l) (n : Nat) (hn : n ≤ l.length) : Sl w enc (.slice ad n c) (l.take n) := by
  obtain ⟨ad', c', he, h1, h2, h3, h4⟩ := h
  simp only [Value.slice.injEq] at he
  obtain ⟨rfl, -, rfl⟩ := he
  have hl : (l.take n).length = n := by simp; omega
  refine ⟨ad, c, by rw [hl], by omega, h2, h3, fun h0 => ?_⟩
  obtain ⟨b, off, rfl, hc⟩ := h4 (by omega)
  refine ⟨b, off, rfl, fun i hi => ?_⟩
  rw [hc i (by omega)]
  simp

/-- A slice of no block below base. -/
def Fr (base : Nat) (v : Value) : Prop := ∀ b off sp n c, v = .slice (some ⟨b, off, sp⟩) n c → base ≤ b
theorem Fr.mono {a b : Nat} {v : Value} (h : Fr b v) (hab : a ≤ b) : Fr a v := fun x off sp n c e => Nat.le_trans hab (h x off sp n c e)
theorem Fr.nil (b c : Nat) (base : Nat) : Fr base (.slice none b c) := by intro x off sp n c e; cases e
theorem own_fr {w : World} {base : Nat} {e : TypeId} {size n : Nat} {v : Value} {xs : List Value} (h : w.ownsRow base e size v n xs) : Fr base v := by
  intro b off sp m c hv
  rcases h.2 with ⟨rfl, _⟩ | ⟨g, cap, cur, rfl, hb, _⟩
  · cases hv
  · cases hv; exact hb
theorem Sl.keep {α : Type} {S : Nat → Prop} {w w' : World} {enc : α → Value} {v : Value} {l : List α} (h : Sl w enc v l) (ho : Only S w w') (hS : ∀ b off sp n c, v = .slice (some ⟨b, off, sp⟩) n c → ¬ S b) : Sl w' enc v l := by
  obtain ⟨ad, c, rfl, h1, h2, h3, h4⟩ := h
  refine ⟨ad, c, rfl, h1, h2, h3, fun h0 => ?_⟩
  obtain ⟨b, off, rfl, hc⟩ := h4 h0
  exact ⟨b, off, rfl, fun i hi => ho.cell_eq (hc i hi) (hS b off none _ c rfl)⟩

set_option maxRecDepth 100000 in
theorem bit_any (v : Value) (l : List Bool) (i : Nat) (w : World) (h : Sl w .bool v l) (hi : i ≤ 1000000000000) :
    Calls Try.prog 93 #[v, .int .i64 i] w fun e w' => e = .returned (.int .i64 (l.getD i false).toNat) ∧ Same w w' := by
  obtain ⟨ad, cp, rfl, hcp, hmx, hnil, hcell⟩ := h
  by_cases hlt : i < l.length
  · obtain ⟨b, off, rfl, hc⟩ := hcell (by omega)
    have k1 := hc i hlt
    have e : l.getD i false = l[i] := by rw [List.getD_eq_getElem?_getD, List.getElem?_eq_getElem hlt]; rfl
    rw [e]
    clear e hcell hc
    cases hb : l[i]
    all_goals
      rw [hb] at k1
      clear hb
      go_enter Try.func93, Try.ntmps93
      go_wp2
      go_ret
      exact ⟨rfl, Only.refl _ w⟩
  · have e : l.getD i false = false := by rw [List.getD_eq_getElem?_getD, List.getElem?_eq_none (by omega)]; rfl
    rw [e]
    clear e hcell
    go_enter Try.func93, Try.ntmps93
    go_wp2
    go_ret
    exact ⟨rfl, Only.refl _ w⟩

set_option maxRecDepth 100000 in
theorem trim_any (v : Value) (l : List Bool) (w : World) (h : Sl w .bool v l) (hl : l.length ≤ 1000000000000) :
    Calls Try.prog 94 #[v] w fun e w' => ∃ v', e = .returned v' ∧ Same w w' ∧ Sl w' .bool v' (nb (bv l)) ∧ ∀ base, Fr base v → Fr base v' := by
  have H := Lib.hid h
  obtain ⟨ad, cp, rfl, hcp, hmx, hnil, hcell⟩ := h
  have HC := Lib.hid hcell
  clear hcell
  go_enter Try.func94, Try.ntmps94
  go_wp2_with fail
  go_loopw [3] (fun i wr => ∃ n : Nat, n ≤ l.length ∧ i = .int .i64 n ∧ Same w wr ∧ bv (l.take n) = bv l) (fun i _ => (intOf i).toNat)
  case atStart => exact ⟨l.length, by omega, rfl, Only.refl _ _, by rw [List.take_length]⟩
  case round =>
    obtain ⟨n, hn, rfl, hS, hv⟩ := hrel
    have HV := Lib.hid hv
    clear hv
    by_cases h0 : 0 < n
    · obtain ⟨m, rfl⟩ : ∃ m, n = m + 1 := ⟨n - 1, by omega⟩
      obtain ⟨b, off, rfl, hc⟩ := HC.out (by omega)
      have k1 := hS.cell_eq (hc m (by omega)) (fun h => h)
      have HC2 := Lib.hid hc
      clear hc
      have e1 : ((m + 1 : Nat) : Int) - 1 = (m : Int) := by omega
      cases hb : l[m]
      · rw [hb] at k1
        have hv2 := trim_step l m hn HV.out hb
        have HV2 := Lib.hid hv2
        clear hb hv2
        go_wp2
        exact ⟨⟨m, by omega, rfl, hS, HV2.out⟩, by simp [intOf]⟩
      · rw [hb] at k1
        have hd := trim_done l (m + 1) hn HV.out (.inr ⟨by omega, hb⟩)
        have HD := Lib.hid hd
        clear hb hd
        go_wp2
        go_ret
        refine ⟨_, rfl, hS, ?_, fun base hb x off sp n c e => by cases e; exact hb _ _ _ _ _ rfl⟩
        rw [← HD.out]
        exact (H.out.same hS).take (m + 1) hn
    · obtain rfl : n = 0 := by omega
      have hd := trim_done l 0 hn HV.out (.inl rfl)
      have HD := Lib.hid hd
      clear hd
      have hfin : ∀ w', Same w w' → Sl w' .bool (.slice ad 0 cp) (nb (bv l)) := by
        intro w' hw'
        rw [← HD.out]
        exact (H.out.same hw').take 0 hn
      have HF := Lib.hid hfin
      clear hfin
      cases ad with
      | none =>
        obtain rfl := hnil rfl
        go_wp2
        go_ret
        exact ⟨_, rfl, hS, HF.out _ hS, fun base hb => Fr.nil _ _ _⟩
      | some a =>
        clear hnil
        go_wp2
        go_ret
        exact ⟨_, rfl, hS, HF.out _ hS, fun base hb x off sp n c e => by cases e; exact hb _ _ _ _ _ rfl⟩

theorem nb_step {n k : Nat} {out : List Bool} {b : Bool} (h : out ++ nb k = nb n) (hk : 0 < k) (hb : decide (k % 2 = 1) = b) : (out ++ [b]) ++ nb (k / 2) = nb n := by
  rw [← h, nb_pos hk, hb]; simp

set_option maxRecDepth 100000 in
theorem word2n_any (n : Nat) (w : World) (hn : n < 18446744073709551616) :
    Calls Try.prog 80 #[.int .u64 n] w fun e w' => ∃ v', e = .returned v' ∧ Same w w' ∧ Sl w' .bool v' (nb n) ∧ Fr w.heap.size v' := by
  have hn64 := nb_length_le n 64 (by omega)
  have HN := Lib.hid hn64
  clear hn64
  go_enter Try.func80, Try.ntmps80
  go_wp2_with fail
  go_loopw [0, 3] (fun v b wr => ∃ (k : Nat) (out : List Bool), k < 18446744073709551616 ∧ v = .int .u64 k ∧ Same w wr ∧ wr.ownsRow w.heap.size 4 1 b out.length (out.map .bool) ∧ out ++ nb k = nb n) (fun v _ _ => (intOf v).toNat)
  case atStart => exact ⟨n, [], hn, rfl, Only.refl _ _, World.ownsRow_nil _ _ _ _, rfl⟩
  case round =>
    obtain ⟨k, out, hk, rfl, hS, hown, heq⟩ := hrel
    have HW := Lib.hid hown; have HE := Lib.hid heq
    clear hown heq
    by_cases h0 : 0 < k
    · have hol : out.length < 64 := by
        have h1 := HE.out
        have h2 := congrArg List.length h1
        have h3 := nb_len_pos.2 h0
        have h4 := HN.out
        rw [List.length_append] at h2
        omega
      by_cases h2 : k % 2 = 1
      · have m1 : (k : Int).tmod 2 = 1 := by rw [Int.tmod_eq_emod_of_nonneg (by omega)]; omega
        have m2 : (k : Int) % 2 = 1 := by omega
        have HS := Lib.hid (nb_step HE.out h0 (decide_eq_true h2))
        go_wp2_with (at_builtin; refine app_one [.bool true] rfl (.tmp 6) (.tmp 10) 74 rfl w.heap.size 4 (.bool false) 1 1 Try.underlying74 (by kernel_rfl) rfl (by decide) _ out.length _ rfl HW.out rfl ?_ rfl (by intro u hu; simp at hu; subst hu; rfl) (by unfold maxLen; omega) (by omega) hS.size; intro v' w2 hown2 hO2)
        exact ⟨⟨k / 2, out ++ [true], by omega, by go_num, hS.trans hO2 (fun g h1 h2 => by omega), by simpa using hown2, HS.out⟩, by simp [intOf]; omega⟩
      · have m1 : (k : Int).tmod 2 = 0 := by rw [Int.tmod_eq_emod_of_nonneg (by omega)]; omega
        have m2 : (k : Int) % 2 = 0 := by omega
        have z01 : ((0 : Int) == 1) = false := by decide
        have HS := Lib.hid (nb_step HE.out h0 (decide_eq_false h2))
        go_wp2_with (at_builtin; refine app_one [.bool false] rfl (.tmp 6) (.tmp 10) 74 rfl w.heap.size 4 (.bool false) 1 1 Try.underlying74 (by kernel_rfl) rfl (by decide) _ out.length _ rfl HW.out rfl ?_ rfl (by intro u hu; simp at hu; subst hu; rfl) (by unfold maxLen; omega) (by omega) hS.size; intro v' w2 hown2 hO2)
        exact ⟨⟨k / 2, out ++ [false], by omega, by go_num, hS.trans hO2 (fun g h1 h2 => by omega), by simpa using hown2, HS.out⟩, by simp [intOf]; omega⟩
    · obtain rfl : k = 0 := by omega
      have he := HE.out
      rw [nb_zero, List.append_nil] at he
      subst he
      go_wp2
      go_ret
      exact ⟨_, rfl, hS, own_sl HW.out, own_fr HW.out⟩

set_option maxRecDepth 100000 in
set_option maxHeartbeats 1000000 in
theorem plus_any (v1 v2 : Value) (a b : List Bool) (w : World) (h1 : Sl w .bool v1 a) (h2 : Sl w .bool v2 b) (hla : a.length ≤ 1000000) (hlb : b.length ≤ 1000000) :
    Calls Try.prog 77 #[v1, v2] w fun e w' => ∃ v', e = .returned v' ∧ Same w w' ∧ Sl w' .bool v' (nb (bv a + bv b)) ∧ Fr w.heap.size v' := by
  have H1 := Lib.hid h1; have H2 := Lib.hid h2
  obtain ⟨ad1, c1, rfl, hc1, hm1, _, _⟩ := h1
  obtain ⟨ad2, c2, rfl, hc2, hm2, _, _⟩ := h2
  unfold maxLen at hm1 hm2
  go_enter Try.func77, Try.ntmps77
  go_wp2_with fail
  go_loopw [5, 6, 7] (fun out c i wr => ∃ (k cc : Nat) (o : List Bool), k ≤ a.length + b.length + 1 ∧ i = .int .i64 k ∧ c = .int .i64 cc ∧ cc ≤ 1 ∧ o.length = k ∧ Same w wr ∧ wr.ownsRow w.heap.size 4 1 out k (o.map .bool) ∧ bv o + cc * 2 ^ k = bv (a.take k) + bv (b.take k)) (fun _ _ i _ => a.length + b.length + 1 - (intOf i).toNat)
  case atStart => exact ⟨0, 0, [], by omega, rfl, rfl, by omega, rfl, Only.refl _ _, World.ownsRow_nil _ _ _ _, by simp [bv]⟩
  case round =>
    obtain ⟨k, cc, o, hk, rfl, rfl, hcc, hol, hS, hown, heq⟩ := hrel
    have HW := Lib.hid hown
    clear hown
    by_cases hlt : k ≤ a.length + b.length
    · have hps := plus_step a b o k cc hol heq
      have ca := fun w0 (hS0 : Same w w0) => bit_any _ a k w0 (H1.out.same hS0) (by omega)
      have cb := fun w0 (hS0 : Same w w0) => bit_any _ b k w0 (H2.out.same hS0) (by omega)
      have hxl : (a.getD k false).toNat ≤ 1 := Bool.toNat_le _
      have hyl : (b.getD k false).toNat ≤ 1 := Bool.toNat_le _
      generalize (a.getD k false).toNat = x at *
      generalize (b.getD k false).toNat = y at *
      have HP := Lib.hid hps; have CA := Lib.hid ca; have CB := Lib.hid cb; have HOL := Lib.hid hol
      clear hps ca cb heq hol
      have z01 : ((0 : Int) == 1) = false := by decide
      by_cases hp : (x + y + cc) % 2 = 1
      · have m1 : ((x : Int) + (y : Int) + (cc : Int)).tmod 2 = 1 := by rw [Int.tmod_eq_emod_of_nonneg (by omega)]; omega
        have m2 : ((x : Int) + (y : Int) + (cc : Int)) % 2 = 1 := by omega
        have hpp := HP.out
        rw [decide_eq_true hp] at hpp
        have HP := Lib.hid hpp
        clear hpp
        go_wp2_with fail
        refine (CA.out _ hS).mono ?_
        rintro e w2 ⟨rfl, hS2⟩
        have hSa := hS.then hS2
        go_wp2_with fail
        refine (CB.out _ hSa).mono ?_
        rintro e w3 ⟨rfl, hS3⟩
        have hSb := hSa.then hS3
        go_wp2_with ((at_builtin; refine app_one [.bool true] rfl (.tmp 27) (.tmp 31) 74 rfl w.heap.size 4 (.bool false) 1 1 Try.underlying74 (by kernel_rfl) rfl (by decide) _ k _ rfl (own_same (own_same HW.out hS2) hS3) rfl ?_ rfl (by intro u hu; simp at hu; subst hu; rfl) (by unfold maxLen; omega) (by omega) hSb.size; intro v' w4 hown4 hO4))
        exact ⟨⟨k + 1, (x + y + cc) / 2, o ++ [true], by omega, by go_num, by go_num, by omega, by simp; exact HOL.out, hSb.trans hO4 (fun g h1 h2 => by omega), by simpa using hown4, HP.out⟩, by simp [intOf]; omega⟩
      · have m1 : ((x : Int) + (y : Int) + (cc : Int)).tmod 2 = 0 := by rw [Int.tmod_eq_emod_of_nonneg (by omega)]; omega
        have m2 : ((x : Int) + (y : Int) + (cc : Int)) % 2 = 0 := by omega
        have hpp := HP.out
        rw [decide_eq_false hp] at hpp
        have HP := Lib.hid hpp
        clear hpp
        go_wp2_with fail
        refine (CA.out _ hS).mono ?_
        rintro e w2 ⟨rfl, hS2⟩
        have hSa := hS.then hS2
        go_wp2_with fail
        refine (CB.out _ hSa).mono ?_
        rintro e w3 ⟨rfl, hS3⟩
        have hSb := hSa.then hS3
        go_wp2_with ((at_builtin; refine app_one [.bool false] rfl (.tmp 27) (.tmp 31) 74 rfl w.heap.size 4 (.bool false) 1 1 Try.underlying74 (by kernel_rfl) rfl (by decide) _ k _ rfl (own_same (own_same HW.out hS2) hS3) rfl ?_ rfl (by intro u hu; simp at hu; subst hu; rfl) (by unfold maxLen; omega) (by omega) hSb.size; intro v' w4 hown4 hO4))
        exact ⟨⟨k + 1, (x + y + cc) / 2, o ++ [false], by omega, by go_num, by go_num, by omega, by simp; exact HOL.out, hSb.trans hO4 (fun g h1 h2 => by omega), by simpa using hown4, HP.out⟩, by simp [intOf]; omega⟩
    · obtain rfl : k = a.length + b.length + 1 := by omega
      have hpd := plus_done a b o cc hol heq
      have HP := Lib.hid hpd
      clear hpd heq
      go_wp2_with (go_at_call 94; refine (trim_any _ o _ (own_sl HW.out) (by omega)).mono ?_; rintro e w2 ⟨v2, rfl, hS2, hV2, hF2⟩; have HV2 := Lib.hid hV2; have HF2 := Lib.hid hF2; clear hV2 hF2)
      go_ret
      refine ⟨_, rfl, hS.then hS2, ?_, HF2.out _ (own_fr HW.out)⟩
      rw [← HP.out]
      exact HV2.out
end Go.Proofs.Ytafhgpknffkjmaa
