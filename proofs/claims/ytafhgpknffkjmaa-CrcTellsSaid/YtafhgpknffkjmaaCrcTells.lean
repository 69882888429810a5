import Derived.Test.YtafhgpknffkjmaaCrcAwake
set_option linter.unusedVariables false
set_option linter.unusedSimpArgs false
namespace Go.Proofs.Ytafhgpknffkjmaa
open Go.RowKit

set_option maxRecDepth 100000 in
theorem crcTells_walk (v : Value) (l : List ByteArray) (w : World) (hv : Sl w .string v l) (hl : ∀ s ∈ l, s.size ≤ maxLen) :
    Calls Try.prog 3 #[v] w fun e w' => e = .returned (.bool true) ∧ Same w w' := by
  obtain ⟨ad, cp, rfl, hcp, hmx, hnil, hcell⟩ := hv
  unfold maxLen at hmx
  by_cases h30 : 30 < l.length
  · go_enter Try.func3, Try.ntmps3
    go_wp2_with (go_at_call 11; refine (awake1_any _).mono ?_; rintro e w1 ⟨rfl, hS1⟩)
    go_ret
    exact ⟨rfl, hS1⟩
  · go_enter Try.func3, Try.ntmps3
    go_wp2_with (first | (go_at_call 11; refine (awake1_any _).mono ?_; rintro e w1 ⟨rfl, hS1⟩) | (go_at_call 12; refine (new_any _).mono ?_; rintro e w2 ⟨rfl, hS2, hM2⟩))
    have hcell' : ∀ k, (h : k < l.length) → ∃ b off, ad = some ⟨b, off, none⟩ ∧ w.cell? ⟨b, off + k, none⟩ = some (.string l[k]) := fun k h => by
      obtain ⟨b, off, e, hc⟩ := hcell (by omega)
      exact ⟨b, off, e, hc k h⟩
    have HC := Lib.hid hcell'; have HC0 := Lib.hid hcell; have HL := Lib.hid hl; have HN := Lib.hid hnil
    clear hcell' hcell hl hnil
    go_loopw [3, 5] (fun A i wr => ∃ (k : Nat) (s : ByteArray), k ≤ l.length ∧ i = .int .i64 k ∧ A = .string s ∧ s.data.toList = cat (l.take k) ∧ s.size ≤ 6000 ∧ Same w wr ∧ ∃ d, (d = 0 ∨ d = 1) ∧ Met wr w1.heap.size d (crcAll s.data.toList 4294967295) s.size) (fun _ i _ => l.length - (intOf i).toNat)
    case atStart => exact ⟨0, _, by omega, rfl, rfl, by simp [cat], by decide, hS1.then hS2, 0, .inl rfl, hM2⟩
    case round =>
      obtain ⟨k, s, hk, rfl, rfl, hcat, hsz, hS, d, hd, hM⟩ := hrel
      by_cases hlt : k < l.length
      · obtain ⟨b, off, rfl, hc⟩ := HC.out k hlt
        have hck := hS.cell_eq hc (fun h => h)
        have hmax := HL.out l[k] (List.getElem_mem hlt)
        have hmax' := hmax
        unfold maxLen at hmax'
        by_cases h2000 : 2000 < l[k].size
        · go_wp2
          go_ret
          exact ⟨rfl, hS⟩
        · by_cases h4000 : 4000 < s.size
          · go_wp2
            go_ret
            exact ⟨rfl, hS⟩
          · have hc0 := crcAll_range s.data.toList 4294967295 (by omega)
            have happ : (s ++ l[k]).data.toList = s.data.toList ++ l[k].data.toList := by simp
            have hsum : bits .xor .u32 (crcAll l[k].data.toList (crcAll s.data.toList 4294967295)) 4294967295 = rsum (s ++ l[k]).data.toList := by
              rw [rsum_eq, happ]; unfold crcSum; rw [crcAll_append]
            have hw : wrap64 ((s.size : Int) + l[k].size) = ((s ++ l[k]).size : Nat) := by rw [ByteArray.size_append]; unfold wrap64; omega
            have hcat' : (s ++ l[k]).data.toList = cat (l.take (k + 1)) := by rw [happ, hcat, cat_take l k hlt]
            have hsz' : (s ++ l[k]).size ≤ 6000 := by rw [ByteArray.size_append]; omega
            have HH := Lib.hid (And.intro happ (And.intro hsum (And.intro hw (And.intro hcat' hsz'))))
            clear happ hsum hw hcat' hc hcat
            have hszm : (s ++ l[k]).size ≤ maxLen := by unfold maxLen; omega
            go_wp2_with fail
            refine (add_any _ d _ _ l[k] hmax hd hc0 _ hM).mono ?_
            rintro e w3 ⟨rfl, hO3, hM3⟩
            have hS3 : Same w w3 := hS.trans hO3 (fun j hj h => by have := hS1.size; omega)
            rw [HH.out.2.2.1] at hM3
            go_wp2_with fail
            refine (msum_any _ _ _ _ _ hM3).mono ?_
            rintro e w4 ⟨he, rfl⟩
            rw [HH.out.2.1] at he
            subst he
            go_wp2_with fail
            refine (rsum_any _ _ hszm).mono ?_
            rintro e w5 ⟨rfl, rfl⟩
            go_wp2_with fail
            refine (mlen_any _ _ _ _ _ hM3).mono ?_
            rintro e w5 ⟨rfl, rfl⟩
            rw [show (((s ++ l[k]).size : Nat) : Int) = ((s.size : Int) + l[k].size) by rw [ByteArray.size_append]; omega]
            go_wp2_with fail
            refine ⟨⟨k + 1, s ++ l[k], by omega, by go_num, rfl, HH.out.2.2.2.1, HH.out.2.2.2.2, hS3, 1, .inr rfl, ?_⟩, by simp [intOf]; omega⟩
            rw [HH.out.1, crcAll_append]
            exact hM3
      · have hall : s.data.toList = cat l := by rw [hcat, List.take_of_length_le (by omega)]
        have hszm : s.size ≤ maxLen := by unfold maxLen; omega
        have hSl : Sl w .string (.slice ad l.length cp) l := ⟨ad, cp, rfl, hcp, (by unfold maxLen; omega), HN.out, HC0.out⟩
        have HH := Lib.hid (And.intro hall hSl)
        clear hall hSl hcat
        go_wp2_with fail
        refine (open_any s _ hszm).mono ?_
        rintro e w3 ⟨rfl, hS3⟩
        go_wp2_with fail
        refine (ropen_any s _ hszm).mono ?_
        rintro e w4 ⟨rfl, hS4⟩
        rw [ropenOf_eq]
        have hS4' : Same w w4 := (hS.then hS3).then hS4
        clear hM hS3 hS4 hM2
        generalize openOf s = op at *
        have hSl4 := (HH.out.2.same hS4').news
        have hown := World.ownsRow_lit (base := w4.heap.size) (e := 9) (size := 1) w4 #[] 0 (Nat.le_refl _) (by simp [maxLen]) rfl
        have HA := Lib.hid (And.intro hSl4 hown)
        clear hSl4 hown
        have e0 : (w4.alloc (.cells #[] 9)).heap.size = w4.heap.size + 1 := by simp
        go_wp2_with (at_builtin; refine app_any rfl (.tmp 67) (.tmp 68) 22 rfl w4.heap.size 9 (.string ⟨#[]⟩) 1 16 Try.underlying22 (by kernel_rfl) rfl (by decide) _ 0 [] rfl HA.out.2 _ _ _ (l.map Value.string) rfl ?_ ?c1 ?c2 ?c3 ?c4 ?c5 ?c6 ?c7; intro v' w5 hown5 hO5)
        case c1 => simp
        case c2 => exact HA.out.1.2.1
        case c3 => intro b hb j u hu; exact ((Only.refl (fun _ => False) w4).alloc _).cell_at (HA.out.1.2.2 b hb j u hu) (fun h => h)
        case c4 => intro u hu; obtain ⟨x, _, rfl⟩ := List.mem_map.1 hu; rfl
        case c5 => unfold maxLen; omega
        case c6 => omega
        case c7 => simp
        rw [List.nil_append] at hown5
        refine (csum_any v' l _ (own_sl hown5) HL.out).mono ?_
        rintro e w6 ⟨rfl, hS6⟩
        have hS6' : Same w w6 := ((hS4'.alloc _).trans hO5 (fun k hk h => by have := hS4'.size; omega)).then hS6
        rw [← HH.out.1]
        go_wp2_with fail
        refine (rsum_any s _ hszm).mono ?_
        rintro e w7 ⟨rfl, rfl⟩
        rw [rsum_eq]
        go_wp2_with fail
        have hszm4 : s.size + 4 ≤ maxLen := by unfold maxLen; omega
        refine (seal_any s _ hszm4).mono ?_
        rintro e w8 ⟨rfl, hS8⟩
        go_wp2_with fail
        refine (rseal_any s _ hszm4).mono ?_
        rintro e w9 ⟨rfl, hS9⟩
        rw [rsealOf_eq]
        have hS9' := (hS6'.then hS8).then hS9
        clear hS8 hS9 hS6
        go_wp2_with fail
        go_ret
        exact ⟨rfl, hS9'⟩
end Go.Proofs.Ytafhgpknffkjmaa
