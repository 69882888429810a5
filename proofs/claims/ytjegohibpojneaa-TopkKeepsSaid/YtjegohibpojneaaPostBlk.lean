import Derived.Test.YtjegohibpojneaaPostRef
set_option linter.unusedVariables false
set_option linter.unusedSimpArgs false
namespace Go.Proofs.Ytjegohibpojneaa
open Go.RowKit

theorem SlP.sub {w : World} {b off n c : Nat} {l : List (Int × Int)} (h : SlP w (.slice (some ⟨b, off, none⟩) n c) l) (i e : Nat) (hi : i ≤ e) (he : e ≤ l.length) (h0 : i < l.length) :
    SlP w (.slice (some ⟨b, off + i * 2, none⟩) (e - i) (c - i)) ((l.drop i).take (e - i)) := by
  obtain ⟨ad', c', e', h1, h2, h3, h4⟩ := h
  simp only [Value.slice.injEq] at e'
  obtain ⟨rfl, rfl, rfl⟩ := e'
  have hl : ((l.drop i).take (e - i)).length = e - i := by simp; omega
  refine ⟨some ⟨b, off + i * 2, none⟩, c - i, by rw [hl], by omega, by omega, (by intro h; cases h), fun _ => ⟨b, off + i * 2, rfl, fun k hk => ?_⟩⟩
  rw [hl] at hk
  obtain ⟨b', o', e2, hc⟩ := h4 (by omega)
  simp only [Option.some.injEq, Addr.mk.injEq] at e2
  obtain ⟨rfl, rfl, -⟩ := e2
  have := hc (i + k) (by omega)
  have e3 : ((l.drop i).take (e - i))[k] = l[i + k] := by simp
  rw [e3, show off + i * 2 + k * 2 = off + (i + k) * 2 by omega]
  exact this
set_option maxRecDepth 100000 in
set_option maxHeartbeats 2000000 in
theorem rblock_any (v : Value) (l : List (Int × Int)) (doc : Int) (w : World) (hv : SlP w v l) (hl : l.length ≤ 1000000) : Calls Try.prog 48 #[v, .int .i64 doc] w fun e w' => e = .returned (.tuple #[.int .i64 (blockP l doc).1, .int .i64 (blockP l doc).2]) ∧ Same w w' := by
  have HV := Lib.hid hv
  obtain ⟨ad, cp, rfl, hcp, hmx⟩ := hv.lit
  unfold maxLen at hmx
  obtain ⟨r, hr⟩ : ∃ r, r = blockP l doc := ⟨_, rfl⟩
  rw [← hr]
  have HR := Lib.hid hr
  clear hv hr
  go_enter Try.func48, Try.ntmps48
  go_wp2_with fail
  go_loopw [6] (fun v wr => ∃ i : Nat, i < l.length + 4 ∧ i % 4 = 0 ∧ v = .int .i64 i ∧ Same w wr ∧ ∀ k, k < i / 4 → lastP l k < doc) (fun v _ => l.length - (intOf v).toNat)
  case atStart => exact ⟨0, by omega, rfl, rfl, Only.refl _ _, fun k hk => by omega⟩
  case round =>
    obtain ⟨i, hi, hi4, rfl, hS, hA⟩ := hrel
    have HA := Lib.hid hA; have HI := Lib.hid hi4
    clear hA hi4
    by_cases hlt : i < l.length
    · obtain ⟨b, off, rfl, hc⟩ := HV.out.spot (by omega)
      obtain ⟨en, hen⟩ : ∃ en, en = min (i + 4) l.length := ⟨_, rfl⟩
      have hc0 := hS.cell_eq (hc (en - 1) (by omega)).1 (fun h => h)
      have hlast : lastP l (i / 4) = l[en - 1].1 := by
        unfold lastP
        have e4 : 4 * (i / 4) = i := by have := HI.out; omega
        rw [e4, ← hen, docsP_get l (en - 1) (by omega)]
      rw [← hlast] at hc0
      have cm := fun w0 hS0 => rmax_eq _ _ w0 (((HV.out.same hS).same hS0).sub i en (by omega) (by omega) hlt)
      have hch : (l.drop i).take (en - i) = chunkP l (i / 4) := by
        unfold chunkP
        have e4 : 4 * (i / 4) = i := by have := HI.out; omega
        rw [e4]
        apply List.ext_getElem
        · simp; omega
        · intro n h1 h2; simp
      rw [hch] at cm
      have CM := Lib.hid cm
      have hb1 : en ≤ l.length := by omega
      have hb2 : i < en := by omega
      have hb3 : ((en : Int) - 1).toNat = en - 1 := by omega
      have hb4 : (0 : Int) ≤ (en : Int) - 1 := by omega
      have hb5 : (en : Int) - 1 < (l.length : Int) := by omega
      clear hc cm hch hlast
      have hb6 : ¬ i = cp := by omega
      have hb7 : ¬ cp = i := by omega
      have hb8 : ¬ (i : Int) = (cp : Int) := by omega
      have hb9 : (i : Int) ≤ (l.length : Int) := by omega
      have hb10 : (i : Int) ≤ (en : Int) := by omega
      have hb11 : (en : Int) ≤ (cp : Int) := by omega
      have HFI := Lib.hid (fun hge : doc ≤ lastP l (i / 4) => findP_is l doc (i / 4) (by unfold nbP; omega) HA.out (fun _ => hge))
      have hnb : i / 4 < nbP l := by unfold nbP; have := HI.out; omega
      have HNB := Lib.hid hnb
      clear hnb
      have hcase : (l.length < i + 4 ∧ en = l.length) ∨ (i + 4 ≤ l.length ∧ (i : Int) + 4 = (en : Int)) := by omega
      clear hen
      rcases hcase with ⟨h4, rfl⟩ | ⟨h4, hE⟩
      all_goals
        by_cases hge : doc ≤ lastP l (i / 4)
        · have hr2 : blockP l doc = (maxP (chunkP l (i / 4)), lastP l (i / 4)) := by unfold blockP; rw [HFI.out hge, if_pos HNB.out]; rfl
          have HR2 := Lib.hid hr2
          clear hr2
          generalize lastP l (i / 4) = y at *
          go_wp2_with fail
          go_quiet ((go_at_call 34; exact Calls.quiet_of_same (CM.out _ ((Only.refl _ _).drewN _))))
          rename_i nq
          go_wp2
          go_ret2
          rw [HR.out, HR2.out]
          exact ⟨rfl, hS.drewN nq⟩
        · have HN := Lib.hid (fun k (hk : k < i / 4 + 1) => show lastP l k < doc from by
            rcases Nat.lt_or_eq_of_le (Nat.le_of_lt_succ hk) with h | rfl
            · exact HA.out k h
            · omega)
          generalize lastP l (i / 4) = y at *
          clear HFI CM
          go_wp2_with fail
          go_roundw
          case rel => exact ⟨i + 4, by omega, by have := HI.out; omega, by go_num, hS, fun k hk => HN.out k (by omega)⟩
          case measure => simp [intOf]; omega
    · have hr2 : blockP l doc = (0, -1) := by
        unfold blockP
        rw [findP_is l doc (nbP l) (Nat.le_refl _) (fun k hk => HA.out k (by unfold nbP at hk; have := HI.out; omega)) (fun h => by omega), if_neg (by omega)]
      have HR2 := Lib.hid hr2
      clear hr2
      go_wp2_with fail
      go_ret2
      rw [HR.out, HR2.out]
      exact ⟨rfl, hS⟩
end Go.Proofs.Ytjegohibpojneaa
