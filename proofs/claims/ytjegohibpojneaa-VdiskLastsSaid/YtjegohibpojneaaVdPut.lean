import Derived.Test.YtjegohibpojneaaVdRange
set_option linter.unusedVariables false
set_option linter.unusedSimpArgs false
namespace Go.Proofs.Ytjegohibpojneaa
open Go.RowKit
open Go.Maps (Keyed)
open Go.WideElems (rg rd Fit)
open Go.ChangeMaps (setBlock heap_setBlock_same heap_setBlock_other)
open Go.MapKept Go.WideShapes

/-! 'm[k] = v' at a key that is there, amid a range over m -/
theorem rg_key {P : Program} {k : TypeId} {x y : MapEntry} (h : x.key = y.key) : (rg P k mS x).1 = (rg P k mS y).1 := by
  unfold rg rd mS
  rw [h]
  cases keyOf P k y.key <;> rfl
theorem ranges_put {P : Program} {k e t : TypeId} {w : World} {b r n cnt : Nat} {D : DataW Value} {left : Lit → Bool} (h : w.ranges P k mS b r n D left cnt) (hk : P.underlying k = some .string) (ht : P.underlying t = some (.map k e)) (hn : n < maxLen)
    (s : ByteArray) (hs : s.size ≤ maxLen) (v : Value) (hhas : Maps.has D (.string s.data.toList) = true) :
    ∃ w', (Instr.mapUpdate t (.map (some b)) (.string s) v).run P w = .ok () w' ∧ w'.ranges P k mS b r n (D.put (.string s.data.toList) (.held v)) left cnt ∧ Only (· = b) w w' := by
  have hne := World.ranges.ne h
  obtain ⟨es, clock, since, seen, c0, hb, F, hsz, rfl, hr, hold, hcnt, hl1, hl2, hsc, hsk⟩ := h
  have K := Maps.string_keyed hk
  have hkey := WideMaps.keyOf_string_mk hk hs
  obtain ⟨es', clock', hrun, F', hput, _⟩ := Maps.fit_store (R' := mS) (val := v) (yv := (.held v, [])) K ht hb F (Nat.lt_of_le_of_lt hsz hn) (fun _ _ _ _ hz => hz) hkey rfl
  rcases K.find w hkey es.toList F.keys with ⟨h1, h2⟩ | ⟨j, e0, h1, h2, h3⟩
  · exfalso
    rw [Maps.has_eq] at hhas
    obtain ⟨p, hp, hsame⟩ := List.any_eq_true.1 hhas
    obtain ⟨x, hx, rfl⟩ := List.mem_map.1 (mem_sorted.1 hp)
    obtain ⟨y, hy⟩ := F.reads x hx
    rw [WideElems.rg_of hy] at hsame
    unfold rd at hy
    simp only [Option.bind_eq_some_iff, Option.map_eq_some_iff] at hy
    obtain ⟨kx, hkx, z, hz, rfl⟩ := hy
    simp only at hsame
    obtain ⟨s', e1, e2, _⟩ := WideMaps.string_of_keyOf hk hkx
    subst e2
    have e3 : s'.data.toList = s.data.toList := by simpa [Lit.sameKey] using hsame
    rw [e3] at hkx
    exact h2 x hx (K.inj hkx hkey)
  · have hj : es[j]? = some e0 := by simpa using h2
    have hrun2 : (Instr.mapUpdate t (.map (some b)) (.string s) v).run P w = .ok () (setBlock w b (.map (es.modify j (fun e' => { e' with key := .string s, val := v })) clock)) := by
      simp [Instr.mapUpdate, run_underlying ht, MapKept.run_getObj_map hb, K.check w false hkey, h1, hj, h3, K.stays w hkey, MapKept.run_setObj_map _ hb, Result.andThen, setBlock]
    have heq : es' = es.modify j (fun e' => { e' with key := .string s, val := v }) ∧ clock' = clock := by
      have h5 := hrun.symm.trans hrun2
      injection h5 with _ h6
      have h7 := congrArg (fun w : World => w.heap[b]?) h6
      rw [heap_setBlock_same hb, heap_setBlock_same hb] at h7
      injection h7 with h7
      injection h7 with h8 h9
      exact ⟨h8, h9⟩
    obtain ⟨rfl, rfl⟩ := heq
    have hat : ∀ i : Nat, (es.modify j (fun e' => { e' with key := .string s, val := v })).toList[i]? = (es.toList[i]?).map (fun x => if i = j then { x with key := .string s, val := v } else x) := by
      intro i
      rw [Array.toList_modify, List.getElem?_modify]
      by_cases hij : j = i
      · subst hij; simp
      · have : i ≠ j := fun h => hij h.symm
        simp [hij, this]
    have hA : ∀ x' ∈ (es.modify j (fun e' => { e' with key := .string s, val := v })).toList, ∃ x ∈ es.toList, x.born = x'.born ∧ x.key = x'.key := by
      intro x' hx'
      obtain ⟨i, hi⟩ := List.mem_iff_getElem?.1 hx'
      rw [hat i] at hi
      obtain ⟨x, hx, rfl⟩ := Option.map_eq_some_iff.1 hi
      refine ⟨x, List.mem_of_getElem? hx, ?_⟩
      by_cases hij : i = j
      · subst hij
        rw [h2] at hx
        injection hx with hx
        subst hx
        simp [h3]
      · simp [hij]
    have hB : ∀ x ∈ es.toList, ∃ x' ∈ (es.modify j (fun e' => { e' with key := .string s, val := v })).toList, x'.born = x.born ∧ x'.key = x.key := by
      intro x hx
      obtain ⟨i, hi⟩ := List.mem_iff_getElem?.1 hx
      have hi' := hat i
      rw [hi] at hi'
      refine ⟨_, List.mem_of_getElem? hi', ?_⟩
      by_cases hij : i = j
      · subst hij
        rw [h2] at hi
        injection hi with hi
        subst hi
        simp [h3]
      · simp [hij]
    have hC : (es.modify j (fun e' => { e' with key := .string s, val := v })).toList.map (·.born) = es.toList.map (·.born) := by
      refine List.ext_getElem? (fun i => ?_)
      rw [List.getElem?_map, List.getElem?_map, hat i]
      cases es.toList[i]? with
      | none => rfl
      | some x => by_cases hij : i = j <;> simp [hij]
    have hO : Only (· = b) w (setBlock w b (.map (es.modify j (fun e' => { e' with key := .string s, val := v })) clock')) :=
      ⟨rfl, rfl, rfl, by simp [setBlock], fun i _ hi => heap_setBlock_other hb _ (fun e => hi (by rw [e]))⟩
    refine ⟨_, hrun, ⟨_, clock', since, seen, c0, heap_setBlock_same hb _, F', by simpa using hsz, by rw [DataW.put_eq, hput], hO.heap hr hne, ?_, ?_, ?_, ?_, hsc, hsk⟩, hO⟩
    · intro x' hx'
      obtain ⟨x, hx, e1, _⟩ := hA x' hx'
      rw [← e1]; exact hold x hx
    · rw [← hcnt]
      have hlo : ∀ es : Array MapEntry, (leftOf es seen).size = es.toList.countP fun e => !seen.contains e.born := fun es => by
        unfold leftOf
        rw [← Array.length_toList, Array.toList_filter, ← List.countP_eq_length_filter]
      rw [hlo, hlo]
      have := congrArg (List.countP (fun b => !seen.contains b)) hC
      rw [List.countP_map, List.countP_map] at this
      exact this
    · intro x' hx'
      obtain ⟨x, hx, e1, e2⟩ := hA x' hx'
      rw [← e1, ← rg_key e2]
      exact hl1 x hx
    · intro kl hkl
      obtain ⟨x, hx, e3⟩ := hl2 kl hkl
      obtain ⟨x', hx', e1, e2⟩ := hB x hx
      exact ⟨x', hx', by rw [rg_key e2]; exact e3⟩
end Go.Proofs.Ytjegohibpojneaa
