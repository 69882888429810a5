import Derived.Test.YtjegohibpojneaaVdPlain
import Derived.Test.YtjegohibpojneaaVdUsed
import Derived.StillTailTactics
set_option linter.unusedVariables false
set_option linter.unusedSimpArgs false
namespace Go.Proofs.Ytjegohibpojneaa
open Go.RowKit
attribute [local go_sem ↓] Go.wp_at_zero Go.wp_at_succ

/-- What a failure leaves of a file. -/
def cutF (keep : Int) (f : FileP) : FileP := (f.1.extract 0 (f.2 + min keep ((f.1.size : Int) - f.2)).toNat, f.2 + min keep ((f.1.size : Int) - f.2))
def FOK (F : EnS FileP) : Prop := ∀ p ∈ F, 0 ≤ p.2.2 ∧ p.2.2 ≤ (p.2.1.size : Int)
def crashD (d : Dk) (keep : Int) : Dk := if d.down then d else { d with F := d.F.map fun p => (p.1, cutF (max keep 0) p.2), cat := 0, ckeep := 0, down := true }
/-- The files amid a range: those that are still to come as they were. -/
def midS (g : FileP → FileP) (left : Lit → Bool) (F : EnS FileP) : EnS FileP := F.map fun p => (p.1, if left (.string p.1) then p.2 else g p.2)
theorem mid_sort (g : FileP → FileP) (left : Lit → Bool) {F : EnS FileP} (h : SortS F) : SortS (midS g left F) := by unfold midS SortS; rw [List.pairwise_map]; exact h
theorem mid_start (g : FileP → FileP) (left : Lit → Bool) {F : EnS FileP} (h : ∀ p ∈ F, left (.string p.1) = true) : midS g left F = F := by
  unfold midS
  rw [List.map_congr_left (g := id) (fun p hp => by rw [h p hp]; rfl), List.map_id]
theorem mid_end (g : FileP → FileP) (left : Lit → Bool) (F : EnS FileP) (h : ∀ kl, left kl = false) : midS g left F = F.map fun p => (p.1, g p.2) := by
  unfold midS
  exact List.map_congr_left (fun p _ => by rw [h]; rfl)
theorem mid_mem (g : FileP → FileP) (left : Lit → Bool) {F : EnS FileP} {k : List UInt8} {x : FileP} (h : (k, x) ∈ midS g left F) (hl : left (.string k) = true) : (k, x) ∈ F := by
  unfold midS at h
  obtain ⟨p, hp, e⟩ := List.mem_map.1 h
  injection e with e1 e2
  subst e1
  rw [hl] at e2
  simp only [if_true] at e2
  rw [← e2]; exact hp
theorem mid_step (g : FileP → FileP) (left : Lit → Bool) {F : EnS FileP} (hs : SortS F) {k : List UInt8} {x : FileP} (h : (k, x) ∈ F) (hl : left (.string k) = true) : putS (midS g left F) k (g x) = midS g (fun z => left z && !z.sameKey (.string k)) F := by
  rw [putS_mem k (g x) (mid_sort g left hs) ⟨x, by unfold midS; exact List.mem_map.2 ⟨(k, x), h, by simp [hl]⟩⟩]
  unfold midS
  rw [List.map_map]
  refine List.map_congr_left (fun p hp => ?_)
  simp only [Function.comp]
  have hsk : (Lit.string p.1).sameKey (.string k) = (p.1 == k) := rfl
  by_cases e : p.1 = k
  · have hpx : p.2 = x := by
      have h1 := getS_has hs (show (k, p.2) ∈ F by rw [← e]; exact hp)
      have h2 := getS_has hs h
      rw [h1] at h2
      exact Option.some.inj h2
    rw [if_pos e]
    have h4 : (Lit.string k).sameKey (.string k) = true := by show (k == k) = true; simp
    simp [e, hpx, h4]
  · rw [if_neg e]
    simp [hsk, e]
/-- 'm[k] = v' amid a range over m, at a key that is there, at the operation. -/
theorem mps_rput {P : Program} (w : World) {ops : Array Oper} {rest : List Oper} {o : Oper} {a : Act} {Q : Exit → Act → World → Prop}
    (hg : o.guard = none) (mo xo vo : Operand) (t : TypeId) (hop : o.op = Op.mapUpdate t mo xo vo) (k e : TypeId) (hk : P.underlying k = some .string) (ht : P.underlying t = some (.map k e)) (b r n : Nat) (D : DataW Value) (left : Lit → Bool) (cnt : Nat)
    (hm : a.eval mo = .map (some b)) (h : w.ranges P k mS b r n D left cnt) (hn : n < maxLen) (s : ByteArray) (v : Value) (hx : a.eval xo = .string s) (hv : a.eval vo = v) (hs : s.size ≤ maxLen) (hhas : Maps.has D (.string s.data.toList) = true)
    (hK : ∀ w', w'.ranges P k mS b r n (D.put (.string s.data.toList) (.held v)) left cnt → Only (· = b) w w' → wpList P ops Q rest (a.put o.dst undef) w') :
    wpList P ops Q (o :: rest) a w := by
  refine wpList_plain hg fun K' hK' => ?_
  obtain ⟨w', hrun, r1, r2⟩ := ranges_put h hk ht hn s hs v hhas
  unfold Oper.wp
  simp [execOp, hop, hm, hx, hv, hrun, Result.andThen]
  exact hK' _ _ (hK w' r1 r2)
theorem used_mem {F : EnS FileP} {k : List UInt8} {x : FileP} (h : (k, x) ∈ F) : x.1.size ≤ usedP F := by
  unfold usedP
  induction F with
  | nil => simp at h
  | cons y r ih =>
    rw [List.map_cons, List.sum_cons]
    rcases List.mem_cons.1 h with e | h
    · subst e; exact Nat.le_add_right _ _
    · have := ih h; omega
set_option maxRecDepth 100000 in
set_option maxHeartbeats 8000000 in
theorem crash_any (b mb : Nat) (d : Dk) (keep : Int) (w : World) (h : DkW w b mb d) (hu : usedP d.F ≤ 1099511627776) (hlen : d.F.length ≤ 1000000) (hok : FOK d.F) :
    Calls Try.prog 67 #[.pointer (some ⟨b, 0, none⟩), .int .i64 keep] w fun e w' => e = .returned (.tuple #[]) ∧ DkW w' b mb (crashD d keep) ∧ Only (fun i => i = b ∨ i = mb) w w' := by
  have H := Lib.hid h
  have p5 : w.cell? ⟨b, 5, none⟩ = some (.bool d.down) := blk_cells h.1 5
  have p1 : w.cell? ⟨b, 1, none⟩ = some (.map (some mb)) := blk_cells h.1 1
  cases hdn : d.down with
  | true =>
    have HE : Hid (crashD d keep = d) := Lib.hid (by unfold crashD; rw [if_pos hdn])
    rw [hdn] at p5
    clear h hu hok hdn
    go_enter Try.func67, Try.ntmps67
    go_wp2_with fail
    refine bodyPost_ret (results_none rfl _ _ _) rfl ?_
    rw [HE.out]
    exact ⟨rfl, H.out, Only.refl _ _⟩
  | false =>
    have HE : Hid (crashD d keep = { d with F := d.F.map fun p => (p.1, cutF (max keep 0) p.2), cat := 0, ckeep := 0, down := true }) := Lib.hid (by unfold crashD; rw [if_neg (by rw [hdn]; simp)])
    rw [hdn] at p5
    have HS := Lib.hid (h.2.sort Try.underlying9); have HU := Lib.hid hu; have HOK := Lib.hid hok; have HNE := Lib.hid h.ne
    have hbw := heap_lt h.1
    have HM := Lib.hid h.2
    obtain ⟨kp, hkp⟩ : ∃ x, x = max keep 0 := ⟨_, rfl⟩
    rw [← hkp] at HE
    have HKP : Hid (0 ≤ kp) := Lib.hid (by omega)
    clear h hu hok hdn
    go_enter Try.func67, Try.ntmps67
    go_wp2_with (at_range; refine mps_range fileV _ rfl (.tmp 15) 186 rfl 9 190 Try.underlying9 Try.underlying186 mb d.F rfl HM.out ?_; intro w1 left hl hr hS hsz)
    go_frame
    rw [← hkp]
    have HKP2 := Lib.hid hkp
    have hl0 : (midS (cutF kp) left d.F) = d.F := mid_start _ _ hl
    rw [← hl0] at hr
    clear p1 p5 hkp
    go_loopw [4] (fun _ wr => ∃ left cnt, wr.ranges Try.prog 9 mS mb w.heap.size d.F.length (.map ((midS (cutF kp) left d.F).map (encE fileV))) left cnt ∧ Only (· = mb) w wr) (fun _ wr => wr.rangeLeft mb w.heap.size)
    case atStart => exact ⟨left, _, by have := hr; rw [show (midS (cutF kp) left d.F).length = d.F.length by unfold midS; simp] at this; exact this, hS.mono (fun _ _ h => h.elim)⟩
    case round =>
      obtain ⟨left2, cnt2, hr2, hO2⟩ := hrel
      obtain ⟨w3, hw3⟩ : ∃ x, x = wr := ⟨_, rfl⟩
      subst hw3
      have hml : (midS (cutF kp) left2 d.F).length = d.F.length := by unfold midS; simp
      rw [← hml] at hr2
      have HR2 := Lib.hid hr2; have HO2 := Lib.hid hO2; have HML := Lib.hid hml
      clear hr2 hO2 hml hr hl hS hsz hl0
      go_wp2_with (at_next; refine mps_next fileV _ rfl (.tmp 16) rfl 9 Try.underlying9 mb w.heap.size (midS (cutF kp) left2 d.F) left2 cnt2 rfl HR2.out ?_ ?_)
      · intro hl0
        have hb3 := HO2.out.heap H.out.1 (fun h => HNE.out h.symm)
        have f2 := blk_frozen hb3 2; have f3 := blk_frozen hb3 3; have f5 := blk_frozen hb3 5
        have c2 := blk_cells hb3 2; have c3 := blk_cells hb3 3; have c5 := blk_cells hb3 5
        simp only [List.getElem?_toArray, List.getElem?_cons_succ, List.getElem?_cons_zero] at c2 c3 c5
        have hms := HR2.out.owns
        rw [mid_end _ _ _ hl0] at hms
        have HMS : Hid (MpS fileV Try.prog 9 w3 mb (d.F.map fun p => (p.1, cutF kp p.2))) := Lib.hid hms
        have HB3 := Lib.hid hb3
        clear hb3 hms
        go_wp2_with fail
        go_end0
        have hX := blk_set (j := 5) (v := .bool true) (blk_set (j := 3) (v := .int .i64 0) (blk_set (j := 2) (v := .int .i64 0) HB3.out))
        have hOX : Only (fun i => i = b) w3 (((w3.setCell ⟨b, 2, none⟩ (.int .i64 0)).setCell ⟨b, 3, none⟩ (.int .i64 0)).setCell ⟨b, 5, none⟩ (.bool true)) := (((Only.refl (fun i => i = b) w3).setCell (fun _ => rfl) _).setCell (fun _ => rfl) _).setCell (fun _ => rfl) _
        rw [HE.out]
        exact ⟨rfl, ⟨hX, HMS.out.only hOX HNE.out⟩, (HO2.out.mono (S' := fun i => i = b ∨ i = mb) (fun _ _ h => .inr h)).trans hOX (fun _ _ h => .inl h)⟩
      · intro s c n w4 cnt4 hs4 hlk hgs hr4 hlt4 hO4 hsz4 hen4
        have hmem := mid_mem _ _ (has_getS hgs) hlk
        obtain ⟨g1, g2⟩ := HOK.out _ hmem
        have hcs := used_mem hmem
        have hcu := HU.out
        have hkp0 := HKP.out
        simp only at g1 g2 hcs
        obtain ⟨m, hm⟩ : ∃ m : Int, m = n + min kp ((c.size : Int) - n) := ⟨_, rfl⟩
        have hm1 : 0 ≤ m ∧ m ≤ (c.size : Int) := by omega
        have hw1 : IntKind.i64.wrap ((c.size : Int) - n) = (c.size : Int) - n := by rw [IntKind.wrap_i64]; omega
        have hw2 : IntKind.i64.wrap (n + min kp ((c.size : Int) - n)) = m := by rw [IntKind.wrap_i64]; omega
        have hd1 : 0 ≤ m := hm1.1
        have hd2 : m ≤ (c.size : Int) := hm1.2
        have HM4 := Lib.hid hm; have HMEM := Lib.hid hmem; have HHS : Hid (Maps.has (DataW.map ((midS (cutF kp) left2 d.F).map (encE fileV))) (.string s.data.toList) = true) := Lib.hid (by rw [any_enc, hgs]; rfl)
        have hO5 : Only (fun i => i = mb) w (w4.alloc (.cells #[.string c, .int .i64 n] 190)) := HO2.out.trans (hO4.alloc _) (fun i hi h => by omega)
        have hb5 := hO5.heap H.out.1 (fun h => HNE.out h.symm)
        have hra := hr4.alloc (.cells #[.string c, .int .i64 n] 190)
        have hv5 := blk_new w4 (.cells #[.string c, .int .i64 n] 190)
        obtain ⟨v0, v1, z0, z1⟩ := two_facts hv5
        have HB5 := Lib.hid hb5; have HRA := Lib.hid hra; have HV5 := Lib.hid hv5; have HO5 := Lib.hid hO5; have HLT := Lib.hid (And.intro hlt4 HR2.out.left_eq); have HLK := Lib.hid hlk
        have HZ : Hid (w.heap.size < w4.heap.size ∧ mb < w4.heap.size) := Lib.hid ⟨hr4.lt, hr4.owns.lt⟩
        have hp1 := blk_cells hb5 1
        simp only [List.getElem?_toArray, List.getElem?_cons_succ, List.getElem?_cons_zero] at hp1
        clear hm hmem g1 g2 hcs hcu hkp0 hm1 hO5 hb5 hra hv5 hlt4 hgs hlk hr4 hO4 hsz4
        dsimp only [fileV] at hen4 ⊢
        go_upto_region 5 with fail
        generalize w4.alloc (.cells #[.string c, .int .i64 n] 190) = w5 at *
        go_upto_region 7 with fail
        rw [show max m 0 = m by omega]
        have hv6 := blk_set (j := 1) (v := .int .i64 m) (blk_set (j := 0) (v := .string (c.extract 0 m.toNat)) HV5.out)
        have hO6 : Only (fun i => i = w4.heap.size) w5 ((w5.setCell ⟨w4.heap.size, 0, none⟩ (.string (c.extract 0 m.toNat))).setCell ⟨w4.heap.size, 1, none⟩ (.int .i64 m)) := ((Only.refl (fun i => i = w4.heap.size) w5).setCell (fun _ => rfl) _).setCell (fun _ => rfl) _
        generalize (w5.setCell ⟨w4.heap.size, 0, none⟩ (.string (c.extract 0 m.toNat))).setCell ⟨w4.heap.size, 1, none⟩ (.int .i64 m) = w6 at *
        have hr6 := HRA.out.kept (hO6.grownBy (row := some w4.heap.size) (fun k _ h => by rw [h])) (by have := HZ.out; intro h; injection h; omega) (by have := HZ.out; intro h; injection h; omega)
        have hp1 := hO6.cell_eq hp1 (fun h => by have h1 : b = w4.heap.size := h; have := HZ.out; omega)
        obtain ⟨v0, v1, _, _⟩ := two_facts (show w6.heap[w4.heap.size]? = some (.cells #[.string (c.extract 0 m.toNat), .int .i64 m] 190 (0, 0)) from hv6)
        have HR6 := Lib.hid hr6
        have HO6 : Hid (Only (fun i => i = mb) w w6) := Lib.hid (HO5.out.trans hO6 (fun i hi h => by have h1 : i = w4.heap.size := h; have := HZ.out; omega))
        have hhs : (midS (cutF kp) left2 d.F).length < maxLen := by rw [HML.out]; unfold maxLen; omega
        have HHL := Lib.hid hhs
        clear hv6 hO6 hr6 hhs z0 z1
        go_still_tail 6, (by kernel_rfl)
        change wpList _ _ _ _ _ w6.drew
        have HR7 : Hid (w6.drew.ranges Try.prog 9 mS mb w.heap.size (midS (cutF kp) left2 d.F).length (.map ((midS (cutF kp) left2 d.F).map (encE fileV))) (fun z => left2 z && !z.sameKey (.string s.data.toList)) cnt4) := Lib.hid HR6.out
        have HO7 : Hid (Only (fun i => i = mb) w w6.drew) := Lib.hid HO6.out.drew
        clear HR6 HO6
        generalize w6.drew = w7 at *
        go_wp2_with (at_mapUpdate; refine mps_rput _ rfl (.tmp 44) (.tmp 45) (.tmp 46) 186 rfl 9 190 Try.underlying9 Try.underlying186 mb w.heap.size _ _ _ cnt4 rfl HR7.out HHL.out s (fileV (c.extract 0 m.toNat, m)) rfl rfl hs4 HHS.out ?_; intro w8 hr8 hO8)
        have hms := mid_step (cutF kp) left2 HS.out HMEM.out HLK.out
        have hcf : cutF kp (c, n) = (c.extract 0 m.toNat, m) := by unfold cutF; rw [HM4.out]
        rw [hcf] at hms
        rw [put_enc, hms, HML.out] at hr8
        have HR8 := Lib.hid hr8; have HO8 := Lib.hid (HO7.out.same hO8)
        clear hms hcf hr8 hO8
        refine ⟨?_, by rw [HR8.out.left_eq, HLT.out.2]; exact HLT.out.1⟩
        repeat apply Exists.intro
        refine ⟨?_, rfl⟩
        exact ⟨_, cnt4, HR8.out, HO8.out⟩
end Go.Proofs.Ytjegohibpojneaa
