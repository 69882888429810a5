import Derived.Test.YtjegohibpojneaaDocRead
import Derived.Deep.RegionLaw
set_option linter.unusedVariables false
set_option linter.unusedSimpArgs false
namespace Go.Proofs.Ytjegohibpojneaa
open Go.RowKit
attribute [local go_sem ↓] Go.wp_at_zero Go.wp_at_succ

/-- One more on a row of structs, at a step of a region that draws. -/
theorem step_one {P : Program} (w : World) {ops : Array Oper} {o : Oper} {a : Act} {K : Act → World → Prop} {Q : Exit → Act → World → Prop} {E : Prop} (hgd : o.guard = none) (s x : Operand) (t : TypeId)
    (ho : o.op = .call { callee := .builtin .append, args := #[s, x], argTypes := #[t, t] })
    (base : Nat) (e : TypeId) (z : Value) (size bytes : Nat) (ht : P.underlying t = some (.slice e)) (hinfo : (P.info? e).map (fun i => (i.zero, i.size, i.bytes)) = some (some z, size, bytes)) (hzs : z.cells.size = size) (hsz : 0 < size)
    (v : Value) (n : Nat) (xs : List Value) (hs : a.eval s = v) (hown : w.ownsRow base e size v n xs)
    (B : Nat) (us : List Value) (hx : a.eval x = .slice (some ⟨B, 0, none⟩) 1 1) (hB : w.heap[B]? = some (.cells us.toArray e (0, 0))) (hl : us.length = size) (h1 : ∀ u ∈ us, u.oneCell' = true)
    (h63 : n + 1 ≤ maxLen) (hbytes : (n + 1) * bytes ≤ 140737488355328) (hbase : base ≤ w.heap.size)
    (h : ∀ g cap w', w'.ownsRow base e size (.slice (some ⟨g, 0, none⟩) (n + 1) cap) (n + 1) (xs ++ us) → Only (fun k => base ≤ k) w w' → K (a.put o.dst (.slice (some ⟨g, 0, none⟩) (n + 1) cap)) w') :
    if Region.wanted o (yielded ops a.tmps) = true then Oper.wp P o a w K Q else E := by
  obtain ⟨i, hi, hz0, hz1, hz2⟩ := info_parts hinfo
  refine step_append_lies w hgd s x t ho base e i z size bytes ht hi hz0 hz1 hz2 hzs hsz v n xs hs hown ⟨B, 0, none⟩ 1 1 us hx (by omega) (World.news_of_block hB) h1 (by omega) h63 hbytes hbase w.heap.size rfl ?_
  intro g cap w' h2 hg hl _
  exact h g cap w' h2 (own_base hown hg)

theorem own_new {w : World} {base n : Nat} {e : TypeId} {size : Nat} {v : Value} {xs : List Value} (h : w.ownsRow base e size v (n + 1) xs) : ∃ g cap, v = .slice (some ⟨g, 0, none⟩) (n + 1) cap := by
  rcases h.2 with ⟨_, h0⟩ | ⟨g, cap, cur, hv, _⟩
  · omega
  · exact ⟨g, cap, hv⟩
/-- 'append(v, u)', the new value written out. -/
theorem app_lit {P : Program} {W : World} {ops : Array Oper} {rest : List Oper} {o : Oper} {a : Act} {Q : Exit → Act → World → Prop} (news : List Value) (hgd : o.guard = none) (s x : Operand) (t : TypeId)
    (ho : o.op = .call { callee := .builtin .append, args := #[s, x], argTypes := #[t, t] })
    (base : Nat) (e : TypeId) (z : Value) (size bytes : Nat) (ht : P.underlying t = some (.slice e)) (hinfo : (P.info? e).map (fun i => (i.zero, i.size, i.bytes)) = some (some z, size, bytes))
    (hzs : z.cells.size = size) (hsz : 0 < size)
    (v : Value) (n : Nat) (xs : List Value) (hs : a.eval s = v) (hown : W.ownsRow base e size v n xs)
    (hx : a.eval x = .slice (some ⟨W.heap.size, 0, none⟩) 1 1)
    (h : ∀ g cap w', w'.ownsRow base e size (.slice (some ⟨g, 0, none⟩) (n + 1) cap) (n + 1) (xs ++ news) → Only (fun k => base ≤ k) W w' → wpList P ops Q rest (a.put o.dst (.slice (some ⟨g, 0, none⟩) (n + 1) cap)) w')
    (hl : news.length = size) (h1 : ∀ u ∈ news, u.oneCell' = true)
    (h63 : n + 1 ≤ maxLen) (hbytes : (n + 1) * bytes ≤ 140737488355328) (hbase : base ≤ W.heap.size)
    : wpList P ops Q (o :: rest) a (W.alloc (.cells news.toArray e)) :=
  app_one news hgd s x t ho base e z size bytes ht hinfo hzs hsz v n xs hs hown hx (fun v' w' h2 h3 => by
    obtain ⟨g, cap, rfl⟩ := own_new h2
    exact h g cap w' h2 h3) hl h1 h63 hbytes hbase
/-- What a cell holds, as a word that no store makes false. -/
def rdc (w : World) (b j : Nat) : Value := (w.cell? ⟨b, j, none⟩).getD undef
theorem rdc_eq {w : World} {b j : Nat} {u : Value} (h : w.cell? ⟨b, j, none⟩ = some u) : rdc w b j = u := by unfold rdc; rw [h]; rfl
theorem rdc_spec {w : World} {b j : Nat} {u : Value} (h : w.cell? ⟨b, j, none⟩ = some u) : w.cell? ⟨b, j, none⟩ = some (rdc w b j) := by rw [rdc_eq h]; exact h
theorem rdc_drew (w : World) (b j : Nat) : rdc w.drew b j = rdc w b j := rfl
/-- Numbers don't lie in a reader's own block. -/
theorem Sl.offRd {w : World} {v : Value} {l : List Int} {b : Nat} {st : RS} (h : Sl w num v l) (hR : Rd w b st) : ∀ b' off n c, 0 < l.length → v = .slice (some ⟨b', off, none⟩) n c → ¬ b' = b := by
  rintro b' off n c h0 rfl rfl
  obtain ⟨ad, c', e, _, _, _, h4⟩ := h
  obtain ⟨b2, off2, rfl, hc⟩ := h4 h0
  simp only [Value.slice.injEq, Option.some.injEq, Addr.mk.injEq] at e
  obtain ⟨⟨rfl, rfl, _⟩, _, _⟩ := e
  have h5 := hc 0 h0
  rw [blk_cells hR] at h5
  generalize off + 0 = k at h5
  match k, h5 with
  | 0, h5 => simp at h5
  | 1, h5 => simp at h5
  | k + 2, h5 => simp at h5
theorem Sl.past {w w' : World} {v : Value} {l : List Int} {b : Nat} {st : RS} (h : Sl w num v l) (hR : Rd w b st) (ho : Only (· = b) w w') : Sl w' num v l := h.keep2 ho (h.offRd hR)
theorem SlP.form {w : World} {v : Value} {l : List (Int × Int)} (h : SlP w v l) : ∃ a n c, v = .slice a n c := by
  obtain ⟨a, c, e, _⟩ := h; exact ⟨a, _, c, e⟩
theorem Sl.form {α : Type} {w : World} {v : Value} {enc : α → Value} {l : List α} (h : Sl w enc v l) : ∃ a n c, v = .slice a n c := by
  obtain ⟨a, c, e, _⟩ := h; exact ⟨a, _, c, e⟩
theorem zip_take (ts ws : List Int) (k : Nat) (h1 : k < ts.length) (h2 : k < ws.length) : (ts.zip ws).take (k + 1) = (ts.zip ws).take k ++ [(ts[k], ws[k])] := by
  rw [take_snocI (ts.zip ws) k (by simp; omega), List.getElem_zip]
set_option maxRecDepth 100000 in
set_option maxHeartbeats 8000000 in
theorem read_live (b : Nat) (st : RS) (w : World) (h : Rd w b st) (hlen : (st.getD []).length ≤ 1000000) (hg : (varS (varS st).2).1 = 0) :
    Calls Try.prog 22 #[.pointer (some ⟨b, 0, none⟩)] w fun e w' => ∃ v, e = .returned v ∧ Only (· = b) w w' ∧ Rd w' b (readD st).2 ∧ ReadV w' w.heap.size v (readD st).1 := by
  have hbl := h.lt
  have H := Lib.hid h
  have hl1 := varS_less st
  have hl2 := varS_less (varS st).2
  have hm := varS_le st
  have hc1 : Same w (w.alloc (.cells zCells 27)) := (Only.refl _ w).alloc _
  have hA0 := blk_new w (.cells zCells 27)
  obtain ⟨rr, hrr⟩ : ∃ r, r = readD st := ⟨_, rfl⟩
  rw [← hrr]
  have cv1 := fun w0 (hR : Rd w0 b st) => rvarint_any b st w0 hR (by omega)
  have cv2 := fun w0 (hR : Rd w0 b (varS st).2) => rvarint_any b (varS st).2 w0 hR (by omega)
  unfold readD at hrr
  rw [if_pos hg] at hrr
  rw [hg] at cv2
  generalize (varS (varS st).2).2 = s2 at *
  generalize (varS st).1 = d at *
  generalize (varS st).2 = s1 at *
  have ha1 := risR_less s2 64
  have ha2 := risR_len s2 64
  have ha3 := risR_rng s2 64
  have cr := fun w0 (hR : Rd w0 b s2) => rrising_fr b s2 64 w0 hR (by omega)
  generalize hra : risR s2 64 = ra at *
  obtain ⟨ts, s3⟩ := ra
  simp only at hrr ha1 ha2 ha3 cr
  have hb1 := fixR_less s3 16 ts.length
  have hbs := fun t => @fixR_some s3 16 ts.length t
  have cf := fun w0 (hR : Rd w0 b s3) => rfixed_fr b s3 16 ts.length w0 hR (by omega)
  generalize hrb : fixR s3 16 ts.length = rb at *
  obtain ⟨ws, s4⟩ := rb
  simp only at hrr hb1 hbs cf
  have hrs := fun t => @fixR_some s4 8 9 t
  have cg := fun w0 (hR : Rd w0 b s4) => rfixed_fr b s4 8 9 w0 hR (by omega)
  generalize hrc : fixR s4 8 9 = rc at *
  obtain ⟨rest, s5⟩ := rc
  simp only at hrr hrs cg
  have cb := fun w0 (hR : Rd w0 b s5) => rbad_any b s5 w0 hR
  have hrd : rr = if s5.isNone = true then (none, s5) else (okC (readA d ts ws rest), s5) := hrr
  have HRR := Lib.hid hrd; have CV1 := Lib.hid cv1; have CV2 := Lib.hid cv2; have CB := Lib.hid cb; have CR := Lib.hid cr; have CF := Lib.hid cf; have CG := Lib.hid cg
  have HA3 := Lib.hid ha3; have HBS := Lib.hid hbs; have HRS := Lib.hid hrs
  clear hrr hrd h cv1 cv2 cb cr cf cg hbs hrs hg hra hrb hrc ha3
  go_enter Try.func22, Try.ntmps22
  go_upto_region 1 with fail
  have hb0 : b < (w.alloc (.cells zCells 27)).heap.size := by simp; omega
  generalize hW0 : w.alloc (.cells zCells 27) = W0 at *
  have HC1 := Lib.hid hc1; have HA0 := Lib.hid hA0
  have HR0 := Lib.hid (H.out.same hc1)
  clear hc1 hA0 hW0
  go_wp2_with fail
  refine (CV1.out _ HR0.out).mono ?_
  rintro e w1 ⟨rfl, hO1, hR1⟩
  have hA1 := hO1.heap HA0.out (fun h => by omega)
  have hC1 := blk_new w1 (.cells #[.int .i64 d, .slice none 0 0, .slice none 0 0, .int .i64 0, .bool false] 27)
  have hs1 : Same w1 (w1.alloc (.cells #[.int .i64 d, .slice none 0 0, .slice none 0 0, .int .i64 0, .bool false] 27)) := (Only.refl _ w1).alloc _
  have hlt1 := heap_lt hA1
  have hr1 := hR1.lt
  go_upto_region 2 with fail
  generalize hW1 : w1.alloc (.cells #[.int .i64 d, .slice none 0 0, .slice none 0 0, .int .i64 0, .bool false] 27) = W1 at *
  have HO1 := Lib.hid (((HC1.out.mono (S' := (· = b)) (fun _ _ h => h.elim)).same hO1).then hs1)
  have HA1 := Lib.hid (hs1.heap hA1 (fun h => h)); have HCB := Lib.hid hC1; have HR1 := Lib.hid (hR1.same hs1)
  clear hO1 hA1 hC1 hs1 hR1 HA0 HC1 HR0 hW1
  go_wp2_with fail
  refine (CV2.out _ HR1.out).mono ?_
  rintro e w2 ⟨rfl, hO2, hR2⟩
  have hA2 := hO2.heap HA1.out (fun h => by omega)
  have hC2 := hO2.heap HCB.out (fun h => by omega)
  have HO2 := Lib.hid (HO1.out.same hO2)
  have hr2 := hR2.lt
  have hlt2 := heap_lt hA2
  have hltc := heap_lt hC2
  have HA2 := Lib.hid hA2; have HC2 := Lib.hid hC2; have HR2 := Lib.hid hR2
  clear hO2 hA2 hC2 hR2 HO1 HA1 HCB HR1 H
  obtain ⟨⟨k0, k1, k2, k3, k4⟩, f0, f1, f2, f3, f4⟩ := five_facts HC2.out
  go_upto_region 4 with fail
  have hC4 := blk_set (j := 4) (v := .bool false) HC2.out
  have hO4 := HO2.out.setCell (p := ⟨w1.heap.size, 4, none⟩) (fun h => by simp only at h; omega) (.bool false)
  have hA4 : (w2.setCell ⟨w1.heap.size, 4, none⟩ (.bool false)).heap[w.heap.size]? = _ := ((Only.refl (· = w1.heap.size) w2).setCell (fun _ => rfl) _).heap HA2.out (by omega)
  have hR4 : Rd (w2.setCell ⟨w1.heap.size, 4, none⟩ (.bool false)) b s2 := HR2.out.only ((Only.refl (· = w1.heap.size) w2).setCell (fun _ => rfl) _) (by omega)
  have hz4 : (w2.setCell ⟨w1.heap.size, 4, none⟩ (.bool false)).heap.size = w2.heap.size := by simp
  generalize w2.setCell ⟨w1.heap.size, 4, none⟩ (.bool false) = w4 at *
  have HC4 : Hid (w4.heap[w1.heap.size]? = some (.cells #[.int .i64 d, .slice none 0 0, .slice none 0 0, .int .i64 0, .bool false] 27 (0, 0))) := Lib.hid hC4
  have HO4 := Lib.hid hO4; have HA4 := Lib.hid hA4; have HR4 := Lib.hid hR4
  clear hC4 hO4 hA4 hR4 HC2 HO2 HA2 HR2 k0 k1 k2 k3 k4 f0 f1 f2 f3 f4
  go_wp2_with fail
  refine (CR.out _ HR4.out).mono ?_
  rintro e w5 ⟨vt, rfl, hO5, hR5, hsl5, hft⟩
  have HSL5 := Lib.hid hsl5
  obtain ⟨at_, ct, rfl, hct, hmt, _, _⟩ := hsl5
  have HFT := Lib.hid hft
  clear hft
  have HC5 := Lib.hid (hO5.heap HC4.out (by omega)); have HA5 := Lib.hid (hO5.heap HA4.out (by omega)); have HO5 := Lib.hid (HO4.out.same hO5); have HR5 := Lib.hid hR5
  have hz5 := hO5.size
  clear hO5 hR5 HC4 HA4 HO4 HR4
  go_wp2_with fail
  refine (CF.out _ HR5.out).mono ?_
  rintro e w6 ⟨vw, rfl, hO6i, hR6, hsl6, hfw⟩
  have HSL6 := Lib.hid hsl6
  obtain ⟨aw, cw, rfl, hcw, hmw, _, _⟩ := hsl6
  have HFW := Lib.hid hfw
  clear hfw
  have HC6 := Lib.hid (hO6i.heap HC5.out (by omega)); have HA6 := Lib.hid (hO6i.heap HA5.out (by omega)); have HO6 := Lib.hid (HO5.out.same hO6i); have HR6 := Lib.hid hR6
  have HT6 := Lib.hid (HSL5.out.past HR5.out hO6i)
  have hz6 := hO6i.size
  clear hO6i hR6 HC5 HA5 HO5 HR5 HSL5
  go_wp2_with fail
  refine (CG.out _ HR6.out).mono ?_
  rintro e w7 ⟨vr, rfl, hO7, hR7, hsl7, hfx⟩
  have HSL7 := Lib.hid hsl7
  obtain ⟨ar, cr', rfl, hcr, hmr, _, _⟩ := hsl7
  have HFX := Lib.hid hfx
  clear hfx
  have HC7 := Lib.hid (hO7.heap HC6.out (by omega)); have HA7 := Lib.hid (hO7.heap HA6.out (by omega)); have HO7 := Lib.hid (HO6.out.same hO7); have HR7 := Lib.hid hR7
  have HT7 := Lib.hid (HT6.out.past HR6.out hO7); have HW7 := Lib.hid (HSL6.out.past HR6.out hO7)
  have hz7 := hO7.size
  clear hO7 hR7 HC6 HA6 HO6 HR6 HT6 HSL6
  cases s5 with
  | none =>
    have HRZ : Hid (rr = (none, none)) := Lib.hid HRR.out
    go_wp2_with fail
    refine (CB.out _ HR7.out).mono ?_
    rintro e w8 ⟨rfl, hS8⟩
    have HA8 := Lib.hid (hS8.heap HA7.out (fun h => h)); have HR8 := Lib.hid (HR7.out.same hS8)
    have HO8 := Lib.hid (HO7.out.then hS8)
    clear hS8 HA7 HC7 HR7 HO7 HRR CV1 CV2 CB CR CF CG
    obtain ⟨⟨k0, k1, k2, k3, k4⟩, f0, f1, f2, f3, f4⟩ := five_facts HA8.out
    go_wp2_with fail
    refine bodyPost_ret (results_ct2 rfl _ _ _ _ _ _ _ rfl (five_set HA8.out _ _ _ _ _) Try.underlying27 rfl (by kernel_rfl)) rfl ?_
    refine ⟨_, rfl, HO8.out.put5 (fun h => by omega) _ _ _ _ _, ?_, ?_⟩
    · rw [HRZ.out]; exact HR8.out.only ((Only.refl (· = w.heap.size) w8).put5 (fun _ => rfl) _ _ _ _ _) (by omega)
    · rw [HRZ.out]; exact ⟨_, rfl, chg_zero _ _⟩
  | some tl =>
    obtain ⟨s4', hs4, hrl, hrr⟩ := HRS.out tl rfl
    obtain ⟨s3', hs3, hwl, hwr⟩ := HBS.out s4' hs4
    have HRZ : Hid (rr = (okC (readA d ts ws rest), some tl)) := Lib.hid HRR.out
    have HRR2 := Lib.hid hrr; have HWR := Lib.hid hwr
    have hwl2 : ws.length = ts.length := by omega
    have hrl2 : rest.length = 9 := by omega
    have HWL := Lib.hid hwl2; have HRL := Lib.hid hrl2
    clear hs4 hrl hrr hs3 hwl hwr hwl2 hrl2 HRS HBS HRR
    go_wp2_with fail
    refine (CB.out _ HR7.out).mono ?_
    rintro e w8 ⟨rfl, hS8⟩
    have HC8 := Lib.hid (hS8.heap HC7.out (fun h => h)); have HA8 := Lib.hid (hS8.heap HA7.out (fun h => h)); have HR8 := Lib.hid (HR7.out.same hS8)
    have HO8 := Lib.hid (HO7.out.then hS8)
    have HT8 := Lib.hid (HT7.out.same hS8); have HW8 := Lib.hid (HW7.out.same hS8); have HX8 := Lib.hid (HSL7.out.same hS8)
    have hz8 := hS8.size
    clear hS8 HA7 HC7 HR7 HO7 HT7 HW7 HSL7 CV1 CV2 CR CF CG
    unfold maxLen at hmt hmw hmr
    have HINF : Hid ((Try.prog.info? 142).map (fun i => (i.zero, i.size, i.bytes)) = some (some (.agg #[.int .i64 0, .int .i64 0]), 2, 16)) := Lib.hid (by kernel_rfl)
    have HINI : Hid ((Try.prog.info? 3).map (fun i => (i.zero, i.size, i.bytes)) = some (some (.int .i64 0), 1, 8)) := Lib.hid (by kernel_rfl)
    go_wp2_with fail
    go_loopw [9, 10, 37] (fun r9 r10 i wr => ∃ (k : Nat) (vv : Value), k ≤ ts.length ∧ i = .int .i64 k ∧ Only (· = w1.heap.size) w8 wr ∧ wr.heap[w1.heap.size]? = some (.cells #[.int .i64 d, vv, .slice none 0 0, .int .i64 0, .bool false] 27 (0, 0)) ∧ wr.ownsRow w8.heap.size 142 2 vv k (cells2 ((ts.zip ws).take k))) (fun _ _ i _ => ts.length - (intOf i).toNat)
    case atStart => exact ⟨0, _, by omega, rfl, Only.refl _ _, HC8.out, World.ownsRow_nil _ _ _ _⟩
    case round =>
      obtain ⟨k, vv, hk, rfl, hO, hC, hV⟩ := hrel
      obtain ⟨wr0, hwr⟩ : ∃ x, x = wr := ⟨_, rfl⟩
      subst hwr
      by_cases hlt : k < ts.length
      · obtain ⟨bt, ot, rfl, hct2⟩ := HT8.out.spot (by omega)
        have hwk : k < ws.length := by have := HWL.out; omega
        obtain ⟨bw, ow, rfl, hcw2⟩ := HW8.out.spot (by omega)
        have hbt1 : bt ≠ w1.heap.size := by have := HFT.out bt ot none _ _ rfl; omega
        have hbw1 : bw ≠ w1.heap.size := by have := HFW.out bw ow none _ _ rfl; omega
        have hct3 := hO.cell_eq (hct2 k hlt) hbt1
        have hcw3 := hO.cell_eq (hcw2 k hwk) hbw1
        have hst := zip_take ts ws k hlt hwk
        have hxr := HA3.out ts[k] (List.getElem_mem hlt)
        have hyr := HWR.out ws[k] (List.getElem_mem hwk)
        generalize ts[k] = x at *
        generalize ws[k] = y at *
        have HST := Lib.hid hst; have HV := Lib.hid hV; have HC := Lib.hid hC
        obtain ⟨⟨k0, k1, k2, k3, k4⟩, f0, f1, f2, f3, f4⟩ := five_facts hC
        have hk63 : k + 1 ≤ maxLen := by unfold maxLen; omega
        have hk16 : (k + 1) * 16 ≤ 140737488355328 := by omega
        have hb8 : w8.heap.size ≤ wr0.heap.size := hO.size
        have hbw : bw < w8.heap.size := by have := World.block_lt_of_cell? w8 _ (hcw2 k hwk); simpa using this
        clear hst hct2 hcw2 hV hC k0 k2 k3 k4 f0 f2 f3 f4
        go_upto_region 13 with fail
        have hCw : w1.heap.size < wr0.heap.size := by omega
        have hbw2 : bw < wr0.heap.size := by omega
        have q0 : Only (fun k => w8.heap.size ≤ k) wr0 wr0 := Only.refl _ _
        have l1 := ((Only.refl (fun _ => False) wr0).alloc (.cells #[.int .i64 x, .int .i64 y] 142)).cell_eq k1 (fun h => h)
        go_region_law ((refine step_one _ (by rfl) (.tmp 44) (.tmp 51) 22 (by rfl) w8.heap.size 142 (.agg #[.int .i64 0, .int .i64 0]) 2 16 Try.underlying22 HINF.out rfl (by omega) vv k _ (by rfl) (by first | exact HV.out | exact HV.out.alloc _) _ [.int .i64 x, .int .i64 y] (by rfl) (by first | exact blk_new _ _ | exact blk_new1 _ _ _) rfl (by intro u hu; simp at hu; rcases hu with rfl | rfl <;> rfl) hk63 hk16 (by first | exact base_le hb8 q0 | exact base_le hb8 q0.drew | exact base_le hb8 (q0.alloc _) | exact base_le hb8 (q0.drew.alloc _)) ?_); intro gn capn wn hN hq; have q0 := Only.same (by first | exact q0 | exact q0.drew | exact q0.alloc _ | exact q0.drew.alloc _) hq; clear hq; have hbn := q0.heap HC.out (by omega); obtain ⟨⟨_, m1, _, _, _⟩, _, n1, _, _, _⟩ := five_facts hbn)
        all_goals
          go_wp2_with fail
          go_roundw
          case rel =>
            refine ⟨k + 1, _, by omega, by go_num, (hO.trans q0 (S := (· = w1.heap.size)) (fun g h1 h2 => by omega)).setCell (fun _ => rfl) _, blk_set hbn, ?_⟩
            rw [HST.out, cells2_append]
            exact own_keep hN ((Only.refl (· = w1.heap.size) wn).setCell (fun _ => rfl) _) (fun g hg e => by have := (hN.lt g hg).1; omega)
          case measure => simp [intOf]; omega
      · obtain rfl : k = ts.length := by omega
        rw [List.take_of_length_le (by simp; omega)] at hV
        have HVT := Lib.hid (own_slp hV); have HVF := Lib.hid (own_fr hV); have HC := Lib.hid hC; have HO := Lib.hid hO
        have HX := Lib.hid (HX8.out.keep hO (fun b' off sp n c e h => by have := HFX.out b' off sp n c e; omega))
        have hz9 := hO.size
        clear hV hC hO HT8 HW8 HC8
        have hrl9 : rest.length ≤ 9 ∧ 9 ≤ rest.length := by have := HRL.out; omega
        obtain ⟨hrl9a, hrl9b⟩ := hrl9
        have h8c : (8 : Int) ≤ (cr' : Int) := by omega
        obtain ⟨bx, ox, rfl, hx⟩ := HX.out.spot (by omega)
        have hbx : bx ≠ w1.heap.size := by have := HFX.out bx ox none _ _ rfl; omega
        have HXX := Lib.hid hx
        have hCl := heap_lt HC.out
        have CB2 : Hid (∀ w0, Rd w0 b (some tl) → Calls Try.prog 91 #[.pointer (some ⟨b, 0, none⟩)] w0 fun e w' => e = .returned (.bool false) ∧ Same w0 w') := Lib.hid (fun w0 hR => CB.out w0 hR)
        clear hx CB
        go_wp2_with fail
        go_loopw [12, 59] (fun r12 i wr => ∃ (k : Nat) (v2 : Value), k ≤ 8 ∧ i = .int .i64 k ∧ Only (· = w1.heap.size) wr0 wr ∧ wr.heap[w1.heap.size]? = some (.cells #[.int .i64 d, vv, v2, .int .i64 0, .bool false] 27 (0, 0)) ∧ wr.ownsRow wr0.heap.size 3 1 v2 k ((((rest.take 8).map (· - 128)).take k).map num)) (fun _ i _ => 8 - (intOf i).toNat)
        case atStart => exact ⟨0, _, by omega, rfl, Only.refl _ _, HC.out, World.ownsRow_nil _ _ _ _⟩
        case round =>
          obtain ⟨k, v2, hk2, rfl, hO2, hC2, hV2⟩ := hrel
          obtain ⟨wr1, hwr1⟩ : ∃ x, x = wr := ⟨_, rfl⟩
          subst hwr1
          by_cases hlt2 : k < 8
          · have hkr : k < rest.length := by omega
            have hxk := hO2.cell_eq (HXX.out k hkr) hbx
            have hst := take_snocI ((rest.take 8).map (· - 128)) k (by simp; omega)
            rw [List.getElem_map, List.getElem_take] at hst
            have hxr := HRR2.out rest[k] (List.getElem_mem hkr)
            generalize rest[k] = x at *
            have HST := Lib.hid hst; have HV2 := Lib.hid hV2; have HC2 := Lib.hid hC2
            have hx2 : 0 ≤ x ∧ x < 256 := by simpa using hxr
            obtain ⟨hxa, hxb⟩ := hx2
            have hsz2 := hO2.size
            have hCl2 := heap_lt hC2
            obtain ⟨⟨_, _, k2, _, _⟩, _, _, f2, _, _⟩ := five_facts hC2
            clear hst hV2 hC2 hxr
            go_wp2_with ((at_builtin; refine app_lit [.int .i64 (x - 128)] rfl (.tmp 65) (.tmp 68) 23 rfl wr0.heap.size 3 (.int .i64 0) 1 8 Try.underlying23 HINI.out rfl (by decide) _ k _ rfl HV2.out rfl ?_ rfl (by intro u hu; simp at hu; subst hu; rfl) (by unfold maxLen; omega) (by omega) hsz2; intro gq cq w4 hown4 hO4; have hbn := hO4.heap HC2.out (by omega); obtain ⟨⟨_, _, m2, _, _⟩, _, _, n2, _, _⟩ := five_facts hbn))
            go_roundw
            case rel =>
              refine ⟨k + 1, _, by omega, by go_num, (hO2.trans hO4 (S := (· = w1.heap.size)) (fun g h1 h2 => by omega)).setCell (fun _ => rfl) _, blk_set hbn, ?_⟩
              rw [HST.out, List.map_append]
              exact own_keep hown4 ((Only.refl (· = w1.heap.size) w4).setCell (fun _ => rfl) _) (fun g hg e => by have := (hown4.lt g hg).1; omega)
            case measure => simp [intOf]; omega
          · obtain rfl : k = 8 := by omega
            rw [List.take_of_length_le (by simp; omega)] at hV2
            have hy := hO2.cell_eq (HXX.out 8 (by omega)) hbx
            have hyr := HRR2.out rest[8] (List.getElem_mem (by omega))
            have hyg : rest.getD 8 0 = rest[8] := by rw [List.getD_eq_getElem?_getD, List.getElem?_eq_getElem (by omega)]; rfl
            generalize rest[8] = y at *
            have hy2 : 0 ≤ y ∧ y < 256 := by simpa using hyr
            have HYG := Lib.hid hyg
            have hsl2 : Sl wr1 (.int .i64) v2 ((rest.take 8).map (· - 128)) := own_sl hV2
            have hfr2 := own_fr hV2
            have hslp : SlP wr1 vv (ts.zip ws) := HVT.out.keep hO2 (fun b' off sp n c h0 e h => by have := HVF.out b' off sp n c e; omega)
            have hR9 : Rd wr1 b (some tl) := (HR8.out.only HO.out (by omega)).only hO2 (by omega)
            have hA9 := hO2.heap (HO.out.heap HA8.out (by omega)) (by omega)
            have hO9 : Only (· = b) w wr1 := (HO8.out.trans HO.out (S := (· = b)) (fun g h1 h2 => by omega)).trans hO2 (fun g h1 h2 => by omega)
            have hsz2 := hO2.size
            obtain ⟨⟨k0, k1, k2, k3, k4⟩, f0, f1, f2, f3, f4⟩ := five_facts hC2
            have HC2 := Lib.hid hC2
            clear hV2 hyr hyg hC2
            go_upto_region 21 with fail
            obtain ⟨av, nv, cv, rfl⟩ := hslp.form
            obtain ⟨av2, nv2, cv2, rfl⟩ := hsl2.form
            have hd9 : Only (· = w1.heap.size) wr1 (wr1.setCell ⟨w1.heap.size, 3, none⟩ (.int .i64 y)) := (Only.refl (· = w1.heap.size) wr1).setCell (fun _ => rfl) _
            have hC9 := blk_set (j := 3) (v := .int .i64 y) HC2.out
            have hb9 : b < wr1.heap.size := hR9.lt
            have hCb : ¬ b = w1.heap.size := by omega
            have hR10 := hR9.only hd9 hCb
            have hA10 := hd9.heap hA9 (by omega)
            have hO10 := hO9.setCell (p := ⟨w1.heap.size, 3, none⟩) (fun h => by simp only at h; omega) (.int .i64 y)
            have hslp9 := hslp.keep hd9 (fun b' off sp n c h0 e h => by have := HVF.out b' off sp n c e; omega)
            have hsl9 := hsl2.keep hd9 (fun b' off sp n c e h => by have := hfr2 b' off sp n c e; omega)
            generalize wr1.setCell ⟨w1.heap.size, 3, none⟩ (.int .i64 y) = w9 at *
            have HC9 : Hid (w9.heap[w1.heap.size]? = some (.cells #[.int .i64 d, .slice av nv cv, .slice av2 nv2 cv2, .int .i64 y, .bool false] 27 (0, 0))) := Lib.hid hC9
            have HR9 := Lib.hid hR10; have HA9 := Lib.hid hA10; have HO9 := Lib.hid hO10; have HP9 := Lib.hid hslp9; have HS9 := Lib.hid hsl9
            have hci : ChgI (readA d ts ws rest) := by
              refine ⟨?_, ?_, ?_, ?_, ?_, ?_⟩
              · unfold i64b readA; simp only; omega
              · unfold i64b readA; simp only; rw [HYG.out]; omega
              · intro t ht
                have ht2 : t ∈ ts.zip ws := ht
                obtain ⟨t1, t2⟩ := t
                have h1 := HA3.out t1 (List.of_mem_zip ht2).1
                have h2 := HWR.out t2 (List.of_mem_zip ht2).2
                have h3 : t2 < 65536 := by simpa using h2.2
                unfold i64b; simp only; omega
              · intro x hx
                obtain ⟨u, hu, rfl⟩ := List.mem_map.1 (show x ∈ (rest.take 8).map (· - 128) from hx)
                have h2 := HRR2.out u (List.mem_of_mem_take hu)
                have h3 : u < 256 := by simpa using h2.2
                unfold i64b; omega
              · show (ts.zip ws).length ≤ _; simp; omega
              · show ((rest.take 8).map (· - 128)).length ≤ _; simp; omega
            have hcv : ∀ w0, SlP w0 (.slice av nv cv) (ts.zip ws) → Sl w0 (.int .i64) (.slice av2 nv2 cv2) ((rest.take 8).map (· - 128)) → ChgV w0 (.agg #[.int .i64 d, .slice av nv cv, .slice av2 nv2 cv2, .int .i64 y, .bool false]) (readA d ts ws rest) := fun w0 h1 h2 => ⟨.slice av nv cv, .slice av2 nv2 cv2, by unfold readA; simp only; rw [HYG.out], h1, h2⟩
            have cr := fun w0 h1 h2 => right_any (.agg #[.int .i64 d, .slice av nv cv, .slice av2 nv2 cv2, .int .i64 y, .bool false]) (readA d ts ws rest) w0 (hcv w0 h1 h2) hci
            obtain ⟨r0, hr0⟩ : ∃ r, r = rightD (readA d ts ws rest) := ⟨_, rfl⟩
            rw [← hr0] at cr
            have CR := Lib.hid cr; have HR0 := Lib.hid hr0; have HCV := Lib.hid hcv
            clear hd9 hC9 hR10 hA10 hO10 hslp9 hsl9 hci cr hr0 hR9 hA9 hO9 hslp hsl2 HC2 hO2 hy2 k0 k1 k2 k3 k4 f0 f1 f2 f3 f4 HX HXX HC HO HVT HX8 HA3 HWR HRR2 hcv
            go_wp2_with fail
            refine (CB2.out _ HR9.out).mono ?_
            rintro e wa ⟨rfl, hSa⟩
            have HCa := Lib.hid (hSa.heap HC9.out (fun h => h)); have HAa := Lib.hid (hSa.heap HA9.out (fun h => h)); have HRa := Lib.hid (HR9.out.same hSa)
            have HOa := Lib.hid (HO9.out.then hSa); have HPa := Lib.hid (HP9.out.same hSa); have HSa := Lib.hid (HS9.out.same hSa)
            clear hSa HA9 HC9 HR9 HO9 HP9 HS9
            obtain ⟨⟨k0, k1, k2, k3, k4⟩, f0, f1, f2, f3, f4⟩ := five_facts HCa.out
            go_wp2_with fail
            refine (CR.out _ HPa.out HSa.out).mono ?_
            rintro e w6 ⟨rfl, hS6⟩
            have HC6 := Lib.hid (hS6.heap HCa.out (fun h => h)); have HA6 := Lib.hid (hS6.heap HAa.out (fun h => h)); have HR6 := Lib.hid (HRa.out.same hS6)
            have HO6 := Lib.hid (HOa.out.then hS6); have HP6 := Lib.hid (HPa.out.same hS6); have HS6 := Lib.hid (HSa.out.same hS6)
            clear hS6 HAa HCa HRa HOa HPa HSa k0 k1 k2 k3 k4 f0 f1 f2 f3 f4
            obtain ⟨⟨k0, k1, k2, k3, k4⟩, f0, f1, f2, f3, f4⟩ := five_facts HC6.out
            obtain ⟨⟨l0, l1, l2, l3, l4⟩, e0, e1, e2, e3, e4⟩ := five_facts HA6.out
            by_cases h0 : r0 = 0
            · subst h0
              have hk : okC (readA d ts ws rest) = some (readA d ts ws rest) := okC_some HR0.out.symm
              have HK := Lib.hid hk
              clear hk
              go_wp2_with fail
              refine bodyPost_ret (results_ct2 rfl _ _ _ _ _ _ _ rfl (five_set HA6.out _ _ _ _ _) Try.underlying27 rfl (by kernel_rfl)) rfl ?_
              refine ⟨_, rfl, HO6.out.put5 (fun h => by omega) _ _ _ _ _, ?_, ?_⟩
              · rw [HRZ.out]; exact HR6.out.only ((Only.refl (· = w.heap.size) w6).put5 (fun _ => rfl) _ _ _ _ _) (by omega)
              · rw [HRZ.out, HK.out]
                have hp5 := (Only.refl (· = w.heap.size) w6).put5 (fun _ => rfl) (.int .i64 d) (.slice av nv cv) (.slice av2 nv2 cv2) (.int .i64 y) (.bool false)
                exact ⟨_, rfl, .slice av nv cv, .slice av2 nv2 cv2, by simp only [Option.getD_some]; unfold readA; simp only; rw [HYG.out], HP6.out.keep hp5 (fun b' off sp n c h0 e h => by have := HVF.out b' off sp n c e; omega), HS6.out.keep hp5 (fun b' off sp n c e h => by have := hfr2 b' off sp n c e; omega), HVF.out.mono (by omega), hfr2.mono (by omega)⟩
            · have hk : okC (readA d ts ws rest) = none := okC_none (by rw [← HR0.out]; exact h0)
              have HK := Lib.hid hk
              have hn := neq0 h0
              clear hk h0
              go_wp2_with fail
              refine bodyPost_ret (results_ct2 rfl _ _ _ _ _ _ _ rfl (five_set HA6.out _ _ _ _ _) Try.underlying27 rfl (by kernel_rfl)) rfl ?_
              refine ⟨_, rfl, HO6.out.put5 (fun h => by omega) _ _ _ _ _, ?_, ?_⟩
              · rw [HRZ.out]; exact HR6.out.only ((Only.refl (· = w.heap.size) w6).put5 (fun _ => rfl) _ _ _ _ _) (by omega)
              · rw [HRZ.out, HK.out]; exact ⟨_, rfl, chg_zero _ _⟩
/-- doc.Read. -/
theorem read_any (b : Nat) (st : RS) (w : World) (h : Rd w b st) (hlen : (st.getD []).length ≤ 1000000) :
    Calls Try.prog 22 #[.pointer (some ⟨b, 0, none⟩)] w fun e w' => ∃ v, e = .returned v ∧ Only (· = b) w w' ∧ Rd w' b (readD st).2 ∧ ReadV w' w.heap.size v (readD st).1 := by
  by_cases hg : (varS (varS st).2).1 = 0
  · exact read_live b st w h hlen hg
  · exact read_gone b st w h hlen hg
end Go.Proofs.Ytjegohibpojneaa
