import Derived.Test.YtjegohibpojneaaDocParse
import Derived.Test.YtjegohibpojneaaDocSameD
import Derived.Test.YtjegohibpojneaaDocBackP
set_option linter.unusedVariables false
set_option linter.unusedSimpArgs false
namespace Go.Proofs.Ytjegohibpojneaa
open Go.RowKit
attribute [local go_sem ↓] Go.wp_at_zero Go.wp_at_succ

theorem noughts_any (w : World) : Calls Try.prog 81 #[] w fun e w' => e = .returned (.slice (some ⟨w.heap.size, 0, none⟩) 8 8) ∧ w' = w.alloc (.cells #[.int .i64 0, .int .i64 0, .int .i64 0, .int .i64 0, .int .i64 0, .int .i64 0, .int .i64 0, .int .i64 0] 3) := by
  go_enter Try.func81, Try.ntmps81
  go_wp2
  go_ret
  exact ⟨rfl, rfl⟩
/-- A block that is a row. -/
theorem own_blk {w : World} {g : Nat} (n size : Nat) {cs : Array Value} {e : TypeId} (h : w.heap[g]? = some (.cells cs e (0, 0))) (hs : cs.size = n * size) (hm : n ≤ maxLen) : w.ownsRow g e size (.slice (some ⟨g, 0, none⟩) n n) n cs.toList :=
  ⟨by simpa using hs, .inr ⟨g, n, cs, rfl, Nat.le_refl _, h, Nat.le_refl _, hm, hs, List.take_of_length_le (by simp [hs])⟩⟩
/-- One more on a row, at a step of a region that draws: only the row's own block has changed. -/
theorem step_own {P : Program} (w : World) {ops : Array Oper} {o : Oper} {a : Act} {K : Act → World → Prop} {Q : Exit → Act → World → Prop} {E : Prop} (hgd : o.guard = none) (s x : Operand) (t : TypeId)
    (ho : o.op = .call { callee := .builtin .append, args := #[s, x], argTypes := #[t, t] })
    (base : Nat) (e : TypeId) (z : Value) (size bytes : Nat) (ht : P.underlying t = some (.slice e)) (hinfo : (P.info? e).map (fun i => (i.zero, i.size, i.bytes)) = some (some z, size, bytes)) (hzs : z.cells.size = size) (hsz : 0 < size)
    (v : Value) (n : Nat) (xs : List Value) (hs : a.eval s = v) (hown : w.ownsRow base e size v n xs)
    (B : Nat) (us : List Value) (hx : a.eval x = .slice (some ⟨B, 0, none⟩) 1 1) (hB : w.heap[B]? = some (.cells us.toArray e (0, 0))) (hl : us.length = size) (h1 : ∀ u ∈ us, u.oneCell' = true)
    (h63 : n + 1 ≤ maxLen) (hbytes : (n + 1) * bytes ≤ 140737488355328) (hbase : base ≤ w.heap.size)
    (h : ∀ g cap w', w'.ownsRow base e size (.slice (some ⟨g, 0, none⟩) (n + 1) cap) (n + 1) (xs ++ us) → Only (fun k => v.ownBlock = some k) w w' → (v.ownBlock = some g ∨ w.heap.size ≤ g) → K (a.put o.dst (.slice (some ⟨g, 0, none⟩) (n + 1) cap)) w') :
    if Region.wanted o (yielded ops a.tmps) = true then Oper.wp P o a w K Q else E := by
  obtain ⟨i, hi, hz0, hz1, hz2⟩ := info_parts hinfo
  refine step_append_lies w hgd s x t ho base e i z size bytes ht hi hz0 hz1 hz2 hzs hsz v n xs hs hown ⟨B, 0, none⟩ 1 1 us hx (by omega) (World.news_of_block hB) h1 (by omega) h63 hbytes hbase w.heap.size rfl ?_
  intro g cap w' h2 hg hl _
  exact h g cap w' h2 ((Only.refl _ w).grown hg (fun k hk _ => hk)) (hl.imp id (fun h => by omega))
def cA : Chg := ⟨5, [(1, 2)], [0, 0, 0, 0, 0, 0, 0, 0], 3, false⟩
def cT : Chg := ⟨5, [(1, 2), (1, 2)], [0, 0, 0, 0, 0, 0, 0, 0], 3, false⟩
def cG : Chg := ⟨5, [], [], 0, true⟩
theorem cA_right : rightD cA = 0 := by decide
theorem cT_right : rightD cT = 9 := by decide
theorem cG_right : rightD cG = 0 := by decide
theorem cA_i : ChgI cA := by unfold ChgI cA i64b; simp
theorem cT_i : ChgI cT := by unfold ChgI cT i64b; simp
theorem cG_i : ChgI cG := by unfold ChgI cG i64b; simp
theorem cA_print : docS cA = some (docBytes cA) := by unfold docS; rw [if_pos cA_right]
theorem cG_print : docS cG = some [5, 1] := by
  unfold docS docBytes
  rw [if_pos cG_right]
  simp only [cG]
  rw [vint_small (by decide)]
  rfl
theorem cA_len : (docBytes cA).length = 15 := by
  unfold docBytes cA risS risb risb
  simp only [List.map_cons, List.map_nil]
  rw [if_neg (by decide), if_neg (by decide), vint_small (by decide), vint_small (by decide), vint_small (by decide)]
  simp [fixB_len]
theorem cA_parse : parseD (docBytes cA) = (cA, 0) := by
  have h := readD_fwd cA [] ((right0_iff cA).1 cA_right)
  rw [List.append_nil] at h
  unfold parseD
  rw [h]
  rfl
theorem nil_parse : parseD [] = (zChg, 2) := by
  unfold parseD
  cases h : (readD (some [])).1 with
  | none => rfl
  | some c =>
    obtain ⟨t, _, _, e⟩ := readD_bwd [] c h
    have := vint_pos c.doc.toNat
    have h2 := congrArg List.length e
    unfold docBytes at h2
    simp at h2
    omega
set_option maxRecDepth 100000 in
set_option maxHeartbeats 4000000 in
theorem dawake_any (w : World) : Calls Try.prog 14 #[] w fun e w' => e = .returned (.bool true) ∧ Same w w' := by
  have hS0 : Same w (((w.alloc (.cells #[.int .i64 1, .int .i64 2] 142)).alloc (.cells #[.int .i64 0, .int .i64 0, .int .i64 0, .int .i64 0, .int .i64 0, .int .i64 0, .int .i64 0, .int .i64 0] 3)).alloc (.cells #[.int .i64 5, .slice (some ⟨w.heap.size, 0, none⟩) 1 1, .slice (some ⟨w.heap.size + 1, 0, none⟩) 8 8, .int .i64 3, .bool false] 27)) := (((Only.refl _ w).alloc _).alloc _).alloc _
  have hA0 := blk_old (.cells #[.int .i64 5, .slice (some ⟨w.heap.size, 0, none⟩) 1 1, .slice (some ⟨w.heap.size + 1, 0, none⟩) 8 8, .int .i64 3, .bool false] 27) (blk_old (.cells #[.int .i64 0, .int .i64 0, .int .i64 0, .int .i64 0, .int .i64 0, .int .i64 0, .int .i64 0, .int .i64 0] 3) (blk_new w (.cells #[.int .i64 1, .int .i64 2] 142)))
  have hB0 := blk_old (.cells #[.int .i64 5, .slice (some ⟨w.heap.size, 0, none⟩) 1 1, .slice (some ⟨w.heap.size + 1, 0, none⟩) 8 8, .int .i64 3, .bool false] 27) (blk_new (w.alloc (.cells #[.int .i64 1, .int .i64 2] 142)) (.cells #[.int .i64 0, .int .i64 0, .int .i64 0, .int .i64 0, .int .i64 0, .int .i64 0, .int .i64 0, .int .i64 0] 3))
  have hC0 := blk_new ((w.alloc (.cells #[.int .i64 1, .int .i64 2] 142)).alloc (.cells #[.int .i64 0, .int .i64 0, .int .i64 0, .int .i64 0, .int .i64 0, .int .i64 0, .int .i64 0, .int .i64 0] 3)) (.cells #[.int .i64 5, .slice (some ⟨w.heap.size, 0, none⟩) 1 1, .slice (some ⟨w.heap.size + 1, 0, none⟩) 8 8, .int .i64 3, .bool false] 27)
  rw [World.size_alloc] at hB0
  rw [World.size_alloc, World.size_alloc] at hC0
  go_enter Try.func14, Try.ntmps14
  go_upto_region 2 with (go_at_call 81; refine (noughts_any _).mono ?_; rintro e w' ⟨rfl, rfl⟩)
  generalize ((w.alloc (.cells #[.int .i64 1, .int .i64 2] 142)).alloc (.cells #[.int .i64 0, .int .i64 0, .int .i64 0, .int .i64 0, .int .i64 0, .int .i64 0, .int .i64 0, .int .i64 0] 3)).alloc (.cells #[.int .i64 5, .slice (some ⟨w.heap.size, 0, none⟩) 1 1, .slice (some ⟨w.heap.size + 1, 0, none⟩) 8 8, .int .i64 3, .bool false] 27) = W0 at *
  have hVA : ∀ w0, Same W0 w0 → ChgV w0 (.agg #[.int .i64 5, .slice (some ⟨w.heap.size, 0, none⟩) 1 1, .slice (some ⟨w.heap.size + 1, 0, none⟩) 8 8, .int .i64 3, .bool false]) cA := fun w0 hS => ChgV.same ⟨_, _, rfl, own_slp (l := [(1, 2)]) (own_blk 1 2 hA0 rfl (by decide)), own_sl (l := [0, 0, 0, 0, 0, 0, 0, 0]) (enc := Value.int .i64) (own_blk 8 1 hB0 rfl (by decide))⟩ hS
  have HVA := Lib.hid hVA
  have HA0 := Lib.hid hA0; have HB0 := Lib.hid hB0; have HC0 := Lib.hid hC0; have HS0 := Lib.hid hS0
  obtain ⟨⟨k0, k1, k2, k3, k4⟩, _⟩ := five_facts hC0
  clear hA0 hB0 hC0 hS0 hVA
  obtain ⟨L, hL⟩ : ∃ L, L = docBytes cA := ⟨_, rfl⟩
  have cp := fun w0 hS => print_any _ cA w0 (HVA.out w0 hS) cA_i
  rw [cA_print, cA_right, Option.getD_some, ← hL] at cp
  have cq := fun w0 => parse_any L w0 (by rw [hL, cA_len]; omega)
  rw [show parseD L = (cA, 0) from by rw [hL]; exact cA_parse] at cq
  have hsz : (str L).size = 15 := by rw [str_size, hL, cA_len]
  have HCP := Lib.hid cp; have HCQ := Lib.hid cq
  clear hL cp cq
  go_wp2_with fail
  refine (HCP.out _ (Only.refl _ _)).mono ?_
  rintro e w1 ⟨rfl, hS1⟩
  have HC1 := Lib.hid (hS1.heap HC0.out (fun h => h)); have HA1 := Lib.hid (hS1.heap HA0.out (fun h => h)); have HB1 := Lib.hid (hS1.heap HB0.out (fun h => h))
  have HS1 := Lib.hid (HS0.out.then hS1)
  clear hS1 HC0 HA0 HB0 HS0 k0 k1 k2 k3 k4 HCP HVA
  go_wp2_with fail
  refine (HCQ.out _).mono ?_
  rintro e w2 ⟨u, rfl, hS2, hF2⟩
  obtain ⟨a1, n1, m1, a2, n2, m2, hu, hn1, hn2⟩ := chg_form hF2.chg
  have hu2 : u = .agg #[.int .i64 5, .slice a1 1 m1, .slice a2 8 m2, .int .i64 3, .bool false] := by rw [hu, hn1, hn2]; rfl
  subst hu2
  clear hu hn1 hn2 n1 n2
  have HC2 := Lib.hid (hS2.heap HC1.out (fun h => h)); have HA2 := Lib.hid (hS2.heap HA1.out (fun h => h)); have HB2 := Lib.hid (hS2.heap HB1.out (fun h => h))
  have HS2 := Lib.hid (HS1.out.then hS2); have HF2 := Lib.hid hF2
  have hz2 := hS2.size
  have hz1 := heap_lt HC1.out
  clear hS2 hF2 HC1 HA1 HB1 HS1 HCQ
  have hD3 := blk_new w2 (.cells #[.int .i64 5, .slice a1 1 m1, .slice a2 8 m2, .int .i64 3, .bool false] 27)
  have hS3 : Same w2 (w2.alloc (.cells #[.int .i64 5, .slice a1 1 m1, .slice a2 8 m2, .int .i64 3, .bool false] 27)) := (Only.refl _ w2).alloc _
  go_upto_region 4 with fail
  generalize w2.alloc (.cells #[.int .i64 5, .slice a1 1 m1, .slice a2 8 m2, .int .i64 3, .bool false] 27) = W3 at *
  have HC3 := Lib.hid (hS3.heap HC2.out (fun h => h)); have HA3 := Lib.hid (hS3.heap HA2.out (fun h => h)); have HB3 := Lib.hid (hS3.heap HB2.out (fun h => h)); have HD3 := Lib.hid hD3
  have HS3 := Lib.hid (HS2.out.then hS3); have HF3 := Lib.hid (HF2.out.same hS3)
  clear hS3 hD3 HC2 HA2 HB2 HS2 HF2
  have cp := fun w0 => print_any (.agg #[.int .i64 5, .slice none 0 0, .slice none 0 0, .int .i64 0, .bool true]) cG w0 ⟨_, _, rfl, SlP.nil w0, ⟨none, 0, rfl, by simp [cG], by simp, fun _ => rfl, fun h => absurd h (by simp [cG])⟩⟩ cG_i
  rw [cG_print, cG_right, Option.getD_some, show str [5, 1] = ⟨#[5, 1]⟩ from rfl] at cp
  have cq := fun w0 => parse_any [] w0 (by simp)
  rw [nil_parse, str_nil] at cq
  have HCP := Lib.hid cp; have HCQ := Lib.hid cq
  clear cp cq
  go_wp2_with fail
  refine (HCP.out _).mono ?_
  rintro e w4 ⟨rfl, hS4⟩
  have HC4 := Lib.hid (hS4.heap HC3.out (fun h => h)); have HA4 := Lib.hid (hS4.heap HA3.out (fun h => h)); have HB4 := Lib.hid (hS4.heap HB3.out (fun h => h)); have HD4 := Lib.hid (hS4.heap HD3.out (fun h => h))
  have HS4 := Lib.hid (HS3.out.then hS4); have HF4 := Lib.hid (HF3.out.same hS4)
  clear hS4 HC3 HA3 HB3 HD3 HS3 HF3 HCP
  go_wp2_with fail
  refine (HCQ.out _).mono ?_
  rintro e w5 ⟨u, rfl, hS5, hF5⟩
  obtain ⟨b1, n1, m3, b2, n2, m4, hu, hn1, hn2⟩ := chg_form hF5.chg
  have hu2 : u = .agg #[.int .i64 0, .slice b1 0 m3, .slice b2 0 m4, .int .i64 0, .bool false] := by rw [hu, hn1, hn2]; rfl
  subst hu2
  clear hu hn1 hn2 n1 n2 hF5
  have HC5 := Lib.hid (hS5.heap HC4.out (fun h => h)); have HA5 := Lib.hid (hS5.heap HA4.out (fun h => h)); have HB5 := Lib.hid (hS5.heap HB4.out (fun h => h)); have HD5 := Lib.hid (hS5.heap HD4.out (fun h => h))
  have HS5 := Lib.hid (HS4.out.then hS5); have HF5 := Lib.hid (HF4.out.same hS5)
  clear hS5 HC4 HA4 HB4 HD4 HS4 HF4 HCQ
  have hS6 : Same w5 (w5.alloc (.cells #[.int .i64 0, .slice b1 0 m3, .slice b2 0 m4, .int .i64 0, .bool false] 27)) := (Only.refl _ w5).alloc _
  go_upto_region 6 with fail
  generalize w5.alloc (.cells #[.int .i64 0, .slice b1 0 m3, .slice b2 0 m4, .int .i64 0, .bool false] 27) = W6 at *
  have HC6 := Lib.hid (hS6.heap HC5.out (fun h => h)); have HA6 := Lib.hid (hS6.heap HA5.out (fun h => h)); have HB6 := Lib.hid (hS6.heap HB5.out (fun h => h)); have HD6 := Lib.hid (hS6.heap HD5.out (fun h => h))
  have HS6 := Lib.hid (HS5.out.then hS6); have HF6 := Lib.hid (HF5.out.same hS6)
  clear hS6 HC5 HA5 HB5 HD5 HS5 HF5
  have HOW := Lib.hid (own_blk 1 2 HA6.out rfl (by decide))
  have hinf : (Try.prog.info? 142).map (fun i => (i.zero, i.size, i.bytes)) = some (some (.agg #[.int .i64 0, .int .i64 0]), 2, 16) := by kernel_rfl
  have HINF := Lib.hid hinf
  clear hinf
  have hzC := heap_lt HC6.out
  have hzD := heap_lt HD6.out
  obtain ⟨⟨_, k1, _, _, _⟩, _, f1, _, _, _⟩ := five_facts HC6.out
  obtain ⟨p0, p1, _, _⟩ := two_facts HA6.out
  have q0 : Only (fun k => k = w.heap.size) W6 W6 := Only.refl _ _
  go_region_law ((refine step_own _ (by rfl) (.tmp 37) (.tmp 43) 22 (by rfl) w.heap.size 142 (.agg #[.int .i64 0, .int .i64 0]) 2 16 Try.underlying22 HINF.out rfl (by omega) (.slice (some ⟨w.heap.size, 0, none⟩) 1 1) 1 _ (by rfl) (by first | exact HOW.out | exact HOW.out.alloc _) _ [.int .i64 1, .int .i64 2] (by rfl) (by first | exact blk_new _ _ | exact blk_new1 _ _ _) rfl (by intro u hu; simp at hu; rcases hu with rfl | rfl <;> rfl) (by decide) (by decide) (by simp; omega) ?_); intro gn capn wn hN hq hg; have q0 := Only.same (by first | exact q0 | exact q0.drew | exact q0.alloc _ | exact q0.drew.alloc _) (hq.mono (S' := fun k => k = w.heap.size) (fun k _ h => by cases h; rfl)); clear hq; have hbn := q0.heap HC6.out (by omega); obtain ⟨⟨_, m1, _, _, _⟩, _, n1, _, _, _⟩ := five_facts hbn)
  all_goals
    have hgn : gn ≠ w.heap.size + 1 + 1 := by
      rcases hg with h | h
      · have h2 : w.heap.size = gn := by simpa [Value.ownBlock] using h
        omega
      · simp at h; omega
    have hD7 := q0.heap HD6.out (by omega)
    have hB7 := q0.heap HB6.out (by omega)
    have hC7 := blk_set (j := 1) (v := .slice (some ⟨gn, 0, none⟩) 2 capn) hbn
    have hp7 : Only (· = w.heap.size + 1 + 1) wn (wn.setCell ⟨w.heap.size + 1 + 1, 1, none⟩ (.slice (some ⟨gn, 0, none⟩) 2 capn)) := (Only.refl (· = w.heap.size + 1 + 1) wn).setCell (fun _ => rfl) _
    have HD7 := Lib.hid (hp7.heap hD7 (by omega))
    have HB7 := Lib.hid (hp7.heap hB7 (by omega))
    have HN7 := Lib.hid (own_keep hN hp7 (fun k hk => by have h2 : gn = k := by simpa [Value.ownBlock] using hk
                                                         omega))
    have hqd : Only (fun k => k = w.heap.size ∨ k = w.heap.size + 1 + 1) W6 wn := q0.mono (fun k _ h => .inl h)
    have HQ7 := Lib.hid (hqd.same (hp7.mono (S' := fun k => k = w.heap.size ∨ k = w.heap.size + 1 + 1) (fun k _ h => .inr h)))
    have HF7 := Lib.hid (HF6.out.only HQ7.out (fun b h => by have h2 : b = w.heap.size ∨ b = w.heap.size + 1 + 1 := h; omega))
    have HS7 := Lib.hid (HS6.out.trans HQ7.out (S := fun _ => False) (fun k h1 h => by have h2 : k = w.heap.size ∨ k = w.heap.size + 1 + 1 := h; omega))
    have HC7 := Lib.hid hC7
    clear hgn hD7 hB7 hC7 hp7 hqd q0 hN hbn hg HF6 HS6 HQ7 HC6 HA6 HB6 HD6 k1 f1 p0 p1
    go_upto_region 7 with fail
    generalize wn.setCell ⟨w.heap.size + 1 + 1, 1, none⟩ (.slice (some ⟨gn, 0, none⟩) 2 capn) = W7 at *
    obtain ⟨⟨k0, k1, k2, k3, k4⟩, _⟩ := five_facts HC7.out
    obtain ⟨⟨l0, l1, l2, l3, l4⟩, _⟩ := five_facts HD7.out
    have cr := right_any (.agg #[.int .i64 5, .slice (some ⟨gn, 0, none⟩) 2 capn, .slice (some ⟨w.heap.size + 1, 0, none⟩) 8 8, .int .i64 3, .bool false]) cT W7 ⟨_, _, rfl, own_slp (l := [(1, 2), (1, 2)]) HN7.out, own_sl (l := [0, 0, 0, 0, 0, 0, 0, 0]) (enc := Value.int .i64) (own_blk 8 1 HB7.out rfl (by decide))⟩ cT_i
    rw [cT_right] at cr
    have cs := fun w0 hS => dsame_any _ _ cA cA w0 (HF7.out.chg.same hS) (HF7.out.chg.same hS)
    rw [sameD_self] at cs
    have HCR := Lib.hid cr; have HCS := Lib.hid cs
    clear cr cs
    go_wp2_with fail
    refine HCR.out.mono ?_
    rintro e w8 ⟨rfl, hS8⟩
    obtain ⟨⟨l0, l1, l2, l3, l4⟩, _⟩ := five_facts (hS8.heap HD7.out (fun h => h))
    go_wp2_with fail
    refine (HCS.out _ hS8).mono ?_
    rintro e w9 ⟨rfl, hS9⟩
    go_wp2_with fail
    go_ret
    exact ⟨rfl, (HS7.out.then hS8).then hS9⟩
end Go.Proofs.Ytjegohibpojneaa
