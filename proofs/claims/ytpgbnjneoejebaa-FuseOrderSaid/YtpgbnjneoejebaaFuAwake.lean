import Derived.Test.YtpgbnjneoejebaaFuFew
import Derived.Test.YtpgbnjneoejebaaFuSpec
import Derived.ArgAppend
set_option linter.unusedVariables false
set_option linter.unusedSimpArgs false
namespace Go.Proofs.Ytpgbnjneoejebaa
open Go.RowKit
attribute [local go_sem ↓] Go.wp_at_zero Go.wp_at_succ

theorem blk_slp {w : World} {g : Nat} {t : TypeId} {l : List (Int × Int)} (h : w.heap[g]? = some (.cells (cells2 l).toArray t (0, 0))) (hl : l.length ≤ 1000) : w.ownsRow g t 2 (.slice (some ⟨g, 0, none⟩) l.length l.length) l.length (cells2 l) :=
  ⟨by rw [cells2_len], .inr ⟨g, l.length, _, rfl, Nat.le_refl _, h, Nat.le_refl _, by unfold maxLen; omega, by simp [cells2_len], by simp [← cells2_len]⟩⟩
/-- 'append(v, x...)' onto a full slice: nothing that was there changes. -/
theorem app_full {P : Program} {w : World} {ops : Array Oper} {rest : List Oper} {o : Oper} {a : Act} {Q : Exit → Act → World → Prop} (hgd : o.guard = none) (s x : Operand) (t : TypeId)
    (ho : o.op = .call { callee := .builtin .append, args := #[s, x], argTypes := #[t, t] })
    (e : TypeId) (z : Value) (size bytes : Nat) (ht : P.underlying t = some (.slice e)) (hinfo : (P.info? e).map (fun i => (i.zero, i.size, i.bytes)) = some (some z, size, bytes))
    (hzs : z.cells.size = size) (hsz : 0 < size)
    (ao : Option Addr) (n cap : Nat) (olds : List Value) (hs : a.eval s = .slice ao n cap) (hnone : ao = none → n = 0 ∧ cap = 0) (hlo : olds.length = n * size) (holds : ∀ b, ao = some b → ∀ j u, olds[j]? = some u → w.cell? (b.add j) = some u)
    (b : Addr) (m c : Nat) (news : List Value) (hx : a.eval x = .slice (some b) m c)
    (hl : news.length = m * size) (hnews : ∀ j u, news[j]? = some u → w.cell? (b.add j) = some u) (h1 : ∀ u ∈ news, u.oneCell' = true) (hfull : cap < n + m)
    (h63 : n + m ≤ maxLen) (hbytes : (n + m) * bytes ≤ 140737488355328)
    (h : ∀ v' w', w'.ownsRow w.heap.size e size v' (n + m) (olds ++ news) → Same w w' → wpList P ops Q rest (a.put o.dst v') w')
    : wpList P ops Q (o :: rest) a w := by
  obtain ⟨i, hi, hz0, hz1, hz2⟩ := info_parts hinfo
  exact wpList_append_grows w hgd s x t ho e i z size bytes ht hi hz0 hz1 hz2 hzs hsz ao n cap olds hs hnone hlo holds b m c news hx hl hnews h1 hfull h63 hbytes fun v' w' h2 h3 => h v' w' h2 ((Only.refl _ _).grown h3 (fun k e _ => by cases e))
theorem cells3_map (l : List VP) : cells3 l = (l.map fun x : VP => (x.1, vb x, vc x)).flatMap fun t => [.int .i64 t.1, .int .i64 t.2.1, .int .i64 t.2.2] := by unfold cells3; rw [List.flatMap_map]
theorem aw_r (v1 v2 : Value) (w : World) (h1 : SlP w v1 [(5, 2)]) (h2 : SlP w v2 [(5, 3), (6, 1)]) : Calls Try.prog 9 #[v1, v2, .int .i64 1, .int .i64 9] w fun e w' => ∃ g c, e = .returned (.tuple #[.slice (some ⟨g, 0, none⟩) 2 c, .int .i64 0]) ∧ Same w w' ∧ w.heap.size ≤ g ∧ 2 ≤ c ∧ c ≤ maxLen ∧
    (w'.cell? ⟨g, 0, none⟩ = some (.int .i64 5) ∧ w'.cell? ⟨g, 1, none⟩ = some (.int .i64 1) ∧ w'.cell? ⟨g, 2, none⟩ = some (.int .i64 1) ∧ w'.cell? ⟨g, 3, none⟩ = some (.int .i64 6) ∧ w'.cell? ⟨g, 4, none⟩ = some (.int .i64 1) ∧ w'.cell? ⟨g, 5, none⟩ = some (.int .i64 3)) := by
  refine (ranks_any v1 v2 _ _ 1 9 w h1 h2 (by intro p hp; simp at hp; subst hp; decide) (by intro p hp; simp at hp; rcases hp with rfl | rfl <;> decide)).mono ?_
  have ha : askedF [(5, 2)] [(5, 3), (6, 1)] (okC 1) 9 = 0 := by kernel_rfl
  rw [ha]
  rintro e w' ⟨v, l, rfl, hS, hown, hF, _⟩
  obtain ⟨F, hF2, rfl⟩ := hF rfl
  have e1 := fuP_eq hF2 (by simp [docsF]) (by simp [docsF])
  subst e1
  have hc := cells3_map (bestG 9 (fuP [(5, 2)] [(5, 3), (6, 1)] (rkB 1) (rkB 1)))
  have hl := congrArg List.length aw_ranks
  rw [aw_ranks] at hc
  rw [List.length_map] at hl
  rw [hc, hl] at hown
  rcases hown.2 with ⟨_, h0⟩ | ⟨g, cap, cur, rfl, hbg, hg, hn, hm, hz, ht⟩
  · simp at h0
  · have hcell : ∀ j, j < 6 → w'.cell? ⟨g, j, none⟩ = ([.int .i64 5, .int .i64 1, .int .i64 1, .int .i64 6, .int .i64 1, .int .i64 3] : List Value)[j]? := fun j hj => by
      rw [blk_cells hg, ← Array.getElem?_toList]
      have := congrArg (fun l => l[j]?) ht
      simp only [List.getElem?_take, List.length_cons, List.length_nil] at this
      rw [if_pos (by omega)] at this
      rw [this]; rfl
    exact ⟨g, cap, rfl, hS, hbg, hn, hm, hcell 0 (by omega), hcell 1 (by omega), hcell 2 (by omega), hcell 3 (by omega), hcell 4 (by omega), hcell 5 (by omega)⟩
theorem aw_w (v1 v2 : Value) (w : World) (h1 : SlP w v1 [(5, 2)]) (h2 : SlP w v2 [(5, 3), (6, 1)]) : Calls Try.prog 10 #[v1, v2, .int .i64 10, .int .i64 1, .int .i64 1] w fun e w' => ∃ g c, e = .returned (.tuple #[.slice (some ⟨g, 0, none⟩) 1 c, .int .i64 0]) ∧ Same w w' ∧ w.heap.size ≤ g ∧ 1 ≤ c ∧ c ≤ maxLen ∧
    (w'.cell? ⟨g, 0, none⟩ = some (.int .i64 5) ∧ w'.cell? ⟨g, 1, none⟩ = some (.int .i64 23) ∧ w'.cell? ⟨g, 2, none⟩ = some (.int .i64 1)) := by
  refine (weights_any v1 v2 _ _ 10 1 1 w h1 h2 (by intro p hp; simp at hp; subst hp; decide) (by intro p hp; simp at hp; rcases hp with rfl | rfl <;> decide)).mono ?_
  have ha : askedF [(5, 2)] [(5, 3), (6, 1)] (okW 10 1) 1 = 0 := by kernel_rfl
  rw [ha]
  rintro e w' ⟨v, l, rfl, hS, hown, hF, _⟩
  obtain ⟨F, hF2, rfl⟩ := hF rfl
  have e1 := fuP_eq hF2 (by simp [docsF]) (by simp [docsF])
  subst e1
  have hc := cells3_map (bestG 1 (fuP [(5, 2)] [(5, 3), (6, 1)] (wtB 10) (wtB 1)))
  have hl := congrArg List.length aw_weights
  rw [aw_weights] at hc
  rw [List.length_map] at hl
  rw [hc, hl] at hown
  rcases hown.2 with ⟨_, h0⟩ | ⟨g, cap, cur, rfl, hbg, hg, hn, hm, hz, ht⟩
  · simp at h0
  · have hcell : ∀ j, j < 3 → w'.cell? ⟨g, j, none⟩ = ([.int .i64 5, .int .i64 23, .int .i64 1] : List Value)[j]? := fun j hj => by
      rw [blk_cells hg, ← Array.getElem?_toList]
      have := congrArg (fun l => l[j]?) ht
      simp only [List.getElem?_take, List.length_cons, List.length_nil] at this
      rw [if_pos (by omega)] at this
      rw [this]; rfl
    exact ⟨g, cap, rfl, hS, hbg, hn, hm, hcell 0 (by omega), hcell 1 (by omega), hcell 2 (by omega)⟩
theorem aw_x (v1 v2 : Value) (w : World) (h1 : SlP w v1 [(5, 3), (6, 1), (5, 3), (6, 1)]) (h2 : SlP w v2 [(5, 2)]) : Calls Try.prog 9 #[v1, v2, .int .i64 1, .int .i64 9] w fun e w' => ∃ v, e = .returned (.tuple #[v, .int .i64 2]) ∧ Same w w' := by
  refine (ranks_any v1 v2 _ _ 1 9 w h1 h2 (by intro p hp; simp at hp; rcases hp with rfl | rfl | rfl | rfl <;> decide) (by intro p hp; simp at hp; subst hp; decide)).mono ?_
  have ha : askedF [(5, 3), (6, 1), (5, 3), (6, 1)] [(5, 2)] (okC 1) 9 = 2 := by kernel_rfl
  rw [ha]
  rintro e w' ⟨v, l, rfl, hS, _⟩
  exact ⟨v, rfl, hS⟩
theorem aw_y (v1 v2 : Value) (w : World) (h1 : SlP w v1 [(5, 2)]) (h2 : SlP w v2 [(5, 3), (6, 1)]) : Calls Try.prog 10 #[v1, v2, .int .i64 0, .int .i64 0, .int .i64 9] w fun e w' => ∃ v, e = .returned (.tuple #[v, .int .i64 1]) ∧ Same w w' := by
  refine (weights_any v1 v2 _ _ 0 0 9 w h1 h2 (by intro p hp; simp at hp; subst hp; decide) (by intro p hp; simp at hp; rcases hp with rfl | rfl <;> decide)).mono ?_
  have ha : askedF [(5, 2)] [(5, 3), (6, 1)] (okW 0 0) 9 = 1 := by kernel_rfl
  rw [ha]
  rintro e w' ⟨v, l, rfl, hS, _⟩
  exact ⟨v, rfl, hS⟩
theorem aw_b (w : World) : Calls Try.prog 14 #[.agg #[.int .i64 5, .int .i64 1, .int .i64 1], .agg #[.int .i64 6, .int .i64 1, .int .i64 3]] w fun e w' => e = .returned (.bool true) ∧ Same w w' := by
  have h := vbetter_any (5, qmk 1 1) (6, qmk 1 3) w
  have e1 : vpV (5, qmk 1 1) = .agg #[.int .i64 5, .int .i64 1, .int .i64 1] := by kernel_rfl
  have e2 : vpV (6, qmk 1 3) = .agg #[.int .i64 6, .int .i64 1, .int .i64 3] := by kernel_rfl
  have e3 : Bet.bet ((5, qmk 1 1) : VP) (6, qmk 1 3) = true := by kernel_rfl
  rwa [e1, e2, e3] at h
set_option maxRecDepth 100000 in
set_option maxHeartbeats 16000000 in
theorem fawake_any (w : World) : Calls Try.prog 8 #[] w fun e w' => e = .returned (.bool true) ∧ Same w w' := by
  have hS1 : Same w ((w.alloc (.cells #[.int .i64 5, .int .i64 2] 37)).alloc (.cells #[.int .i64 5, .int .i64 3, .int .i64 6, .int .i64 1] 37)) := ((Only.refl _ w).alloc _).alloc _
  have hx := blk_slp (l := [(5, 2)]) (blk_old (.cells #[.int .i64 5, .int .i64 3, .int .i64 6, .int .i64 1] 37) (blk_new w (.cells #[.int .i64 5, .int .i64 2] 37))) (by simp)
  have hy := blk_slp (l := [(5, 3), (6, 1)]) (blk_new1 w (.cells #[.int .i64 5, .int .i64 2] 37) (.cells #[.int .i64 5, .int .i64 3, .int .i64 6, .int .i64 1] 37)) (by simp)
  have HS1 := Lib.hid hS1
  have HX := Lib.hid hx; have HY := Lib.hid hy
  clear hx hy hS1
  go_enter Try.func8, Try.ntmps8
  go_upto_region 2 with fail
  have hwz : w.heap.size + 2 ≤ ((w.alloc (.cells #[.int .i64 5, .int .i64 2] 37)).alloc (.cells #[.int .i64 5, .int .i64 3, .int .i64 6, .int .i64 1] 37)).heap.size := by simp
  have HWZ := Lib.hid hwz
  clear hwz
  generalize (w.alloc (.cells #[.int .i64 5, .int .i64 2] 37)).alloc (.cells #[.int .i64 5, .int .i64 3, .int .i64 6, .int .i64 1] 37) = w1 at *
  generalize hz : w.heap.size = z at *
  have HZ := Lib.hid hz
  clear hz
  have HXS := Lib.hid (own_slp HX.out); have HYS := Lib.hid (own_slp HY.out)
  have hinf : (Try.prog.info? 37).map (fun i => (i.zero, i.size, i.bytes)) = some (some (.agg #[.int .i64 0, .int .i64 0]), 2, 16) := by kernel_rfl
  have HINF := Lib.hid hinf
  clear hinf
  go_wp2_with fail
  refine (aw_r _ _ w1 HXS.out HYS.out).mono ?_
  rintro e w2 ⟨ga, ca, rfl, hS2, hga, hc1, hc2, hcells⟩
  have HS2 := Lib.hid hS2; have HCA := Lib.hid hcells
  clear hS2 hcells
  go_wp2_with fail
  refine (aw_w _ _ w2 (HXS.out.same HS2.out) (HYS.out.same HS2.out)).mono ?_
  rintro e w3 ⟨gb, cb, rfl, hS3, hgb, hc3, hc4, hcells⟩
  have HS3 := Lib.hid (HS2.out.then hS3); have HCB := Lib.hid hcells
  have HCA3 := Lib.hid hS3
  clear hS3 hcells
  have HY3 := Lib.hid (own_same HY.out HS3.out)
  have hy3 := (HYS.out.same HS3.out)
  obtain ⟨_, _, hnews⟩ := hy3.news
  have HNW := Lib.hid (hnews ⟨z + 1, 0, none⟩ rfl)
  have hg : ga ≠ z + 1 ∧ gb ≠ z + 1 := by have := HWZ.out; have := HS2.out.size; omega
  clear hy3 hnews
  go_wp2_with (at_builtin; refine app_full rfl (.tmp 29) (.tmp 30) 22 rfl 37 (.agg #[.int .i64 0, .int .i64 0]) 2 16 Try.underlying22 HINF.out rfl (by decide) (some ⟨z + 1, 0, none⟩) 2 2 (cells2 [(5, 3), (6, 1)]) rfl (by intro h; cases h) rfl (fun b hb => by injection hb with hb; subst hb; exact HNW.out) ⟨z + 1, 0, none⟩ 2 2 (cells2 [(5, 3), (6, 1)]) rfl rfl HNW.out (cells2_one _) (by decide) (by decide) (by decide) ?_; intro v4 w4 hown4 hS4)
  rw [← cells2_append] at hown4
  have HV4 := Lib.hid (own_slp (l := [(5, 3), (6, 1), (5, 3), (6, 1)]) hown4)
  have HS4 := Lib.hid (HS3.out.then hS4); have HAB4 := Lib.hid hS4
  clear hown4 hS4 hg
  go_wp2_with fail
  refine (aw_x _ _ w4 HV4.out (HXS.out.same HS4.out)).mono ?_
  rintro e w5 ⟨v5, rfl, hS5⟩
  have HS5 := Lib.hid (HS4.out.then hS5); have HAB5 := Lib.hid (HAB4.out.then hS5)
  clear hS5
  go_wp2_with fail
  refine (aw_y _ _ w5 (HXS.out.same HS5.out) (HYS.out.same HS5.out)).mono ?_
  rintro e w6 ⟨v6, rfl, hS6⟩
  have HS6 := Lib.hid (HS5.out.then hS6); have HAB6 := Lib.hid (HAB5.out.then hS6)
  clear hS6
  obtain ⟨a0, a1, a2, a3, a4, a5⟩ := HCA.out
  obtain ⟨b0, b1, b2⟩ := HCB.out
  have q0 : Same w6 w6 := Only.refl _ _
  have hK : ∀ w', Same w6 w' → (w'.cell? ⟨ga, 0, none⟩ = some (.int .i64 5) ∧ w'.cell? ⟨ga, 1, none⟩ = some (.int .i64 1) ∧ w'.cell? ⟨ga, 2, none⟩ = some (.int .i64 1) ∧ w'.cell? ⟨ga, 3, none⟩ = some (.int .i64 6) ∧ w'.cell? ⟨ga, 4, none⟩ = some (.int .i64 1) ∧ w'.cell? ⟨ga, 5, none⟩ = some (.int .i64 3)) ∧ (w'.cell? ⟨gb, 0, none⟩ = some (.int .i64 5) ∧ w'.cell? ⟨gb, 1, none⟩ = some (.int .i64 23) ∧ w'.cell? ⟨gb, 2, none⟩ = some (.int .i64 1)) := fun w' h => by
    have h3 := HAB6.out.then h
    have h2 := HCA3.out.then h3
    exact ⟨⟨h2.cell_eq a0 (fun h => h), h2.cell_eq a1 (fun h => h), h2.cell_eq a2 (fun h => h), h2.cell_eq a3 (fun h => h), h2.cell_eq a4 (fun h => h), h2.cell_eq a5 (fun h => h)⟩, h3.cell_eq b0 (fun h => h), h3.cell_eq b1 (fun h => h), h3.cell_eq b2 (fun h => h)⟩
  have HK := Lib.hid hK
  have CR := Lib.hid (fun w0 (h : Same w6 w0) => fright_any _ [(5, 3), (6, 1)] w0 (HYS.out.same (HS6.out.then h)) (by intro p hp; simp at hp; rcases hp with rfl | rfl <;> decide))
  have hrt : decide (RightF [(5, 3), (6, 1)]) = true := by kernel_rfl
  have HRT := Lib.hid hrt
  clear hK a0 a1 a2 a3 a4 a5 b0 b1 b2 hrt HCA HCB
  go_upto_region 6 with fail
  refine wp_region_held_drew (S := (fun w' => (w'.cell? ⟨ga, 0, none⟩ = some (.int .i64 5) ∧ w'.cell? ⟨ga, 1, none⟩ = some (.int .i64 1) ∧ w'.cell? ⟨ga, 2, none⟩ = some (.int .i64 1) ∧ w'.cell? ⟨ga, 3, none⟩ = some (.int .i64 6) ∧ w'.cell? ⟨ga, 4, none⟩ = some (.int .i64 1) ∧ w'.cell? ⟨ga, 5, none⟩ = some (.int .i64 3)) ∧ (w'.cell? ⟨gb, 0, none⟩ = some (.int .i64 5) ∧ w'.cell? ⟨gb, 1, none⟩ = some (.int .i64 23) ∧ w'.cell? ⟨gb, 2, none⟩ = some (.int .i64 1)))) (by kernel_rfl) ?_ (fun hHeld => ?_)
  focus (first | exact HK.out _ q0 | exact HK.out _ q0.drew)
  refine wpAnyH_take (i := 0) (oi := ⟨some 42, _, _, _, _, _⟩) (v := ?_) rfl (by kernel_rfl) (by kernel_rfl) (by kernel_rfl) (fun _ _ _ h => h) (Or.inl ⟨by rfl, ?_⟩) (by assumption) ?_
  rotate_left
  focus ((intro w hSw; (try dsimp only at hSw); go_simp); try (with_reducible rfl))
  try simp only [Act.put, List.setIfInBounds_toArray, List.set_cons_zero, List.set_cons_succ]
  refine wpAnyH_take (i := 1) (oi := ⟨some 43, _, _, _, _, _⟩) (v := ?_) rfl (by kernel_rfl) (by kernel_rfl) (by kernel_rfl) (fun _ _ _ h => h) (Or.inl ⟨by rfl, ?_⟩) (by assumption) ?_
  rotate_left
  focus ((intro w hSw; (try dsimp only at hSw); go_simp); try (with_reducible rfl))
  try simp only [Act.put, List.setIfInBounds_toArray, List.set_cons_zero, List.set_cons_succ]
  refine wpAnyH_take (i := 2) (oi := ⟨some 44, _, _, _, _, _⟩) (v := ?_) rfl (by kernel_rfl) (by kernel_rfl) (by kernel_rfl) (fun _ _ _ h => h) (Or.inl ⟨by rfl, ?_⟩) (by assumption) ?_
  rotate_left
  focus ((intro w hSw; (try dsimp only at hSw); go_simp); try (with_reducible rfl))
  try simp only [Act.put, List.setIfInBounds_toArray, List.set_cons_zero, List.set_cons_succ]
  refine wpAnyH_take (i := 3) (oi := ⟨some 45, _, _, _, _, _⟩) (v := ?_) rfl (by kernel_rfl) (by kernel_rfl) (by kernel_rfl) (fun _ _ _ h => h) (Or.inl ⟨by rfl, ?_⟩) (by assumption) ?_
  rotate_left
  focus ((intro w hSw; (try dsimp only at hSw); go_simp); try (with_reducible rfl))
  try simp only [Act.put, List.setIfInBounds_toArray, List.set_cons_zero, List.set_cons_succ]
  refine wpAnyH_take (i := 4) (oi := ⟨some 46, _, _, _, _, _⟩) (v := ?_) rfl (by kernel_rfl) (by kernel_rfl) (by kernel_rfl) (fun _ _ _ h => h) (Or.inl ⟨by rfl, ?_⟩) (by assumption) ?_
  rotate_left
  focus ((intro w hSw; (try dsimp only at hSw); go_simp); try (with_reducible rfl))
  try simp only [Act.put, List.setIfInBounds_toArray, List.set_cons_zero, List.set_cons_succ]
  refine wpAnyH_take (i := 5) (oi := ⟨some 47, _, _, _, _, _⟩) (v := ?_) rfl (by kernel_rfl) (by kernel_rfl) (by kernel_rfl) (fun _ _ _ h => h) (Or.inl ⟨by rfl, ?_⟩) (by assumption) ?_
  rotate_left
  focus ((intro w hSw; (try dsimp only at hSw); go_simp); try (with_reducible rfl))
  try simp only [Act.put, List.setIfInBounds_toArray, List.set_cons_zero, List.set_cons_succ]
  refine wpAnyH_take (i := 6) (oi := ⟨some 48, _, _, _, _, _⟩) (v := ?_) rfl (by kernel_rfl) (by kernel_rfl) (by kernel_rfl) (fun _ _ _ h => h) (Or.inl ⟨by rfl, ?_⟩) (by assumption) ?_
  rotate_left
  focus ((intro w hSw; (try dsimp only at hSw); go_simp); try (with_reducible rfl))
  try simp only [Act.put, List.setIfInBounds_toArray, List.set_cons_zero, List.set_cons_succ]
  refine wpAnyH_take (i := 7) (oi := ⟨some 49, _, _, _, _, _⟩) (v := ?_) rfl (by kernel_rfl) (by kernel_rfl) (by kernel_rfl) (fun _ _ _ h => h) (Or.inl ⟨by rfl, ?_⟩) (by assumption) ?_
  rotate_left
  focus ((intro w hSw; (try dsimp only at hSw); go_simp); try (with_reducible rfl))
  try simp only [Act.put, List.setIfInBounds_toArray, List.set_cons_zero, List.set_cons_succ]
  refine wpAnyH_take (i := 8) (oi := ⟨some 50, _, _, _, _, _⟩) (v := ?_) rfl (by kernel_rfl) (by kernel_rfl) (by kernel_rfl) (fun _ _ _ h => h) (Or.inl ⟨by rfl, ?_⟩) (by assumption) ?_
  rotate_left
  focus ((intro w hSw; (try dsimp only at hSw); go_simp); try (with_reducible rfl))
  try simp only [Act.put, List.setIfInBounds_toArray, List.set_cons_zero, List.set_cons_succ]
  refine wpAnyH_take (i := 9) (oi := ⟨some 51, _, _, _, _, _⟩) (v := ?_) rfl (by kernel_rfl) (by kernel_rfl) (by kernel_rfl) (fun _ _ _ h => h) (Or.inl ⟨by rfl, ?_⟩) (by assumption) ?_
  rotate_left
  focus ((intro w hSw; (try dsimp only at hSw); go_simp); try (with_reducible rfl))
  try simp only [Act.put, List.setIfInBounds_toArray, List.set_cons_zero, List.set_cons_succ]
  refine wpAnyH_take (i := 10) (oi := ⟨some 52, _, _, _, _, _⟩) (v := ?_) rfl (by kernel_rfl) (by kernel_rfl) (by kernel_rfl) (fun _ _ _ h => h) (Or.inl ⟨by rfl, ?_⟩) (by assumption) ?_
  rotate_left
  focus ((intro w hSw; (try dsimp only at hSw); go_simp); try (with_reducible rfl))
  try simp only [Act.put, List.setIfInBounds_toArray, List.set_cons_zero, List.set_cons_succ]
  refine wpAnyH_take (i := 11) (oi := ⟨some 53, _, _, _, _, _⟩) (v := ?_) rfl (by kernel_rfl) (by kernel_rfl) (by kernel_rfl) (fun _ _ _ h => h) (Or.inl ⟨by rfl, ?_⟩) (by assumption) ?_
  rotate_left
  focus ((intro w hSw; (try dsimp only at hSw); go_simp); try (with_reducible rfl))
  try simp only [Act.put, List.setIfInBounds_toArray, List.set_cons_zero, List.set_cons_succ]
  refine wpAnyH_take (i := 12) (oi := ⟨some 54, _, _, _, _, _⟩) (v := ?_) rfl (by kernel_rfl) (by kernel_rfl) (by kernel_rfl) (fun _ _ _ h => h) (Or.inl ⟨by rfl, ?_⟩) (by assumption) ?_
  rotate_left
  focus ((intro w hSw; (try dsimp only at hSw); go_simp); try (with_reducible rfl))
  try simp only [Act.put, List.setIfInBounds_toArray, List.set_cons_zero, List.set_cons_succ]
  refine wpAnyH_take (i := 13) (oi := ⟨some 55, _, _, _, _, _⟩) (v := ?_) rfl (by kernel_rfl) (by kernel_rfl) (by kernel_rfl) (fun _ _ _ h => h) (Or.inl ⟨by rfl, ?_⟩) (by assumption) ?_
  rotate_left
  focus ((intro w hSw; (try dsimp only at hSw); go_simp); try (with_reducible rfl))
  try simp only [Act.put, List.setIfInBounds_toArray, List.set_cons_zero, List.set_cons_succ]
  refine wpAnyH_take (i := 14) (oi := ⟨some 56, _, _, _, _, _⟩) (v := ?_) rfl (by kernel_rfl) (by kernel_rfl) (by kernel_rfl) (fun _ _ _ h => h) (Or.inl ⟨by rfl, ?_⟩) (by assumption) ?_
  rotate_left
  focus ((intro w hSw; (try dsimp only at hSw); go_simp); try (with_reducible rfl))
  try simp only [Act.put, List.setIfInBounds_toArray, List.set_cons_zero, List.set_cons_succ]
  refine wpAnyH_take (i := 15) (oi := ⟨some 57, _, _, _, _, _⟩) (v := ?_) rfl (by kernel_rfl) (by kernel_rfl) (by kernel_rfl) (fun _ _ _ h => h) (Or.inl ⟨by rfl, ?_⟩) (by assumption) ?_
  rotate_left
  focus ((intro w hSw; (try dsimp only at hSw); go_simp); try (with_reducible rfl))
  try simp only [Act.put, List.setIfInBounds_toArray, List.set_cons_zero, List.set_cons_succ]
  refine wpAnyH_take (i := 16) (oi := ⟨some 58, _, _, _, _, _⟩) (v := ?_) rfl (by kernel_rfl) (by kernel_rfl) (by kernel_rfl) (fun _ _ _ h => h) (Or.inl ⟨by rfl, ?_⟩) (by assumption) ?_
  rotate_left
  focus ((intro w hSw; (try dsimp only at hSw); go_simp); try (with_reducible rfl))
  try simp only [Act.put, List.setIfInBounds_toArray, List.set_cons_zero, List.set_cons_succ]
  refine wpAnyH_take (i := 17) (oi := ⟨some 59, _, _, _, _, _⟩) (v := ?_) rfl (by kernel_rfl) (by kernel_rfl) (by kernel_rfl) (fun _ _ _ h => h) (Or.inl ⟨by rfl, ?_⟩) (by assumption) ?_
  rotate_left
  focus ((intro w hSw; (try dsimp only at hSw); go_simp); try (with_reducible rfl))
  try simp only [Act.put, List.setIfInBounds_toArray, List.set_cons_zero, List.set_cons_succ]
  refine wpAnyH_take (i := 18) (oi := ⟨some 60, _, _, _, _, _⟩) (v := ?_) rfl (by kernel_rfl) (by kernel_rfl) (by kernel_rfl) (fun _ _ _ h => h) (Or.inl ⟨by rfl, ?_⟩) (by assumption) ?_
  rotate_left
  focus ((intro w hSw; (try dsimp only at hSw); go_simp); try (with_reducible rfl))
  try simp only [Act.put, List.setIfInBounds_toArray, List.set_cons_zero, List.set_cons_succ]
  refine wpAnyH_take (i := 19) (oi := ⟨some 61, _, _, _, _, _⟩) (v := ?_) rfl (by kernel_rfl) (by kernel_rfl) (by kernel_rfl) (fun _ _ _ h => h) (Or.inl ⟨by rfl, ?_⟩) (by assumption) ?_
  rotate_left
  focus ((intro w hSw; (try dsimp only at hSw); go_simp); try (with_reducible rfl))
  try simp only [Act.put, List.setIfInBounds_toArray, List.set_cons_zero, List.set_cons_succ]
  refine wpAnyH_take (i := 20) (oi := ⟨some 62, _, _, _, _, _⟩) (v := ?_) rfl (by kernel_rfl) (by kernel_rfl) (by kernel_rfl) (fun _ _ _ h => h) (Or.inl ⟨by rfl, ?_⟩) (by assumption) ?_
  rotate_left
  focus ((intro w hSw; (try dsimp only at hSw); go_simp); try (with_reducible rfl))
  try simp only [Act.put, List.setIfInBounds_toArray, List.set_cons_zero, List.set_cons_succ]
  refine wpAnyH_take (i := 21) (oi := ⟨some 63, _, _, _, _, _⟩) (v := ?_) rfl (by kernel_rfl) (by kernel_rfl) (by kernel_rfl) (fun _ _ _ h => h) (Or.inl ⟨by rfl, ?_⟩) (by assumption) ?_
  rotate_left
  focus ((intro w hSw; (try dsimp only at hSw); go_simp); try (with_reducible rfl))
  try simp only [Act.put, List.setIfInBounds_toArray, List.set_cons_zero, List.set_cons_succ]
  refine wpAnyH_take (i := 22) (oi := ⟨some 64, _, _, _, _, _⟩) (v := ?_) rfl (by kernel_rfl) (by kernel_rfl) (by kernel_rfl) (fun _ _ _ h => h) (Or.inl ⟨by rfl, ?_⟩) (by assumption) ?_
  rotate_left
  focus ((intro w hSw; (try dsimp only at hSw); go_simp); try (with_reducible rfl))
  try simp only [Act.put, List.setIfInBounds_toArray, List.set_cons_zero, List.set_cons_succ]
  refine wpAnyH_take (i := 23) (oi := ⟨some 65, _, _, _, _, _⟩) (v := ?_) rfl (by kernel_rfl) (by kernel_rfl) (by kernel_rfl) (fun _ _ _ h => h) (Or.inl ⟨by rfl, ?_⟩) (by assumption) ?_
  rotate_left
  focus ((intro w hSw; (try dsimp only at hSw); go_simp); try (with_reducible rfl))
  try simp only [Act.put, List.setIfInBounds_toArray, List.set_cons_zero, List.set_cons_succ]
  refine wpAnyH_take (i := 24) (oi := ⟨some 66, _, _, _, _, _⟩) (v := ?_) rfl (by kernel_rfl) (by kernel_rfl) (by kernel_rfl) (fun _ _ _ h => h) (Or.inl ⟨by rfl, ?_⟩) (by assumption) ?_
  rotate_left
  focus ((intro w hSw; (try dsimp only at hSw); go_simp); try (with_reducible rfl))
  try simp only [Act.put, List.setIfInBounds_toArray, List.set_cons_zero, List.set_cons_succ]
  refine wpAnyH_take (i := 25) (oi := ⟨some 67, _, _, _, _, _⟩) (v := ?_) rfl (by kernel_rfl) (by kernel_rfl) (by kernel_rfl) (fun _ _ _ h => h) (Or.inl ⟨by rfl, ?_⟩) (by assumption) ?_
  rotate_left
  focus ((intro w hSw; (try dsimp only at hSw); go_simp); try (with_reducible rfl))
  try simp only [Act.put, List.setIfInBounds_toArray, List.set_cons_zero, List.set_cons_succ]
  refine wpAnyH_take (i := 26) (oi := ⟨some 68, _, _, _, _, _⟩) (v := ?_) rfl (by kernel_rfl) (by kernel_rfl) (by kernel_rfl) (fun _ _ _ h => h) (Or.inl ⟨by rfl, ?_⟩) (by assumption) ?_
  rotate_left
  focus ((intro w hSw; (try dsimp only at hSw); go_simp); try (with_reducible rfl))
  try simp only [Act.put, List.setIfInBounds_toArray, List.set_cons_zero, List.set_cons_succ]
  refine wpAnyH_take (i := 27) (oi := ⟨some 69, _, _, _, _, _⟩) (v := ?_) rfl (by kernel_rfl) (by kernel_rfl) (by kernel_rfl) (fun _ _ _ h => h) (Or.inl ⟨by rfl, ?_⟩) (by assumption) ?_
  rotate_left
  focus ((intro w hSw; (try dsimp only at hSw); go_simp); try (with_reducible rfl))
  try simp only [Act.put, List.setIfInBounds_toArray, List.set_cons_zero, List.set_cons_succ]
  refine wpAnyH_take (i := 28) (oi := ⟨some 70, _, _, _, _, _⟩) (v := ?_) rfl (by kernel_rfl) (by kernel_rfl) (by kernel_rfl) (fun _ _ _ h => h) (Or.inl ⟨by rfl, ?_⟩) (by assumption) ?_
  rotate_left
  focus ((intro w hSw; (try dsimp only at hSw); go_simp); try (with_reducible rfl))
  try simp only [Act.put, List.setIfInBounds_toArray, List.set_cons_zero, List.set_cons_succ]
  refine wpAnyH_take (i := 29) (oi := ⟨some 71, _, _, _, _, _⟩) (v := ?_) rfl (by kernel_rfl) (by kernel_rfl) (by kernel_rfl) (fun _ _ _ h => h) (Or.inl ⟨by rfl, ?_⟩) (by assumption) ?_
  rotate_left
  focus ((intro w hSw; (try dsimp only at hSw); go_simp); try (with_reducible rfl))
  try simp only [Act.put, List.setIfInBounds_toArray, List.set_cons_zero, List.set_cons_succ]
  refine wpAnyH_take (i := 30) (oi := ⟨some 72, _, _, _, _, _⟩) (v := ?_) rfl (by kernel_rfl) (by kernel_rfl) (by kernel_rfl) (fun _ _ _ h => h) (Or.inl ⟨by rfl, ?_⟩) (by assumption) ?_
  rotate_left
  focus ((intro w hSw; (try dsimp only at hSw); go_simp); try (with_reducible rfl))
  try simp only [Act.put, List.setIfInBounds_toArray, List.set_cons_zero, List.set_cons_succ]
  refine wpAnyH_take (i := 31) (oi := ⟨some 73, _, _, _, _, _⟩) (v := ?_) rfl (by kernel_rfl) (by kernel_rfl) (by kernel_rfl) (fun _ _ _ h => h) (Or.inl ⟨by rfl, ?_⟩) (by assumption) ?_
  rotate_left
  focus ((intro w hSw; (try dsimp only at hSw); go_simp); try (with_reducible rfl))
  try simp only [Act.put, List.setIfInBounds_toArray, List.set_cons_zero, List.set_cons_succ]
  refine wpAnyH_take (i := 32) (oi := ⟨some 74, _, _, _, _, _⟩) (v := ?_) rfl (by kernel_rfl) (by kernel_rfl) (by kernel_rfl) (fun _ _ _ h => h) (Or.inl ⟨by rfl, ?_⟩) (by assumption) ?_
  rotate_left
  focus ((intro w hSw; (try dsimp only at hSw); go_simp); try (with_reducible rfl))
  try simp only [Act.put, List.setIfInBounds_toArray, List.set_cons_zero, List.set_cons_succ]
  refine wpAnyH_take (i := 33) (oi := ⟨some 75, _, _, _, _, _⟩) (v := ?_) rfl (by kernel_rfl) (by kernel_rfl) (by kernel_rfl) (fun _ _ _ h => h) (Or.inl ⟨by rfl, ?_⟩) (by assumption) ?_
  rotate_left
  focus ((intro w hSw; (try dsimp only at hSw); go_simp); try (with_reducible rfl))
  try simp only [Act.put, List.setIfInBounds_toArray, List.set_cons_zero, List.set_cons_succ]
  refine wpAnyH_take (i := 34) (oi := ⟨some 76, _, _, _, _, _⟩) (v := ?_) rfl (by kernel_rfl) (by kernel_rfl) (by kernel_rfl) (fun _ _ _ h => h) (Or.inl ⟨by rfl, ?_⟩) (by assumption) ?_
  rotate_left
  focus ((intro w hSw; (try dsimp only at hSw); go_simp); try (with_reducible rfl))
  try simp only [Act.put, List.setIfInBounds_toArray, List.set_cons_zero, List.set_cons_succ]
  refine wpAnyH_take (i := 35) (oi := ⟨some 77, _, _, _, _, _⟩) (v := ?_) rfl (by kernel_rfl) (by kernel_rfl) (by kernel_rfl) (fun _ _ _ h => h) (Or.inl ⟨by rfl, ?_⟩) (by assumption) ?_
  rotate_left
  focus ((intro w hSw; (try dsimp only at hSw); go_simp); try (with_reducible rfl))
  try simp only [Act.put, List.setIfInBounds_toArray, List.set_cons_zero, List.set_cons_succ]
  refine wpAnyH_take (i := 36) (oi := ⟨some 78, _, _, _, _, _⟩) (v := ?_) rfl (by kernel_rfl) (by kernel_rfl) (by kernel_rfl) (fun _ _ _ h => h) (Or.inl ⟨by rfl, ?_⟩) (by assumption) ?_
  rotate_left
  focus ((intro w hSw; (try dsimp only at hSw); go_simp); try (with_reducible rfl))
  try simp only [Act.put, List.setIfInBounds_toArray, List.set_cons_zero, List.set_cons_succ]
  refine wpAnyH_take (i := 37) (oi := ⟨some 79, _, _, _, _, _⟩) (v := ?_) rfl (by kernel_rfl) (by kernel_rfl) (by kernel_rfl) (fun _ _ _ h => h) (Or.inl ⟨by rfl, ?_⟩) (by assumption) ?_
  rotate_left
  focus ((intro w hSw; (try dsimp only at hSw); go_simp); try (with_reducible rfl))
  try simp only [Act.put, List.setIfInBounds_toArray, List.set_cons_zero, List.set_cons_succ]
  refine wpAnyH_take (i := 38) (oi := ⟨some 80, _, _, _, _, _⟩) (v := ?_) rfl (by kernel_rfl) (by kernel_rfl) (by kernel_rfl) (fun _ _ _ h => h) (Or.inl ⟨by rfl, ?_⟩) (by assumption) ?_
  rotate_left
  focus ((intro w hSw; (try dsimp only at hSw); go_simp); try (with_reducible rfl))
  try simp only [Act.put, List.setIfInBounds_toArray, List.set_cons_zero, List.set_cons_succ]
  refine wpAnyH_take (i := 39) (oi := ⟨some 81, _, _, _, _, _⟩) (v := ?_) rfl (by kernel_rfl) (by kernel_rfl) (by kernel_rfl) (fun _ _ _ h => h) (Or.inl ⟨by rfl, ?_⟩) (by assumption) ?_
  rotate_left
  focus ((intro w hSw; (try dsimp only at hSw); go_simp); try (with_reducible rfl))
  try simp only [Act.put, List.setIfInBounds_toArray, List.set_cons_zero, List.set_cons_succ]
  refine wpAnyH_take (i := 40) (oi := ⟨some 82, _, _, _, _, _⟩) (v := ?_) rfl (by kernel_rfl) (by kernel_rfl) (by kernel_rfl) (fun _ _ _ h => h) (Or.inl ⟨by rfl, ?_⟩) (by assumption) ?_
  rotate_left
  focus ((intro w hSw; (try dsimp only at hSw); go_simp); try (with_reducible rfl))
  try simp only [Act.put, List.setIfInBounds_toArray, List.set_cons_zero, List.set_cons_succ]
  refine wpAnyH_take (i := 41) (oi := ⟨some 83, _, _, _, _, _⟩) (v := ?_) rfl (by kernel_rfl) (by kernel_rfl) (by kernel_rfl) (fun _ _ _ h => h) (Or.inl ⟨by rfl, ?_⟩) (by assumption) ?_
  rotate_left
  focus ((intro w hSw; (try dsimp only at hSw); go_simp); try (with_reducible rfl))
  try simp only [Act.put, List.setIfInBounds_toArray, List.set_cons_zero, List.set_cons_succ]
  refine wpAnyH_take (i := 42) (oi := ⟨some 84, _, _, _, _, _⟩) (v := ?_) rfl (by kernel_rfl) (by kernel_rfl) (by kernel_rfl) (fun _ _ _ h => h) (Or.inl ⟨by rfl, ?_⟩) (by assumption) ?_
  rotate_left
  focus ((intro w hSw; (try dsimp only at hSw); go_simp); try (with_reducible rfl))
  try simp only [Act.put, List.setIfInBounds_toArray, List.set_cons_zero, List.set_cons_succ]
  refine wpAnyH_take (i := 43) (oi := ⟨some 85, _, _, _, _, _⟩) (v := ?_) rfl (by kernel_rfl) (by kernel_rfl) (by kernel_rfl) (fun _ _ _ h => h) (Or.inl ⟨by rfl, ?_⟩) (by assumption) ?_
  rotate_left
  focus ((intro w hSw; (try dsimp only at hSw); go_simp); try (with_reducible rfl))
  try simp only [Act.put, List.setIfInBounds_toArray, List.set_cons_zero, List.set_cons_succ]
  refine wpAnyH_take (i := 44) (oi := ⟨some 86, _, _, _, _, _⟩) (v := ?_) rfl (by kernel_rfl) (by kernel_rfl) (by kernel_rfl) (fun _ _ _ h => h) (Or.inl ⟨by rfl, ?_⟩) (by assumption) ?_
  rotate_left
  focus ((intro w hSw; (try dsimp only at hSw); go_simp); try (with_reducible rfl))
  try simp only [Act.put, List.setIfInBounds_toArray, List.set_cons_zero, List.set_cons_succ]
  refine wpAnyH_take (i := 45) (oi := ⟨some 87, _, _, _, _, _⟩) (v := ?_) rfl (by kernel_rfl) (by kernel_rfl) (by kernel_rfl) (fun _ _ _ h => h) (Or.inl ⟨by rfl, ?_⟩) (by assumption) ?_
  rotate_left
  focus ((intro w hSw; (try dsimp only at hSw); go_simp); try (with_reducible rfl))
  try simp only [Act.put, List.setIfInBounds_toArray, List.set_cons_zero, List.set_cons_succ]
  refine wpAnyH_take (i := 46) (oi := ⟨some 88, _, _, _, _, _⟩) (v := ?_) rfl (by kernel_rfl) (by kernel_rfl) (by kernel_rfl) (fun _ _ _ h => h) (Or.inl ⟨by rfl, ?_⟩) (by assumption) ?_
  rotate_left
  focus ((intro w hSw; (try dsimp only at hSw); go_simp); try (with_reducible rfl))
  try simp only [Act.put, List.setIfInBounds_toArray, List.set_cons_zero, List.set_cons_succ]
  refine wpAnyH_take (i := 47) (oi := ⟨some 89, _, _, _, _, _⟩) (v := ?_) rfl (by kernel_rfl) (by kernel_rfl) (by kernel_rfl) (fun _ _ _ h => h) (Or.inl ⟨by rfl, ?_⟩) (by assumption) ?_
  rotate_left
  focus ((intro w hSw; (try dsimp only at hSw); go_simp); try (with_reducible rfl))
  try simp only [Act.put, List.setIfInBounds_toArray, List.set_cons_zero, List.set_cons_succ]
  refine wpAnyH_take (i := 48) (oi := ⟨some 90, _, _, _, _, _⟩) (v := ?_) rfl (by kernel_rfl) (by kernel_rfl) (by kernel_rfl) (fun _ _ _ h => h) (Or.inl ⟨by rfl, ?_⟩) (by assumption) ?_
  rotate_left
  focus ((intro w hSw; (try dsimp only at hSw); go_simp); try (with_reducible rfl))
  try simp only [Act.put, List.setIfInBounds_toArray, List.set_cons_zero, List.set_cons_succ]
  refine wpAnyH_take (i := 49) (oi := ⟨some 91, _, _, _, _, _⟩) (v := ?_) rfl (by kernel_rfl) (by kernel_rfl) (by kernel_rfl) (fun _ _ _ h => h) (Or.inl ⟨by rfl, ?_⟩) (by assumption) ?_
  rotate_left
  focus ((intro w hSw; (try dsimp only at hSw); go_simp); try (with_reducible rfl))
  try simp only [Act.put, List.setIfInBounds_toArray, List.set_cons_zero, List.set_cons_succ]
  refine wpAnyH_ready (rs := [50]) (by kernel_rfl) (by simp) ?_
  refine AllReadyH.cons (o := ⟨some 92, _, _, _, _, _⟩) rfl (fun K hK => ?_) AllReadyH.nil
  go_simp
  go_at_call 30; (first | refine (CR.out _ q0).mono ?_ | refine (CR.out _ q0.drew).mono ?_); rw [HRT.out]; rintro e w10 ⟨rfl, hS10⟩; have q0 := Only.then (by first | exact q0 | exact q0.drew) hS10; clear hS10
  refine hK.out _ _ ?_ (fun hHeld => ?_)
  focus ((try dsimp only); first | exact HK.out _ q0 | exact HK.out _ q0.drew)
  clear hK K
  try simp only [Act.put, List.setIfInBounds_toArray, List.set_cons_zero, List.set_cons_succ]
  refine wpAnyH_take (i := 51) (oi := ⟨some 93, _, _, _, _, _⟩) (v := ?_) rfl (by kernel_rfl) (by kernel_rfl) (by kernel_rfl) (fun _ _ _ h => h) (Or.inl ⟨by rfl, ?_⟩) (by assumption) ?_
  rotate_left
  focus ((intro w hSw; (try dsimp only at hSw); go_simp); try (with_reducible rfl))
  try simp only [Act.put, List.setIfInBounds_toArray, List.set_cons_zero, List.set_cons_succ]
  refine wpAnyH_take (i := 52) (oi := ⟨some 94, _, _, _, _, _⟩) (v := ?_) rfl (by kernel_rfl) (by kernel_rfl) (by kernel_rfl) (fun _ _ _ h => h) (Or.inl ⟨by rfl, ?_⟩) (by assumption) ?_
  rotate_left
  focus ((intro w hSw; (try dsimp only at hSw); go_simp); try (with_reducible rfl))
  try simp only [Act.put, List.setIfInBounds_toArray, List.set_cons_zero, List.set_cons_succ]
  refine wpAnyH_take (i := 53) (oi := ⟨some 95, _, _, _, _, _⟩) (v := ?_) rfl (by kernel_rfl) (by kernel_rfl) (by kernel_rfl) (fun _ _ _ h => h) (Or.inl ⟨by rfl, ?_⟩) (by assumption) ?_
  rotate_left
  focus ((intro w hSw; (try dsimp only at hSw); go_simp); try (with_reducible rfl))
  try simp only [Act.put, List.setIfInBounds_toArray, List.set_cons_zero, List.set_cons_succ]
  refine wpAnyH_take (i := 54) (oi := ⟨some 96, _, _, _, _, _⟩) (v := ?_) rfl (by kernel_rfl) (by kernel_rfl) (by kernel_rfl) (fun _ _ _ h => h) (Or.inl ⟨by rfl, ?_⟩) (by assumption) ?_
  rotate_left
  focus ((intro w hSw; (try dsimp only at hSw); go_simp); try (with_reducible rfl))
  try simp only [Act.put, List.setIfInBounds_toArray, List.set_cons_zero, List.set_cons_succ]
  refine wpAnyH_take (i := 55) (oi := ⟨some 97, _, _, _, _, _⟩) (v := ?_) rfl (by kernel_rfl) (by kernel_rfl) (by kernel_rfl) (fun _ _ _ h => h) (Or.inl ⟨by rfl, ?_⟩) (by assumption) ?_
  rotate_left
  focus ((intro w hSw; (try dsimp only at hSw); go_simp); try (with_reducible rfl))
  try simp only [Act.put, List.setIfInBounds_toArray, List.set_cons_zero, List.set_cons_succ]
  refine wpAnyH_take (i := 56) (oi := ⟨some 98, _, _, _, _, _⟩) (v := ?_) rfl (by kernel_rfl) (by kernel_rfl) (by kernel_rfl) (fun _ _ _ h => h) (Or.inl ⟨by rfl, ?_⟩) (by assumption) ?_
  rotate_left
  focus ((intro w hSw; (try dsimp only at hSw); go_simp); try (with_reducible rfl))
  try simp only [Act.put, List.setIfInBounds_toArray, List.set_cons_zero, List.set_cons_succ]
  refine wpAnyH_take (i := 57) (oi := ⟨some 99, _, _, _, _, _⟩) (v := ?_) rfl (by kernel_rfl) (by kernel_rfl) (by kernel_rfl) (fun _ _ _ h => h) (Or.inl ⟨by rfl, ?_⟩) (by assumption) ?_
  rotate_left
  focus ((intro w hSw; (try dsimp only at hSw); go_simp); try (with_reducible rfl))
  try simp only [Act.put, List.setIfInBounds_toArray, List.set_cons_zero, List.set_cons_succ]
  refine wpAnyH_take (i := 58) (oi := ⟨some 100, _, _, _, _, _⟩) (v := ?_) rfl (by kernel_rfl) (by kernel_rfl) (by kernel_rfl) (fun _ _ _ h => h) (Or.inl ⟨by rfl, ?_⟩) (by assumption) ?_
  rotate_left
  focus ((intro w hSw; (try dsimp only at hSw); go_simp); try (with_reducible rfl))
  try simp only [Act.put, List.setIfInBounds_toArray, List.set_cons_zero, List.set_cons_succ]
  refine wpAnyH_ready (rs := [59]) (by kernel_rfl) (by simp) ?_
  refine AllReadyH.cons (o := ⟨some 101, _, _, _, _, _⟩) rfl (fun K hK => ?_) AllReadyH.nil
  go_simp
  go_at_call 14; refine (aw_b _).mono ?_; rintro e w11 ⟨rfl, hS10⟩; have q0 := Only.then (by first | exact q0 | exact q0.drew) hS10; clear hS10
  refine hK.out _ _ ?_ (fun hHeld => ?_)
  focus ((try dsimp only); first | exact HK.out _ q0 | exact HK.out _ q0.drew)
  clear hK K
  try simp only [Act.put, List.setIfInBounds_toArray, List.set_cons_zero, List.set_cons_succ]
  refine wpAnyH_take (i := 60) (oi := ⟨some 102, _, _, _, _, _⟩) (v := ?_) rfl (by kernel_rfl) (by kernel_rfl) (by kernel_rfl) (fun _ _ _ h => h) (Or.inl ⟨by rfl, ?_⟩) (by assumption) ?_
  rotate_left
  focus ((intro w hSw; (try dsimp only at hSw); go_simp); try (with_reducible rfl))
  try simp only [Act.put, List.setIfInBounds_toArray, List.set_cons_zero, List.set_cons_succ]
  refine wpAnyH_take (i := 61) (oi := ⟨some 0, _, _, _, _, _⟩) (v := ?_) rfl (by kernel_rfl) (by kernel_rfl) (by kernel_rfl) (fun _ _ _ h => h) (Or.inl ⟨by rfl, ?_⟩) (by assumption) ?_
  rotate_left
  focus ((intro w hSw; (try dsimp only at hSw); go_simp); try (with_reducible rfl))
  try simp only [Act.put, List.setIfInBounds_toArray, List.set_cons_zero, List.set_cons_succ]
  refine wpAnyH_done (by kernel_rfl) ?_ _
  all_goals
    have HF : Hid (Same w6 _) := Lib.hid (by first | exact q0 | exact q0.drew)
    clear q0 HK CR
    go_wp2_with fail
    go_ret
    exact ⟨rfl, (HS1.out.then HS6.out).then HF.out⟩
end Go.Proofs.Ytpgbnjneoejebaa
