import Derived.Test.YtjegohibpojneaaTopUp
import Derived.Test.YtjegohibpojneaaTopHeap
import Derived.Test.YtjegohibpojneaaFacts
import Derived.Deep.RegionLaw
set_option linter.unusedVariables false
set_option linter.unusedSimpArgs false
namespace Go.Proofs.Ytjegohibpojneaa
open Go.RowKit
attribute [local go_sem ↓] Go.wp_at_zero Go.wp_at_succ

/-- append of whatever slice onto a row of the call's own, at a step of a region that draws. -/
theorem step_anyT {P : Program} (w : World) {ops : Array Oper} {o : Oper} {a : Act} {K : Act → World → Prop} {Q : Exit → Act → World → Prop} {E : Prop} (hgd : o.guard = none) (s x : Operand) (t : TypeId)
    (ho : o.op = .call { callee := .builtin .append, args := #[s, x], argTypes := #[t, t] })
    (base : Nat) (e : TypeId) (z : Value) (size bytes : Nat) (ht : P.underlying t = some (.slice e)) (hinfo : (P.info? e).map (fun i => (i.zero, i.size, i.bytes)) = some (some z, size, bytes)) (hzs : z.cells.size = size) (hsz : 0 < size)
    (v : Value) (n : Nat) (xs : List Value) (hs : a.eval s = v) (hown : w.ownsRow base e size v n xs)
    (ad : Option Addr) (m c : Nat) (news : List Value) (hx : a.eval x = .slice ad m c) (hl : news.length = m * size) (hnone : ad = none → m = 0 ∧ c = 0)
    (hnews : ∀ b, ad = some b → ∀ j u, news[j]? = some u → w.cell? (b.add j) = some u) (h1 : ∀ u ∈ news, u.oneCell' = true)
    (h63 : n + m ≤ maxLen) (hbytes : (n + m) * bytes ≤ 140737488355328) (hbase : base ≤ w.heap.size)
    (h : ∀ v' w', w'.ownsRow base e size v' (n + m) (xs ++ news) → Only (fun k => v.ownBlock = some k) w w' → K (a.put o.dst v') w') :
    if Region.wanted o (yielded ops a.tmps) = true then Oper.wp P o a w K Q else E := by
  have hw : Region.wanted o (yielded ops a.tmps) = true := by simp [Region.wanted, hgd]
  rw [if_pos hw]
  obtain ⟨i, hi, hz0, hz1, hz2⟩ := info_parts hinfo
  cases ad with
  | some b =>
    exact wp_append_own w s x t ho base e i z size bytes ht hi hz0 hz1 hz2 hzs hsz v n xs hs hown b m c news hx hl (hnews b rfl) h1 h63 hbytes hbase fun v' w' h2 h3 _ => h v' w' h2 ((Only.refl _ w).grown h3 (fun k hk _ => hk))
  | none =>
    obtain ⟨rfl, rfl⟩ := hnone rfl
    obtain rfl : news = [] := List.eq_nil_of_length_eq_zero (by simpa using hl)
    have hrun := run_append_owned_none (P := P) w base t o.type e i size ht hi v n xs hown
    unfold Oper.wp
    simp [execOp, ho, resolve, invoke, builtin, hs, hx, hrun, Result.andThen]
    exact h v w (by simpa using hown) (Only.refl _ _)
theorem step_slT {P : Program} (w : World) {ops : Array Oper} {o : Oper} {a : Act} {K : Act → World → Prop} {Q : Exit → Act → World → Prop} {E : Prop} (hgd : o.guard = none) (s x : Operand) (t : TypeId)
    (ho : o.op = .call { callee := .builtin .append, args := #[s, x], argTypes := #[t, t] })
    (base : Nat) (e : TypeId) (z : Value) (bytes : Nat) (ht : P.underlying t = some (.slice e)) (hinfo : (P.info? e).map (fun i => (i.zero, i.size, i.bytes)) = some (some z, 2, bytes)) (hzs : z.cells.size = 2)
    (v : Value) (n : Nat) (xs : List Value) (hs : a.eval s = v) (hown : w.ownsRow base e 2 v n xs)
    (vx : Value) (lx : List (Int × Int)) (hx : a.eval x = vx) (hsl : SlP w vx lx)
    (h63 : n + lx.length ≤ maxLen) (hbytes : (n + lx.length) * bytes ≤ 140737488355328) (hbase : base ≤ w.heap.size)
    (h : ∀ v' w', w'.ownsRow base e 2 v' (n + lx.length) (xs ++ cells2 lx) → Only (fun k => v.ownBlock = some k) w w' → K (a.put o.dst v') w') :
    if Region.wanted o (yielded ops a.tmps) = true then Oper.wp P o a w K Q else E := by
  obtain ⟨ad, c, rfl, _, _⟩ := hsl.lit
  obtain ⟨-, hnil, hnews⟩ := hsl.news
  exact step_anyT w hgd s x t ho base e z 2 bytes ht hinfo hzs (by omega) v n xs hs hown ad lx.length c (cells2 lx) hx (cells2_len lx) hnil hnews (cells2_one lx) h63 hbytes hbase h
theorem blk_drewT {w : World} {b : Nat} {o : Obj} (h : w.heap[b]? = some o) : w.drew.heap[b]? = some o := h
theorem blk_new1D (w : World) (o1 o2 : Obj) : ((w.alloc o1).drew.alloc o2).heap[w.heap.size + 1]? = some o2 := blk_new1 w o1 o2
theorem own0T {w : World} {base B : Nat} {e : TypeId} (h : w.heap[B]? = some (.cells #[] e (0, 0))) (hb : base ≤ B) : w.ownsRow base e 2 (.slice (some ⟨B, 0, none⟩) 0 0) 0 [] := own_lo (own_blk0 h) hb
theorem slp_oneT {w : World} {B : Nat} {e : TypeId} {x : Int × Int} (h : w.heap[B]? = some (.cells #[.int .i64 x.1, .int .i64 x.2] e (0, 0))) : SlP w (.slice (some ⟨B, 0, none⟩) 1 1) [x] :=
  ⟨_, _, rfl, by simp, by decide, (fun h => by cases h), fun _ => ⟨B, 0, rfl, fun i hi => by
    have : i = 0 := by simpa using hi
    subst this
    exact ⟨blk_cells h 0, blk_cells h 1⟩⟩⟩
theorem slp_low {w : World} {a : Option Addr} {n c : Nat} {l : List (Int × Int)} (h : SlP w (.slice a n c) l) (j : Nat) (hj : j ≤ l.length) : SlP w (.slice a j c) (l.take j) := by
  obtain ⟨ad, c', e, h1, h2, h3, h4⟩ := h
  simp only [Value.slice.injEq] at e
  obtain ⟨rfl, rfl, rfl⟩ := e
  have hlen : (l.take j).length = j := by simp; omega
  refine ⟨a, c, by rw [hlen], by omega, h2, h3, fun h0 => ?_⟩
  obtain ⟨b, off, rfl, hc⟩ := h4 (by omega)
  refine ⟨b, off, rfl, fun i hi => ?_⟩
  rw [List.getElem_take]
  exact hc i (by omega)
theorem slp_high {w : World} {a : Option Addr} {n c : Nat} {l : List (Int × Int)} (h : SlP w (.slice a n c) l) (j : Nat) (hj : j ≤ l.length) : SlP w (.slice (if c = j then a else Option.map (fun x => x.add (j * 2)) a) (n - j) (c - j)) (l.drop j) := by
  obtain ⟨ad, c', e, h1, h2, h3, h4⟩ := h
  simp only [Value.slice.injEq] at e
  obtain ⟨rfl, rfl, rfl⟩ := e
  refine ⟨_, _, by rw [List.length_drop], by rw [List.length_drop]; omega, by omega, fun h0 => ?_, fun h0 => ?_⟩
  · split at h0
    · have := h3 h0; omega
    · have := h3 (by cases a with | none => rfl | some a => simp at h0)
      omega
  · rw [List.length_drop] at h0
    obtain ⟨b, off, rfl, hc⟩ := h4 (by omega)
    refine ⟨b, off + j * 2, by rw [if_neg (by omega)]; simp only [Option.map]; congr 1; unfold Addr.add; split <;> simp_all, fun i hi => ?_⟩
    rw [List.length_drop] at hi
    have := hc (j + i) (by omega)
    rw [List.getElem_drop]
    rw [show off + j * 2 + i * 2 = off + (j + i) * 2 by omega]
    exact this
theorem insP_keep (x : Int × Int) (s : List (Int × Int)) (hs : SortP s) (j : Nat) (hj : j ≤ s.length) (hge : ∀ i (h : i < s.length), j ≤ i → betP x s[i] = true) (hlt : ∀ h : 0 < j, betP x (hp s (j - 1)) = false) : insP x s = s.take j ++ x :: s.drop j := by
  refine insP_at x s j hj (fun i hi hij => ?_) (fun h => hge j h (Nat.le_refl _))
  have h1 := hlt (by omega)
  rw [hp_eq s _ (by omega)] at h1
  by_cases e : i = j - 1
  · subst e; exact h1
  · exact (show noP s[i] x from ((List.pairwise_iff_getElem.1 hs) i (j - 1) hi (by omega) (by omega)).trans h1)
set_option maxRecDepth 100000 in
set_option maxHeartbeats 8000000 in
/-- ref04.Best of any documents. -/
theorem rbest_any (K : Int) (v : Value) (l : List (Int × Int)) (w : World) (hv : SlP w v l) (hl : l.length ≤ 900000) (hK : -9223372036854775808 ≤ K ∧ K ≤ 9223372036854775807) :
    Calls Try.prog 52 #[.int .i64 K, v] w fun e w' => ∃ v', e = .returned v' ∧ Same w w' ∧ SlP w' v' (bestP K l) ∧ Fr w.heap.size v' := by
  have HV := Lib.hid hv
  obtain ⟨a1, c1, rfl, hc1, hm1⟩ := hv.lit
  have hmx : l.length ≤ 9223372036854775807 := by omega
  have HKK := Lib.hid hK
  clear hv hc1 hm1 hK
  go_enter Try.func52, Try.ntmps52
  go_wp2_with fail
  go_loopw [5, 6] (fun o i wr => ∃ k : Nat, k ≤ l.length ∧ i = .int .i64 k ∧ Same w wr ∧ wr.ownsRow w.heap.size 89 2 o k (cells2 (sortP (l.take k)))) (fun _ i _ => l.length - (intOf i).toNat)
  case atStart => exact ⟨0, by omega, rfl, Only.refl _ _, World.ownsRow_nil _ _ _ _⟩
  case round =>
    obtain ⟨k, hk, rfl, hS, hown⟩ := hrel
    have HS := Lib.hid hS; have HOW := Lib.hid hown
    have HSL := Lib.hid (own_slp hown)
    have hslen : (sortP (l.take k)).length = k := by rw [sortP_len]; simp; omega
    have HSO := Lib.hid (sortP_sort (l.take k))
    by_cases hlt : k < l.length
    · obtain ⟨b1, o1, rfl, hcell⟩ := HV.out.spot (by omega)
      have k1 := HS.out.cell_eq (hcell k hlt).1 (fun h => h)
      have k2 := HS.out.cell_eq (hcell k hlt).2 (fun h => h)
      obtain ⟨x, hx⟩ : ∃ x, x = l[k] := ⟨_, rfl⟩
      rw [← hx] at k1 k2
      have HX : Hid (sortP (l.take (k + 1)) = insP x (sortP (l.take k))) := Lib.hid (by rw [← List.take_append_getElem hlt, ← hx, sortP_snoc])
      clear hcell hx
      obtain ⟨a2, c2, rfl, hc2, hm2⟩ := HSL.out.lit
      rw [hslen] at hc2 HOW HSL ⊢
      generalize sortP (l.take k) = s at *
      have HSN := Lib.hid hslen
      clear hS hown hslen
      go_upto_region 6 with fail
      obtain ⟨wo, hwo⟩ : ∃ wo, wo = wr := ⟨_, rfl⟩
      subst hwo
      go_loopw [7] (fun a wr1 => ∃ j : Nat, j ≤ k ∧ a = .int .i64 j ∧ Same wo wr1 ∧ ∀ i (h : i < s.length), j ≤ i → betP x s[i] = true) (fun a _ => (intOf a).toNat)
      case atStart => exact ⟨k, by omega, rfl, Only.refl _ _, fun i h1 h2 => by have := HSN.out; omega⟩
      case round =>
        obtain ⟨j, hj, rfl, hS1, hge⟩ := hrel
        have HS1 := Lib.hid hS1; have HGE := Lib.hid hge
        have e1 := hS1.cell_eq k1 (fun h => h)
        have e2 := hS1.cell_eq k2 (fun h => h)
        clear hS1 hge
        have hcase : (0 < j ∧ betP x (hp s (j - 1)) = true) ∨ j = 0 ∨ (0 < j ∧ betP x (hp s (j - 1)) = false) := by
          rcases Nat.eq_zero_or_pos j with h | h
          · exact .inr (.inl h)
          · cases hb : betP x (hp s (j - 1))
            · exact .inr (.inr ⟨h, rfl⟩)
            · exact .inl ⟨h, rfl⟩
        rcases hcase with ⟨h0, hb⟩ | h0 | ⟨h0, hb⟩
        · -- one place on
          obtain ⟨p, rfl⟩ : ∃ p, j = p + 1 := ⟨j - 1, by omega⟩
          rw [Nat.add_sub_cancel] at hb
          have hps : p < s.length := by have := HSN.out; omega
          obtain ⟨b2, o2, rfl, hcell⟩ := HSL.out.spot (by have := HSN.out; omega)
          have k3 := HS1.out.cell_eq (hcell p hps).1 (fun h => h)
          have k4 := HS1.out.cell_eq (hcell p hps).2 (fun h => h)
          have hy : hp s p = s[p] := hp_eq s p hps
          rw [← hy] at k3 k4
          clear hy hcell
          have cb := fun w0 => rbetter_any x (hp s p) w0
          obtain ⟨y, hy⟩ : ∃ y, y = hp s p := ⟨_, rfl⟩
          rw [← hy] at k3 k4 cb hb
          have HY := Lib.hid hy
          clear hy
          have hd : decide ((0 : Int) < ((p : Int) + 1)) = true := decide_eq_true (by omega)
          have hw1 := wrap_id p (by omega)
          have hpl : p < k := by omega
          have q0 : Same wr wr := Only.refl _ _
          have hK : ∀ w', Same wr w' → (w'.cell? ⟨b1, o1 + k * 2, none⟩ = some (.int .i64 x.1) ∧ w'.cell? ⟨b1, o1 + k * 2 + 1, none⟩ = some (.int .i64 x.2) ∧ w'.cell? ⟨b2, o2 + p * 2, none⟩ = some (.int .i64 y.1) ∧ w'.cell? ⟨b2, o2 + p * 2 + 1, none⟩ = some (.int .i64 y.2)) :=
            fun w' hS => ⟨hS.cell_eq e1 (fun h => h), hS.cell_eq e2 (fun h => h), hS.cell_eq k3 (fun h => h), hS.cell_eq k4 (fun h => h)⟩
          have HK := Lib.hid hK
          clear hK
          unfold pairV at cb
          rw [hb] at cb
          have CB := Lib.hid cb; have HB := Lib.hid hb
          clear cb hb
          go_upto_region 6 with fail
          go_region_held3 (fun w' => w'.cell? ⟨b1, o1 + k * 2, none⟩ = some (.int .i64 x.1) ∧ w'.cell? ⟨b1, o1 + k * 2 + 1, none⟩ = some (.int .i64 x.2) ∧ w'.cell? ⟨b2, o2 + p * 2, none⟩ = some (.int .i64 y.1) ∧ w'.cell? ⟨b2, o2 + p * 2 + 1, none⟩ = some (.int .i64 y.2))
            (first | exact HK.out _ q0 | exact HK.out _ q0.drew | exact HK.out _ (q0.alloc _))
            (first | ((go_at_call 54; refine (CB.out _).mono ?_; rintro e w8 ⟨rfl, hS8'⟩; have q0 := Only.then (by first | exact q0 | exact q0.drew) hS8'; clear hS8')))
          all_goals
            go_wp2_with fail
            go_roundw
            case rel => exact ⟨p, by omega, rfl, by first | exact HS1.out.then q0 | exact HS1.out.then q0.drew, fun i h1 h2 => by
              rcases Nat.lt_or_ge p i with h3 | h3
              · exact HGE.out i h1 h3
              · obtain rfl : i = p := by omega
                rw [← hp_eq s i h1, ← HY.out]; exact HB.out⟩
            case measure => simp [intOf]
        focus
          have HI : Hid (insP x s = s.take j ++ x :: s.drop j) := Lib.hid (insP_keep x s HSO.out j (by have := HSN.out; omega) HGE.out (fun h => absurd h (by omega)))
          have hd : decide (0 < j) = false := decide_eq_false (by omega)
          clear h0
          go_upto_region 6 with fail
          go_quiet (fail)
          rename_i nq
          have f1 : (wr.drewN nq).cell? ⟨b1, o1 + k * 2, none⟩ = _ := e1
          have f2 : (wr.drewN nq).cell? ⟨b1, o1 + k * 2 + 1, none⟩ = _ := e2
          have HS8 := Lib.hid (HS1.out.drewN nq)
          clear hd e1 e2 HS1 HGE
          go_upto_region 8 with fail
          generalize wr.drewN nq = W8 at *
        rotate_left
        focus
          have HI : Hid (insP x s = s.take j ++ x :: s.drop j) := Lib.hid (insP_keep x s HSO.out j (by have := HSN.out; omega) HGE.out (fun _ => hb))
          obtain ⟨p, rfl⟩ : ∃ p, j = p + 1 := ⟨j - 1, by omega⟩
          rw [Nat.add_sub_cancel] at hb
          have hps : p < s.length := by have := HSN.out; omega
          obtain ⟨b2, o2, rfl, hcell⟩ := HSL.out.spot (by have := HSN.out; omega)
          have k3 := HS1.out.cell_eq (hcell p hps).1 (fun h => h)
          have k4 := HS1.out.cell_eq (hcell p hps).2 (fun h => h)
          have hy : hp s p = s[p] := hp_eq s p hps
          rw [← hy] at k3 k4
          clear hy hcell
          have cb := fun w0 => rbetter_any x (hp s p) w0
          obtain ⟨y, hy⟩ : ∃ y, y = hp s p := ⟨_, rfl⟩
          rw [← hy] at k3 k4 cb hb
          have HY := Lib.hid hy
          clear hy
          have hd : decide ((0 : Int) < ((p : Int) + 1)) = true := decide_eq_true (by omega)
          have hw1 := wrap_id p (by omega)
          have hpl : p < k := by omega
          have q0 : Same wr wr := Only.refl _ _
          have hK : ∀ w', Same wr w' → (w'.cell? ⟨b1, o1 + k * 2, none⟩ = some (.int .i64 x.1) ∧ w'.cell? ⟨b1, o1 + k * 2 + 1, none⟩ = some (.int .i64 x.2) ∧ w'.cell? ⟨b2, o2 + p * 2, none⟩ = some (.int .i64 y.1) ∧ w'.cell? ⟨b2, o2 + p * 2 + 1, none⟩ = some (.int .i64 y.2)) :=
            fun w' hS => ⟨hS.cell_eq e1 (fun h => h), hS.cell_eq e2 (fun h => h), hS.cell_eq k3 (fun h => h), hS.cell_eq k4 (fun h => h)⟩
          have HK := Lib.hid hK
          clear hK
          unfold pairV at cb
          rw [hb] at cb
          have CB := Lib.hid cb; have HB := Lib.hid hb
          clear cb hb
          go_upto_region 6 with fail
          go_region_held3 (fun w' => w'.cell? ⟨b1, o1 + k * 2, none⟩ = some (.int .i64 x.1) ∧ w'.cell? ⟨b1, o1 + k * 2 + 1, none⟩ = some (.int .i64 x.2) ∧ w'.cell? ⟨b2, o2 + p * 2, none⟩ = some (.int .i64 y.1) ∧ w'.cell? ⟨b2, o2 + p * 2 + 1, none⟩ = some (.int .i64 y.2))
            (first | exact HK.out _ q0 | exact HK.out _ q0.drew | exact HK.out _ (q0.alloc _))
            (first | ((go_at_call 54; refine (CB.out _).mono ?_; rintro e w8 ⟨rfl, hS8'⟩; have q0 := Only.then (by first | exact q0 | exact q0.drew) hS8'; clear hS8')))
          all_goals
            obtain ⟨f1, f2, _, _⟩ := HK.out _ q0
            have HS8 := Lib.hid (HS1.out.then q0)
            have hjc : p + 1 ≤ c2 := by omega
            clear hd e1 e2 HS1 HGE k3 k4 hw1 HK CB HB HY q0
            go_upto_region 8 with fail
            generalize w8 = W8 at *
            rw [show ((p : Int) + 1) = ((p + 1 : Nat) : Int) from rfl]
            generalize (some ⟨b2, o2, none⟩ : Option Addr) = a2 at *
            generalize p + 1 = j at *
        all_goals
          have hinf : (Try.prog.info? 89).map (fun i => (i.zero, i.size, i.bytes)) = some (some (.agg #[.int .i64 0, .int .i64 0]), 2, 16) := by kernel_rfl
          have HINF := Lib.hid hinf
          have hjc : j ≤ c2 := by omega
          have q0 : Same W8 W8 := Only.refl _ _
          clear hinf
          have HSW := Lib.hid (HSL.out.same HS8.out)
          have HLO : Hid (∀ w', Same W8 w' → SlP w' (.slice a2 j c2) (s.take j)) := Lib.hid (fun w' h => (slp_low HSW.out j (by have := HSN.out; omega)).same h)
          have HHI : Hid (∀ w', Same W8 w' → SlP w' (.slice (if c2 = j then a2 else Option.map (fun x => x.add (j * 2)) a2) (k - j) (c2 - j)) (s.drop j)) := Lib.hid (fun w' h => (slp_high HSW.out j (by have := HSN.out; omega)).same h)
          have HT1 : Hid ((s.take j).length = j) := Lib.hid (by have := HSN.out; simp; omega)
          have HT2 : Hid ((s.drop j).length = k - j) := Lib.hid (by have := HSN.out; simp; omega)
          have hK2 : ∀ w', Same W8 w' → (w'.cell? ⟨b1, o1 + k * 2, none⟩ = some (.int .i64 x.1) ∧ w'.cell? ⟨b1, o1 + k * 2 + 1, none⟩ = some (.int .i64 x.2)) := fun w' h => ⟨h.cell_eq f1 (fun h => h), h.cell_eq f2 (fun h => h)⟩
          have HK2 := Lib.hid hK2
          clear hK2
          -- ARMS
          go_region_held3 (fun w' => w'.cell? ⟨b1, o1 + k * 2, none⟩ = some (.int .i64 x.1) ∧ w'.cell? ⟨b1, o1 + k * 2 + 1, none⟩ = some (.int .i64 x.2))
            (first | exact HK2.out _ q0 | exact HK2.out _ q0.drew | exact HK2.out _ (q0.alloc _) | exact HK2.out _ (q0.alloc _).drew | exact HK2.out _ (q0.drew.alloc _) | exact HK2.out _ (q0.drew.alloc _).drew | exact HK2.out _ ((q0.alloc _).alloc _) | exact HK2.out _ ((q0.alloc _).alloc _).drew | exact HK2.out _ ((q0.alloc _).drew.alloc _) | exact HK2.out _ ((q0.alloc _).drew.alloc _).drew | exact HK2.out _ ((q0.drew.alloc _).drew.alloc _))
            (first
              | ((with_reducible show (if Region.wanted (⟨some 36, _, _, _, _, _⟩ : Oper) _ = true then Oper.wp _ _ _ ((W8.alloc (.cells #[] 89))) _ _ else _)); refine step_slT (o := ⟨some 36, _, _, _, _, _⟩) ((W8.alloc (.cells #[] 89))) (by rfl) (.tmp 32) (.tmp 35) 85 (by rfl) W8.heap.size 89 (.agg #[.int .i64 0, .int .i64 0]) 16 Try.underlying85 HINF.out rfl (.slice (some ⟨W8.heap.size, 0, none⟩) 0 0) 0 [] (by rfl) (own0T (blk_new W8 (.cells #[] 89)) (by omega)) _ (s.take j) (by rfl) (HLO.out _ ((q0.alloc (.cells #[] 89)))) (by have := HT1.out; have := HT2.out; unfold maxLen; (try simp only [List.length_cons, List.length_nil]); omega) (by have := HT1.out; have := HT2.out; (try simp only [List.length_cons, List.length_nil]); omega) (Only.size ((q0.alloc (.cells #[] 89)))) ?_; intro v1 w1 hN1 hq1; have q0 : Same W8 w1 := Only.trans (S := fun _ => False) ((q0.alloc (.cells #[] 89))) hq1 (fun k hk h => by simp [Value.ownBlock] at h; omega); clear hq1)
              | ((with_reducible show (if Region.wanted (⟨some 36, _, _, _, _, _⟩ : Oper) _ = true then Oper.wp _ _ _ (((W8.alloc (.cells #[] 89))).alloc (.cells #[.int .i64 x.1, .int .i64 x.2] 89)) _ _ else _)); refine step_slT (o := ⟨some 36, _, _, _, _, _⟩) (((W8.alloc (.cells #[] 89))).alloc (.cells #[.int .i64 x.1, .int .i64 x.2] 89)) (by rfl) (.tmp 32) (.tmp 35) 85 (by rfl) W8.heap.size 89 (.agg #[.int .i64 0, .int .i64 0]) 16 Try.underlying85 HINF.out rfl (.slice (some ⟨W8.heap.size, 0, none⟩) 0 0) 0 [] (by rfl) (own0T (blk_old (.cells #[.int .i64 x.1, .int .i64 x.2] 89) (blk_new W8 (.cells #[] 89))) (by omega)) _ (s.take j) (by rfl) (HLO.out _ (((q0.alloc (.cells #[] 89))).alloc (.cells #[.int .i64 x.1, .int .i64 x.2] 89))) (by have := HT1.out; have := HT2.out; unfold maxLen; (try simp only [List.length_cons, List.length_nil]); omega) (by have := HT1.out; have := HT2.out; (try simp only [List.length_cons, List.length_nil]); omega) (Only.size (((q0.alloc (.cells #[] 89))).alloc (.cells #[.int .i64 x.1, .int .i64 x.2] 89))) ?_; intro v1 w1 hN1 hq1; have hX := hq1.heap (blk_new1 W8 (.cells #[] 89) (.cells #[.int .i64 x.1, .int .i64 x.2] 89)) (by simp [Value.ownBlock]); have q0 : Same W8 w1 := Only.trans (S := fun _ => False) (((q0.alloc (.cells #[] 89))).alloc (.cells #[.int .i64 x.1, .int .i64 x.2] 89)) hq1 (fun k hk h => by simp [Value.ownBlock] at h; omega); clear hq1)
              | ((with_reducible show (if Region.wanted (⟨some 36, _, _, _, _, _⟩ : Oper) _ = true then Oper.wp _ _ _ ((((W8.alloc (.cells #[] 89))).alloc (.cells #[.int .i64 x.1, .int .i64 x.2] 89)).drew) _ _ else _)); refine step_slT (o := ⟨some 36, _, _, _, _, _⟩) ((((W8.alloc (.cells #[] 89))).alloc (.cells #[.int .i64 x.1, .int .i64 x.2] 89)).drew) (by rfl) (.tmp 32) (.tmp 35) 85 (by rfl) W8.heap.size 89 (.agg #[.int .i64 0, .int .i64 0]) 16 Try.underlying85 HINF.out rfl (.slice (some ⟨W8.heap.size, 0, none⟩) 0 0) 0 [] (by rfl) (own0T (blk_old (.cells #[.int .i64 x.1, .int .i64 x.2] 89) (blk_new W8 (.cells #[] 89))) (by omega)) _ (s.take j) (by rfl) (HLO.out _ ((((q0.alloc (.cells #[] 89))).alloc (.cells #[.int .i64 x.1, .int .i64 x.2] 89)).drew)) (by have := HT1.out; have := HT2.out; unfold maxLen; (try simp only [List.length_cons, List.length_nil]); omega) (by have := HT1.out; have := HT2.out; (try simp only [List.length_cons, List.length_nil]); omega) (Only.size ((((q0.alloc (.cells #[] 89))).alloc (.cells #[.int .i64 x.1, .int .i64 x.2] 89)).drew)) ?_; intro v1 w1 hN1 hq1; have hX := hq1.heap (blk_new1 W8 (.cells #[] 89) (.cells #[.int .i64 x.1, .int .i64 x.2] 89)) (by simp [Value.ownBlock]); have q0 : Same W8 w1 := Only.trans (S := fun _ => False) ((((q0.alloc (.cells #[] 89))).alloc (.cells #[.int .i64 x.1, .int .i64 x.2] 89)).drew) hq1 (fun k hk h => by simp [Value.ownBlock] at h; omega); clear hq1)
              | ((with_reducible show (if Region.wanted (⟨some 36, _, _, _, _, _⟩ : Oper) _ = true then Oper.wp _ _ _ (((W8.alloc (.cells #[] 89))).drew) _ _ else _)); refine step_slT (o := ⟨some 36, _, _, _, _, _⟩) (((W8.alloc (.cells #[] 89))).drew) (by rfl) (.tmp 32) (.tmp 35) 85 (by rfl) W8.heap.size 89 (.agg #[.int .i64 0, .int .i64 0]) 16 Try.underlying85 HINF.out rfl (.slice (some ⟨W8.heap.size, 0, none⟩) 0 0) 0 [] (by rfl) (own0T (blk_new W8 (.cells #[] 89)) (by omega)) _ (s.take j) (by rfl) (HLO.out _ (((q0.alloc (.cells #[] 89))).drew)) (by have := HT1.out; have := HT2.out; unfold maxLen; (try simp only [List.length_cons, List.length_nil]); omega) (by have := HT1.out; have := HT2.out; (try simp only [List.length_cons, List.length_nil]); omega) (Only.size (((q0.alloc (.cells #[] 89))).drew)) ?_; intro v1 w1 hN1 hq1; have q0 : Same W8 w1 := Only.trans (S := fun _ => False) (((q0.alloc (.cells #[] 89))).drew) hq1 (fun k hk h => by simp [Value.ownBlock] at h; omega); clear hq1)
              | ((with_reducible show (if Region.wanted (⟨some 36, _, _, _, _, _⟩ : Oper) _ = true then Oper.wp _ _ _ ((((W8.alloc (.cells #[] 89))).drew).alloc (.cells #[.int .i64 x.1, .int .i64 x.2] 89)) _ _ else _)); refine step_slT (o := ⟨some 36, _, _, _, _, _⟩) ((((W8.alloc (.cells #[] 89))).drew).alloc (.cells #[.int .i64 x.1, .int .i64 x.2] 89)) (by rfl) (.tmp 32) (.tmp 35) 85 (by rfl) W8.heap.size 89 (.agg #[.int .i64 0, .int .i64 0]) 16 Try.underlying85 HINF.out rfl (.slice (some ⟨W8.heap.size, 0, none⟩) 0 0) 0 [] (by rfl) (own0T (blk_old (.cells #[.int .i64 x.1, .int .i64 x.2] 89) (blk_new W8 (.cells #[] 89))) (by omega)) _ (s.take j) (by rfl) (HLO.out _ ((((q0.alloc (.cells #[] 89))).drew).alloc (.cells #[.int .i64 x.1, .int .i64 x.2] 89))) (by have := HT1.out; have := HT2.out; unfold maxLen; (try simp only [List.length_cons, List.length_nil]); omega) (by have := HT1.out; have := HT2.out; (try simp only [List.length_cons, List.length_nil]); omega) (Only.size ((((q0.alloc (.cells #[] 89))).drew).alloc (.cells #[.int .i64 x.1, .int .i64 x.2] 89))) ?_; intro v1 w1 hN1 hq1; have hX := hq1.heap (blk_new1D W8 (.cells #[] 89) (.cells #[.int .i64 x.1, .int .i64 x.2] 89)) (by simp [Value.ownBlock]); have q0 : Same W8 w1 := Only.trans (S := fun _ => False) ((((q0.alloc (.cells #[] 89))).drew).alloc (.cells #[.int .i64 x.1, .int .i64 x.2] 89)) hq1 (fun k hk h => by simp [Value.ownBlock] at h; omega); clear hq1)
              | ((with_reducible show (if Region.wanted (⟨some 36, _, _, _, _, _⟩ : Oper) _ = true then Oper.wp _ _ _ (((((W8.alloc (.cells #[] 89))).drew).alloc (.cells #[.int .i64 x.1, .int .i64 x.2] 89)).drew) _ _ else _)); refine step_slT (o := ⟨some 36, _, _, _, _, _⟩) (((((W8.alloc (.cells #[] 89))).drew).alloc (.cells #[.int .i64 x.1, .int .i64 x.2] 89)).drew) (by rfl) (.tmp 32) (.tmp 35) 85 (by rfl) W8.heap.size 89 (.agg #[.int .i64 0, .int .i64 0]) 16 Try.underlying85 HINF.out rfl (.slice (some ⟨W8.heap.size, 0, none⟩) 0 0) 0 [] (by rfl) (own0T (blk_old (.cells #[.int .i64 x.1, .int .i64 x.2] 89) (blk_new W8 (.cells #[] 89))) (by omega)) _ (s.take j) (by rfl) (HLO.out _ (((((q0.alloc (.cells #[] 89))).drew).alloc (.cells #[.int .i64 x.1, .int .i64 x.2] 89)).drew)) (by have := HT1.out; have := HT2.out; unfold maxLen; (try simp only [List.length_cons, List.length_nil]); omega) (by have := HT1.out; have := HT2.out; (try simp only [List.length_cons, List.length_nil]); omega) (Only.size (((((q0.alloc (.cells #[] 89))).drew).alloc (.cells #[.int .i64 x.1, .int .i64 x.2] 89)).drew)) ?_; intro v1 w1 hN1 hq1; have hX := hq1.heap (blk_new1D W8 (.cells #[] 89) (.cells #[.int .i64 x.1, .int .i64 x.2] 89)) (by simp [Value.ownBlock]); have q0 : Same W8 w1 := Only.trans (S := fun _ => False) (((((q0.alloc (.cells #[] 89))).drew).alloc (.cells #[.int .i64 x.1, .int .i64 x.2] 89)).drew) hq1 (fun k hk h => by simp [Value.ownBlock] at h; omega); clear hq1)
              | ((with_reducible show (if Region.wanted (⟨some 36, _, _, _, _, _⟩ : Oper) _ = true then Oper.wp _ _ _ (((W8.alloc (.cells #[.int .i64 x.1, .int .i64 x.2] 89))).alloc (.cells #[] 89)) _ _ else _)); refine step_slT (o := ⟨some 36, _, _, _, _, _⟩) (((W8.alloc (.cells #[.int .i64 x.1, .int .i64 x.2] 89))).alloc (.cells #[] 89)) (by rfl) (.tmp 32) (.tmp 35) 85 (by rfl) W8.heap.size 89 (.agg #[.int .i64 0, .int .i64 0]) 16 Try.underlying85 HINF.out rfl (.slice (some ⟨(W8.heap.size + 1), 0, none⟩) 0 0) 0 [] (by rfl) (own0T (blk_new1 W8 (.cells #[.int .i64 x.1, .int .i64 x.2] 89) (.cells #[] 89)) (by omega)) _ (s.take j) (by rfl) (HLO.out _ (((q0.alloc (.cells #[.int .i64 x.1, .int .i64 x.2] 89))).alloc (.cells #[] 89))) (by have := HT1.out; have := HT2.out; unfold maxLen; (try simp only [List.length_cons, List.length_nil]); omega) (by have := HT1.out; have := HT2.out; (try simp only [List.length_cons, List.length_nil]); omega) (Only.size (((q0.alloc (.cells #[.int .i64 x.1, .int .i64 x.2] 89))).alloc (.cells #[] 89))) ?_; intro v1 w1 hN1 hq1; have hX := hq1.heap (blk_old (.cells #[] 89) (blk_new W8 (.cells #[.int .i64 x.1, .int .i64 x.2] 89))) (by simp [Value.ownBlock]); have q0 : Same W8 w1 := Only.trans (S := fun _ => False) (((q0.alloc (.cells #[.int .i64 x.1, .int .i64 x.2] 89))).alloc (.cells #[] 89)) hq1 (fun k hk h => by simp [Value.ownBlock] at h; omega); clear hq1)
              | ((with_reducible show (if Region.wanted (⟨some 36, _, _, _, _, _⟩ : Oper) _ = true then Oper.wp _ _ _ ((((W8.alloc (.cells #[.int .i64 x.1, .int .i64 x.2] 89))).alloc (.cells #[] 89)).drew) _ _ else _)); refine step_slT (o := ⟨some 36, _, _, _, _, _⟩) ((((W8.alloc (.cells #[.int .i64 x.1, .int .i64 x.2] 89))).alloc (.cells #[] 89)).drew) (by rfl) (.tmp 32) (.tmp 35) 85 (by rfl) W8.heap.size 89 (.agg #[.int .i64 0, .int .i64 0]) 16 Try.underlying85 HINF.out rfl (.slice (some ⟨(W8.heap.size + 1), 0, none⟩) 0 0) 0 [] (by rfl) (own0T (blk_new1 W8 (.cells #[.int .i64 x.1, .int .i64 x.2] 89) (.cells #[] 89)) (by omega)) _ (s.take j) (by rfl) (HLO.out _ ((((q0.alloc (.cells #[.int .i64 x.1, .int .i64 x.2] 89))).alloc (.cells #[] 89)).drew)) (by have := HT1.out; have := HT2.out; unfold maxLen; (try simp only [List.length_cons, List.length_nil]); omega) (by have := HT1.out; have := HT2.out; (try simp only [List.length_cons, List.length_nil]); omega) (Only.size ((((q0.alloc (.cells #[.int .i64 x.1, .int .i64 x.2] 89))).alloc (.cells #[] 89)).drew)) ?_; intro v1 w1 hN1 hq1; have hX := hq1.heap (blk_old (.cells #[] 89) (blk_new W8 (.cells #[.int .i64 x.1, .int .i64 x.2] 89))) (by simp [Value.ownBlock]); have q0 : Same W8 w1 := Only.trans (S := fun _ => False) ((((q0.alloc (.cells #[.int .i64 x.1, .int .i64 x.2] 89))).alloc (.cells #[] 89)).drew) hq1 (fun k hk h => by simp [Value.ownBlock] at h; omega); clear hq1)
              | ((with_reducible show (if Region.wanted (⟨some 36, _, _, _, _, _⟩ : Oper) _ = true then Oper.wp _ _ _ ((((W8.alloc (.cells #[.int .i64 x.1, .int .i64 x.2] 89))).drew).alloc (.cells #[] 89)) _ _ else _)); refine step_slT (o := ⟨some 36, _, _, _, _, _⟩) ((((W8.alloc (.cells #[.int .i64 x.1, .int .i64 x.2] 89))).drew).alloc (.cells #[] 89)) (by rfl) (.tmp 32) (.tmp 35) 85 (by rfl) W8.heap.size 89 (.agg #[.int .i64 0, .int .i64 0]) 16 Try.underlying85 HINF.out rfl (.slice (some ⟨(W8.heap.size + 1), 0, none⟩) 0 0) 0 [] (by rfl) (own0T (blk_new1D W8 (.cells #[.int .i64 x.1, .int .i64 x.2] 89) (.cells #[] 89)) (by omega)) _ (s.take j) (by rfl) (HLO.out _ ((((q0.alloc (.cells #[.int .i64 x.1, .int .i64 x.2] 89))).drew).alloc (.cells #[] 89))) (by have := HT1.out; have := HT2.out; unfold maxLen; (try simp only [List.length_cons, List.length_nil]); omega) (by have := HT1.out; have := HT2.out; (try simp only [List.length_cons, List.length_nil]); omega) (Only.size ((((q0.alloc (.cells #[.int .i64 x.1, .int .i64 x.2] 89))).drew).alloc (.cells #[] 89))) ?_; intro v1 w1 hN1 hq1; have hX := hq1.heap (blk_old (.cells #[] 89) (blk_new W8 (.cells #[.int .i64 x.1, .int .i64 x.2] 89))) (by simp [Value.ownBlock]); have q0 : Same W8 w1 := Only.trans (S := fun _ => False) ((((q0.alloc (.cells #[.int .i64 x.1, .int .i64 x.2] 89))).drew).alloc (.cells #[] 89)) hq1 (fun k hk h => by simp [Value.ownBlock] at h; omega); clear hq1)
              | ((with_reducible show (if Region.wanted (⟨some 36, _, _, _, _, _⟩ : Oper) _ = true then Oper.wp _ _ _ (((((W8.alloc (.cells #[.int .i64 x.1, .int .i64 x.2] 89))).drew).alloc (.cells #[] 89)).drew) _ _ else _)); refine step_slT (o := ⟨some 36, _, _, _, _, _⟩) (((((W8.alloc (.cells #[.int .i64 x.1, .int .i64 x.2] 89))).drew).alloc (.cells #[] 89)).drew) (by rfl) (.tmp 32) (.tmp 35) 85 (by rfl) W8.heap.size 89 (.agg #[.int .i64 0, .int .i64 0]) 16 Try.underlying85 HINF.out rfl (.slice (some ⟨(W8.heap.size + 1), 0, none⟩) 0 0) 0 [] (by rfl) (own0T (blk_new1D W8 (.cells #[.int .i64 x.1, .int .i64 x.2] 89) (.cells #[] 89)) (by omega)) _ (s.take j) (by rfl) (HLO.out _ (((((q0.alloc (.cells #[.int .i64 x.1, .int .i64 x.2] 89))).drew).alloc (.cells #[] 89)).drew)) (by have := HT1.out; have := HT2.out; unfold maxLen; (try simp only [List.length_cons, List.length_nil]); omega) (by have := HT1.out; have := HT2.out; (try simp only [List.length_cons, List.length_nil]); omega) (Only.size (((((q0.alloc (.cells #[.int .i64 x.1, .int .i64 x.2] 89))).drew).alloc (.cells #[] 89)).drew)) ?_; intro v1 w1 hN1 hq1; have hX := hq1.heap (blk_old (.cells #[] 89) (blk_new W8 (.cells #[.int .i64 x.1, .int .i64 x.2] 89))) (by simp [Value.ownBlock]); have q0 : Same W8 w1 := Only.trans (S := fun _ => False) (((((q0.alloc (.cells #[.int .i64 x.1, .int .i64 x.2] 89))).drew).alloc (.cells #[] 89)).drew) hq1 (fun k hk h => by simp [Value.ownBlock] at h; omega); clear hq1)
              | ((with_reducible show (if Region.wanted (⟨some 42, _, _, _, _, _⟩ : Oper) _ = true then Oper.wp _ _ _ (w1) _ _ else _)); refine step_slT (o := ⟨some 42, _, _, _, _, _⟩) (w1) (by rfl) (.tmp 36) (.tmp 41) 85 (by rfl) W8.heap.size 89 (.agg #[.int .i64 0, .int .i64 0]) 16 Try.underlying85 HINF.out rfl v1 _ _ (by rfl) (own_same hN1 ((Only.refl (fun _ => False) w1))) _ [x] (by rfl) (slp_oneT hX) (by have := HT1.out; have := HT2.out; unfold maxLen; (try simp only [List.length_cons, List.length_nil]); omega) (by have := HT1.out; have := HT2.out; (try simp only [List.length_cons, List.length_nil]); omega) (Only.size (q0)) ?_; intro v2 w2 hN2 hq2; have q0 : Same W8 w2 := Only.trans (S := fun _ => False) (q0) hq2 (fun k hk h => by have := (hN1.lt k h).1; omega); clear hq2)
              | ((with_reducible show (if Region.wanted (⟨some 42, _, _, _, _, _⟩ : Oper) _ = true then Oper.wp _ _ _ ((w1).alloc (.cells #[.int .i64 x.1, .int .i64 x.2] 89)) _ _ else _)); refine step_slT (o := ⟨some 42, _, _, _, _, _⟩) ((w1).alloc (.cells #[.int .i64 x.1, .int .i64 x.2] 89)) (by rfl) (.tmp 36) (.tmp 41) 85 (by rfl) W8.heap.size 89 (.agg #[.int .i64 0, .int .i64 0]) 16 Try.underlying85 HINF.out rfl v1 _ _ (by rfl) (own_same hN1 (((Only.refl (fun _ => False) w1)).alloc (.cells #[.int .i64 x.1, .int .i64 x.2] 89))) _ [x] (by rfl) (slp_oneT (blk_new (w1) (.cells #[.int .i64 x.1, .int .i64 x.2] 89))) (by have := HT1.out; have := HT2.out; unfold maxLen; (try simp only [List.length_cons, List.length_nil]); omega) (by have := HT1.out; have := HT2.out; (try simp only [List.length_cons, List.length_nil]); omega) (Only.size ((q0).alloc (.cells #[.int .i64 x.1, .int .i64 x.2] 89))) ?_; intro v2 w2 hN2 hq2; have q0 : Same W8 w2 := Only.trans (S := fun _ => False) ((q0).alloc (.cells #[.int .i64 x.1, .int .i64 x.2] 89)) hq2 (fun k hk h => by have := (hN1.lt k h).1; omega); clear hq2)
              | ((with_reducible show (if Region.wanted (⟨some 42, _, _, _, _, _⟩ : Oper) _ = true then Oper.wp _ _ _ (((w1).alloc (.cells #[.int .i64 x.1, .int .i64 x.2] 89)).drew) _ _ else _)); refine step_slT (o := ⟨some 42, _, _, _, _, _⟩) (((w1).alloc (.cells #[.int .i64 x.1, .int .i64 x.2] 89)).drew) (by rfl) (.tmp 36) (.tmp 41) 85 (by rfl) W8.heap.size 89 (.agg #[.int .i64 0, .int .i64 0]) 16 Try.underlying85 HINF.out rfl v1 _ _ (by rfl) (own_same hN1 ((((Only.refl (fun _ => False) w1)).alloc (.cells #[.int .i64 x.1, .int .i64 x.2] 89)).drew)) _ [x] (by rfl) (slp_oneT (blk_new (w1) (.cells #[.int .i64 x.1, .int .i64 x.2] 89))) (by have := HT1.out; have := HT2.out; unfold maxLen; (try simp only [List.length_cons, List.length_nil]); omega) (by have := HT1.out; have := HT2.out; (try simp only [List.length_cons, List.length_nil]); omega) (Only.size (((q0).alloc (.cells #[.int .i64 x.1, .int .i64 x.2] 89)).drew)) ?_; intro v2 w2 hN2 hq2; have q0 : Same W8 w2 := Only.trans (S := fun _ => False) (((q0).alloc (.cells #[.int .i64 x.1, .int .i64 x.2] 89)).drew) hq2 (fun k hk h => by have := (hN1.lt k h).1; omega); clear hq2)
              | ((with_reducible show (if Region.wanted (⟨some 42, _, _, _, _, _⟩ : Oper) _ = true then Oper.wp _ _ _ ((w1).drew) _ _ else _)); refine step_slT (o := ⟨some 42, _, _, _, _, _⟩) ((w1).drew) (by rfl) (.tmp 36) (.tmp 41) 85 (by rfl) W8.heap.size 89 (.agg #[.int .i64 0, .int .i64 0]) 16 Try.underlying85 HINF.out rfl v1 _ _ (by rfl) (own_same hN1 (((Only.refl (fun _ => False) w1)).drew)) _ [x] (by rfl) (slp_oneT hX) (by have := HT1.out; have := HT2.out; unfold maxLen; (try simp only [List.length_cons, List.length_nil]); omega) (by have := HT1.out; have := HT2.out; (try simp only [List.length_cons, List.length_nil]); omega) (Only.size ((q0).drew)) ?_; intro v2 w2 hN2 hq2; have q0 : Same W8 w2 := Only.trans (S := fun _ => False) ((q0).drew) hq2 (fun k hk h => by have := (hN1.lt k h).1; omega); clear hq2)
              | ((with_reducible show (if Region.wanted (⟨some 42, _, _, _, _, _⟩ : Oper) _ = true then Oper.wp _ _ _ (((w1).drew).alloc (.cells #[.int .i64 x.1, .int .i64 x.2] 89)) _ _ else _)); refine step_slT (o := ⟨some 42, _, _, _, _, _⟩) (((w1).drew).alloc (.cells #[.int .i64 x.1, .int .i64 x.2] 89)) (by rfl) (.tmp 36) (.tmp 41) 85 (by rfl) W8.heap.size 89 (.agg #[.int .i64 0, .int .i64 0]) 16 Try.underlying85 HINF.out rfl v1 _ _ (by rfl) (own_same hN1 ((((Only.refl (fun _ => False) w1)).drew).alloc (.cells #[.int .i64 x.1, .int .i64 x.2] 89))) _ [x] (by rfl) (slp_oneT (blk_new ((w1).drew) (.cells #[.int .i64 x.1, .int .i64 x.2] 89))) (by have := HT1.out; have := HT2.out; unfold maxLen; (try simp only [List.length_cons, List.length_nil]); omega) (by have := HT1.out; have := HT2.out; (try simp only [List.length_cons, List.length_nil]); omega) (Only.size (((q0).drew).alloc (.cells #[.int .i64 x.1, .int .i64 x.2] 89))) ?_; intro v2 w2 hN2 hq2; have q0 : Same W8 w2 := Only.trans (S := fun _ => False) (((q0).drew).alloc (.cells #[.int .i64 x.1, .int .i64 x.2] 89)) hq2 (fun k hk h => by have := (hN1.lt k h).1; omega); clear hq2)
              | ((with_reducible show (if Region.wanted (⟨some 42, _, _, _, _, _⟩ : Oper) _ = true then Oper.wp _ _ _ ((((w1).drew).alloc (.cells #[.int .i64 x.1, .int .i64 x.2] 89)).drew) _ _ else _)); refine step_slT (o := ⟨some 42, _, _, _, _, _⟩) ((((w1).drew).alloc (.cells #[.int .i64 x.1, .int .i64 x.2] 89)).drew) (by rfl) (.tmp 36) (.tmp 41) 85 (by rfl) W8.heap.size 89 (.agg #[.int .i64 0, .int .i64 0]) 16 Try.underlying85 HINF.out rfl v1 _ _ (by rfl) (own_same hN1 (((((Only.refl (fun _ => False) w1)).drew).alloc (.cells #[.int .i64 x.1, .int .i64 x.2] 89)).drew)) _ [x] (by rfl) (slp_oneT (blk_new ((w1).drew) (.cells #[.int .i64 x.1, .int .i64 x.2] 89))) (by have := HT1.out; have := HT2.out; unfold maxLen; (try simp only [List.length_cons, List.length_nil]); omega) (by have := HT1.out; have := HT2.out; (try simp only [List.length_cons, List.length_nil]); omega) (Only.size ((((q0).drew).alloc (.cells #[.int .i64 x.1, .int .i64 x.2] 89)).drew)) ?_; intro v2 w2 hN2 hq2; have q0 : Same W8 w2 := Only.trans (S := fun _ => False) ((((q0).drew).alloc (.cells #[.int .i64 x.1, .int .i64 x.2] 89)).drew) hq2 (fun k hk h => by have := (hN1.lt k h).1; omega); clear hq2)
              | ((with_reducible show (if Region.wanted (⟨some 46, _, _, _, _, _⟩ : Oper) _ = true then Oper.wp _ _ _ (w2) _ _ else _)); refine step_slT (o := ⟨some 46, _, _, _, _, _⟩) (w2) (by rfl) (.tmp 42) (.tmp 45) 85 (by rfl) W8.heap.size 89 (.agg #[.int .i64 0, .int .i64 0]) 16 Try.underlying85 HINF.out rfl v2 _ _ (by rfl) (own_same hN2 ((Only.refl (fun _ => False) w2))) _ (s.drop j) (by rfl) (HHI.out _ (q0)) (by have := HT1.out; have := HT2.out; unfold maxLen; (try simp only [List.length_cons, List.length_nil]); omega) (by have := HT1.out; have := HT2.out; (try simp only [List.length_cons, List.length_nil]); omega) (Only.size (q0)) ?_; intro v3 w3 hN3 hq3; have q0 : Same W8 w3 := Only.trans (S := fun _ => False) (q0) hq3 (fun k hk h => by have := (hN2.lt k h).1; omega); clear hq3)
              | ((with_reducible show (if Region.wanted (⟨some 46, _, _, _, _, _⟩ : Oper) _ = true then Oper.wp _ _ _ ((w2).drew) _ _ else _)); refine step_slT (o := ⟨some 46, _, _, _, _, _⟩) ((w2).drew) (by rfl) (.tmp 42) (.tmp 45) 85 (by rfl) W8.heap.size 89 (.agg #[.int .i64 0, .int .i64 0]) 16 Try.underlying85 HINF.out rfl v2 _ _ (by rfl) (own_same hN2 (((Only.refl (fun _ => False) w2)).drew)) _ (s.drop j) (by rfl) (HHI.out _ ((q0).drew)) (by have := HT1.out; have := HT2.out; unfold maxLen; (try simp only [List.length_cons, List.length_nil]); omega) (by have := HT1.out; have := HT2.out; (try simp only [List.length_cons, List.length_nil]); omega) (Only.size ((q0).drew)) ?_; intro v3 w3 hN3 hq3; have q0 : Same W8 w3 := Only.trans (S := fun _ => False) ((q0).drew) hq3 (fun k hk h => by have := (hN2.lt k h).1; omega); clear hq3))
          -- END
          all_goals
            have HF : Hid (Same w w3 ∧ w3.ownsRow w.heap.size 89 2 v3 (k + 1) (cells2 (sortP (l.take (k + 1))))) := Lib.hid (by
              refine ⟨(HS.out.then HS8.out).then q0, ?_⟩
              have h1 := own_lo hN3 (base' := w.heap.size) (Nat.le_trans HS.out.size HS8.out.size)
              have e1 : 0 + (s.take j).length + [x].length + (s.drop j).length = k + 1 := by have := HT1.out; have := HT2.out; simp only [List.length_cons, List.length_nil]; omega
              have e2 : [] ++ cells2 (s.take j) ++ cells2 [x] ++ cells2 (s.drop j) = cells2 (sortP (l.take (k + 1))) := by
                rw [HX.out, HI.out, List.nil_append, ← cells2_append, ← cells2_append]
                simp
              rw [e1, e2] at h1
              exact h1)
            clear hN3 q0 HS8 HLO HHI HSW HT1 HT2 HK2 HX HSO HSL HOW HSN HI
            go_wp2_with fail
            go_roundw
            case rel => exact ⟨k + 1, by omega, by go_num, HF.out⟩
            case measure => simp [intOf]; omega
    · obtain rfl : k = l.length := by omega
      rw [List.take_length] at HOW HSL
      have hsl : (sortP l).length = l.length := sortP_len l
      have HFR := Lib.hid (own_fr HOW.out)
      obtain ⟨a2, c2, rfl, hc2, hm2⟩ := HSL.out.lit
      rw [hsl] at hc2 HOW HSL HFR ⊢
      have hR : ∀ n : Nat, n ≤ l.length → n = (bestP K l).length → SlP wr (.slice a2 n c2) (bestP K l) ∧ Fr w.heap.size (.slice a2 n c2) := by
        intro n h1 h2
        have h3 := slp_low HSL.out n (by omega)
        have h4 : (sortP l).take n = bestP K l := by
          unfold bestP
          rw [bestP_len] at h2
          rcases Nat.le_total K.toNat l.length with h | h
          · rw [h2, Nat.min_eq_left h]
          · rw [h2, Nat.min_eq_right h, List.take_of_length_le (by omega), List.take_of_length_le (by omega)]
        rw [h4] at h3
        refine ⟨h3, fun b off sp n' c' e => ?_⟩
        simp only [Value.slice.injEq] at e
        exact HFR.out b off sp l.length c2 (by rw [e.1])
      have HR := Lib.hid hR
      have hbl := bestP_len K l
      have HBL := Lib.hid hbl
      have hkk := HKK.out
      clear hS hown hslen hsl hR hbl HOW HSL HSO HFR HV
      by_cases h0 : K < 0
      · have hd0 : decide (K < 0) = true := decide_eq_true h0
        by_cases hl0 : l.length = 0
        · have hd1 : decide ((0 : Int) < ((l.length : Nat) : Int)) = false := decide_eq_false (by omega)
          have hd2 : decide (0 < l.length) = false := decide_eq_false (by omega)
          clear h0
          go_wp2_with fail
          go_ret
          exact ⟨_, rfl, HS.out, HR.out l.length (by omega) (by have := HBL.out; omega)⟩
        · have hd1 : decide ((0 : Int) < ((l.length : Nat) : Int)) = true := decide_eq_true (by omega)
          have hd2 : decide (0 < l.length) = true := decide_eq_true (by omega)
          have hr := HR.out 0 (by omega) (by have := HBL.out; omega)
          have HRR := Lib.hid hr
          clear h0 hl0 hr
          go_wp2_with fail
          go_ret
          exact ⟨_, rfl, HS.out, HRR.out⟩
      · have hd0 : decide (K < 0) = false := decide_eq_false h0
        by_cases hl0 : K < l.length
        · have hd1 : decide (K < ((l.length : Nat) : Int)) = true := decide_eq_true hl0
          have hr := HR.out K.toNat (by omega) (by have := HBL.out; omega)
          have HRR := Lib.hid hr
          have hKc : K ≤ c2 := by omega
          have hK0 : 0 ≤ K := by omega
          clear hr
          go_wp2_with fail
          go_ret
          exact ⟨_, rfl, HS.out, HRR.out⟩
        · have hd1 : decide (K < ((l.length : Nat) : Int)) = false := decide_eq_false hl0
          have hr := HR.out l.length (by omega) (by have := HBL.out; omega)
          have HRR := Lib.hid hr
          clear hr
          go_wp2_with fail
          go_ret
          exact ⟨_, rfl, HS.out, HRR.out⟩
end Go.Proofs.Ytjegohibpojneaa
