import Derived.Test.YtjegohibpojneaaRound
import Derived.Test.YtjegohibpojneaaPairs
import Derived.Shelf.Abstract
set_option linter.unusedVariables false
set_option linter.unusedSimpArgs false
namespace Go.Proofs.Ytjegohibpojneaa
open Go.RowKit Go.Shelf
attribute [local go_sem] Oper.semAt_some

/-! slices.Chunk, at posts, by fours -/
abbrev ChunkAt (n : Nat) := { j : Nat // 4 * j < n }
def chunkV (b off n j : Nat) : Value := .slice (some ⟨b, off + 4 * j * 2, none⟩) (min 4 (n - 4 * j)) (min 4 (n - 4 * j))
theorem grown_drewN (w : World) (k : Nat) : w.grownBy (w.drewN k) none := ⟨rfl, rfl, rfl, Nat.le_refl _, fun _ _ _ => rfl⟩
theorem wide_round : Fence.wide.round = none := rfl
set_option maxRecDepth 100000 in
set_option maxHeartbeats 2000000 in
theorem chunk_stops (bs bn b off n cap m : Nat) (ad : Option Addr) (had : 0 < n → ad = some ⟨b, off, none⟩) (w : World) (hm : 1 ≤ m) (hnb : n ≤ 1000000) (hcap : n ≤ cap) (hcm : cap ≤ maxLen)
    (hs : w.heap[bs]? = some (.cells #[.slice ad n cap] 55 (0, 0))) (hn : w.heap[bn]? = some (.cells #[.int .i64 4] 3 (0, 0))) :
    SeqStopsK Fence.wide m Try.prog 145 #[.pointer (some ⟨bs, 0, none⟩), .pointer (some ⟨bn, 0, none⟩)] (fun x : ChunkAt n => #[chunkV b off n x.1]) (fun W W' => W'.heap[bs]? = W.heap[bs]? ∧ W'.heap[bn]? = W.heap[bn]?)
      (fun xs => xs.map (·.1) = List.range ((n + 3) / 4)) (fun _ => True) ((n + 3) / 4) w := fun l J Jx W hW hJ hJx hY h0 => by
  have hs2 := (hW.block _ (heap_lt hs)).trans hs
  have hn2 := (hW.block _ (heap_lt hn)).trans hn
  unfold maxLen at hcm
  refine callsIn_of_wp Try.func145 rfl trivial ?_ rfl
  simp only [Try.ntmps145, List.size_toArray, List.length_cons, List.length_nil, Nat.reduceAdd, Nat.reduceSub, Array.replicate_succ, Array.replicate_zero, List.push_toArray, List.append_toArray, List.nil_append, List.cons_append]
  have HS := Lib.hid hs2; have HN := Lib.hid hn2
  have HAD := Lib.hid had
  clear hs hn hs2 hn2 had
  gi_wp2
  gi_loopw [4] (fun v wr => ∃ (i : Nat) (pre : List (ChunkAt n)), v = .int .i64 i ∧ i < n + 4 ∧ i % 4 = 0 ∧ pre.map (·.1) = List.range (i / 4) ∧ J pre wr ∧ wr.heap[bs]? = some (.cells #[.slice ad n cap] 55 (0, 0)) ∧ wr.heap[bn]? = some (.cells #[.int .i64 4] 3 (0, 0)))
    (fun v _ => n - (intOf v).toNat)
  case atStart => exact ⟨0, [], rfl, by omega, rfl, rfl, h0, HS.out, HN.out⟩
  case round =>
    obtain ⟨i, pre, rfl, hk, hi4, hpre, hJs, hs3, hn3⟩ := hrel
    have hc1 := blk_cells hs3 0
    have hc2 := blk_cells hn3 0
    simp at hc1 hc2
    have HS3 := Lib.hid hs3; have HN3 := Lib.hid hn3; have HP := Lib.hid hpre; have HI := Lib.hid hi4; have HJS := Lib.hid hJs
    clear hs3 hn3 hpre hi4 hJs
    by_cases hlt : i < n
    · obtain rfl := HAD.out (by omega)
      clear HAD
      by_cases h4 : i + 4 ≤ n
      · gi_wp2
        refine wpIn_wide.2 ?_
        go_quiet (fail)
        rename_i nq
        obtain ⟨fn, tmps, assign, body, hy, hR⟩ := hY pre ⟨i / 4, by have := HI.out; omega⟩ (wr.drewN nq) (hJ _ _ _ none HJS.out (grown_drewN _ _) (by intro r e; cases e)) (by have h1 := congrArg List.length HP.out; have h2 := HI.out; rw [List.length_map, List.length_range] at h1; omega)
        have e4 : 4 * (i / 4) = i := by have := HI.out; omega
        simp only [chunkV, e4] at hy
        rw [show min 4 (n - i) = 4 by omega] at hy
        have HY := Lib.hid e4
        clear e4
        gi_wp2
        refine hR.mono ?_
        rintro e W3 (⟨rfl, hJ3, hk3⟩ | ⟨rfl, hJx3⟩)
        · have hs4 := hk3.1.trans HS3.out
          have hn4 := hk3.2.trans HN3.out
          have hc3 := blk_cells hs4 0
          have hc4 := blk_cells hn4 0
          simp at hc3 hc4
          have HS4 := Lib.hid hs4; have HN4 := Lib.hid hn4; have HJ3 := Lib.hid hJ3
          clear hs4 hn4 hJ3 hk3
          gi_wp2
          go_roundw
          case rel => exact ⟨i + 4, pre ++ [⟨i / 4, by have := HI.out; omega⟩], by go_num, by omega, by have := HI.out; omega, by rw [List.map_append, HP.out, show (i + 4) / 4 = i / 4 + 1 by omega, List.range_succ]; rfl, HJ3.out, HS4.out, HN4.out⟩
          case measure => simp [intOf]; omega
        · gi_wp2
          refine bodyPost_ret (results_none rfl _ _ _) rfl ?_
          exact ⟨⟨_, rfl⟩, .inr ⟨_, trivial, hJx3⟩⟩
      · gi_wp2
        refine wpIn_wide.2 ?_
        go_quiet (fail)
        rename_i nq
        obtain ⟨fn, tmps, assign, body, hy, hR⟩ := hY pre ⟨i / 4, by have := HI.out; omega⟩ (wr.drewN nq) (hJ _ _ _ none HJS.out (grown_drewN _ _) (by intro r e; cases e)) (by have h1 := congrArg List.length HP.out; have h2 := HI.out; rw [List.length_map, List.length_range] at h1; omega)
        have e4 : 4 * (i / 4) = i := by have := HI.out; omega
        simp only [chunkV, e4] at hy
        rw [show min 4 (n - i) = n - i by omega] at hy
        have HY := Lib.hid e4
        clear e4
        gi_wp2
        refine hR.mono ?_
        rintro e W3 (⟨rfl, hJ3, hk3⟩ | ⟨rfl, hJx3⟩)
        · have hs4 := hk3.1.trans HS3.out
          have hn4 := hk3.2.trans HN3.out
          have hc3 := blk_cells hs4 0
          have hc4 := blk_cells hn4 0
          simp at hc3 hc4
          have HS4 := Lib.hid hs4; have HN4 := Lib.hid hn4; have HJ3 := Lib.hid hJ3
          clear hs4 hn4 hJ3 hk3
          gi_wp2
          go_roundw
          case rel => exact ⟨i + 4, pre ++ [⟨i / 4, by have := HI.out; omega⟩], by go_num, by omega, by have := HI.out; omega, by rw [List.map_append, HP.out, show (i + 4) / 4 = i / 4 + 1 by omega, List.range_succ]; rfl, HJ3.out, HS4.out, HN4.out⟩
          case measure => simp [intOf]; omega
        · gi_wp2
          refine bodyPost_ret (results_none rfl _ _ _) rfl ?_
          exact ⟨⟨_, rfl⟩, .inr ⟨_, trivial, hJx3⟩⟩
    · gi_wp2
      go_end0
      exact ⟨⟨_, rfl⟩, .inl ⟨pre, by rw [HP.out]; congr 1; have := HI.out; omega, HJS.out⟩⟩
end Go.Proofs.Ytjegohibpojneaa
