import Derived.Test.YtjegohibpojneaaVdPut
import Derived.Test.YtjegohibpojneaaVdKeys
set_option linter.unusedVariables false
set_option linter.unusedSimpArgs false
namespace Go.Proofs.Ytjegohibpojneaa
open Go.RowKit

/-! vdisk, plain -/
/-- A file: its bytes, how many are synced. -/
abbrev FileP := ByteArray × Int
def fileV (f : FileP) : Value := .agg #[.string f.1, .int .i64 f.2]
structure Dk where
  quota : Int
  F : EnS FileP
  cat : Int
  ckeep : Int
  count : Int
  down : Bool
  eff : Int
/-- A disk's block and its map's. -/
def DkW (w : World) (b mb : Nat) (d : Dk) : Prop :=
  w.heap[b]? = some (.cells #[.int .i64 d.quota, .map (some mb), .int .i64 d.cat, .int .i64 d.ckeep, .int .i64 d.count, .bool d.down, .int .i64 d.eff] 188 (0, 0)) ∧ MpS fileV Try.prog 9 w mb d.F
theorem DkW.only {S : Nat → Prop} {w w' : World} {b mb : Nat} {d : Dk} (h : DkW w b mb d) (ho : Only S w w') (h1 : ¬ S b) (h2 : ¬ S mb) : DkW w' b mb d := ⟨ho.heap h.1 h1, h.2.only ho h2⟩
theorem DkW.same {w w' : World} {b mb : Nat} {d : Dk} (h : DkW w b mb d) (ho : Same w w') : DkW w' b mb d := h.only ho (fun h => h) (fun h => h)
theorem DkW.ne {w : World} {b mb : Nat} {d : Dk} (h : DkW w b mb d) : mb ≠ b := by
  intro e
  obtain ⟨es, clock, hb, _⟩ := h.2
  rw [e, h.1] at hb
  cases hb
def usedP (F : EnS FileP) : Nat := (F.map fun p => p.2.1.size).sum
def rightN (s : ByteArray) : Bool := decide (1 ≤ s.size) && decide (s.size ≤ 32)
end Go.Proofs.Ytjegohibpojneaa
