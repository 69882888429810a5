/-
  No cell of these rows narrows 'for every input' (looked for: loops, veiled, ifaces, maps, wideKeys, modest, calm, conditions, laid).
  DERIVED. THE GIVEN ROWS OF THIS SEAT. 11 by the template 'for every input the law returns true; each argument reads behind the call as it read before'; 0 by the template 'total and deterministic' (their statements: YtjegohibpojneaaTotals.lean).
  GIVEN WITH THE SEED: the statements are not yours to turn. If you find one false, say at which input.
  Laid BY PROGRAM, IN A SANDBOX (cutbox-rows.mjs): the forced cells as the released guide's own fill.sh prints them over the translation c5a01d82bdb0354c… (all of the seat's roots in one cut). By AI agents, Wed Nov 11 2026. No macro, syntax, notation, axiom, sorry.
-/
import Derived.Test.YtjegohibpojneaaChecked
import GoSem.Claim
import GoSem.ClaimJoined
import GoSem.ClaimMapViews
import Derived.JoinedTies
import Derived.KernelRfl
namespace Go.Proofs.Ytjegohibpojneaa
/- THE CELL 'sum', in the pinned program and in every row, IS THE sha256 OF THE DUMP (.gsa) THAT YtjegohibpojneaaProg.lean LOADS. Nothing in Lean hashes anything: it is a label: what it is worth is what the hold of that sum in a sandbox is worth. -/
noncomputable def Try.pinned : Pinned := { name := "ytjegohibpojneaa", sum := "c5a01d82bdb0354c2c3957869e86df37bbd115ca2a3269372daadabf95255782", checked := Try.checked }
namespace Rows
def none {H : Type} : Left H := { results := [], args := [] }

/-- 'rankloftlaw10.DocTells': WHATEVER THE INPUT: true; the input reads as it did. -/
def docTellsSpec : ChangeSpec := { name := "docTells", fn := fun _ => fun
  | [d1, d2] => { results := [.lit (.bool true)], args := [d1, d2] }
  | _ => none }
def docTellsRow : OpenClaim := { program := "ytjegohibpojneaa", sum := "c5a01d82bdb0354c2c3957869e86df37bbd115ca2a3269372daadabf95255782", func := "rankloft/rankloftlaw10.DocTells", spec := "docTells", unfollowed := true, recurses := true, apart := false }
def DocTellsSaid : Prop := docTellsRow.holds Try.pinned (OpenSpec.ofChange docTellsSpec)

/-- ITS FALSE NEIGHBOUR: 'it returns false'. Refute it at one input. -/
def docTellsWrong : ChangeSpec := { name := "docTells", fn := fun _ => fun
  | [d1, d2] => { results := [.lit (.bool false)], args := [d1, d2] }
  | _ => none }
def DocTellsWrongFalsely : Prop := docTellsRow.holds Try.pinned (OpenSpec.ofChange docTellsWrong)

/-- 'rankloftlaw10.DocBack': WHATEVER THE INPUT: true; the input reads as it did. -/
def docBackSpec : ChangeSpec := { name := "docBack", fn := fun _ => fun
  | [d1, d2, d3] => { results := [.lit (.bool true)], args := [d1, d2, d3] }
  | _ => none }
def docBackRow : OpenClaim := { program := "ytjegohibpojneaa", sum := "c5a01d82bdb0354c2c3957869e86df37bbd115ca2a3269372daadabf95255782", func := "rankloft/rankloftlaw10.DocBack", spec := "docBack", unfollowed := true, recurses := true, apart := false }
def DocBackSaid : Prop := docBackRow.holds Try.pinned (OpenSpec.ofChange docBackSpec)

/-- ITS FALSE NEIGHBOUR: 'it returns false'. Refute it at one input. -/
def docBackWrong : ChangeSpec := { name := "docBack", fn := fun _ => fun
  | [d1, d2, d3] => { results := [.lit (.bool false)], args := [d1, d2, d3] }
  | _ => none }
def DocBackWrongFalsely : Prop := docBackRow.holds Try.pinned (OpenSpec.ofChange docBackWrong)

/-- 'rankloftlaw05.PostingTells': WHATEVER THE INPUT: true; the input reads as it did. -/
def postingTellsSpec : ChangeSpec := { name := "postingTells", fn := fun _ => fun
  | [d1, d2] => { results := [.lit (.bool true)], args := [d1, d2] }
  | _ => none }
def postingTellsRow : OpenClaim := { program := "ytjegohibpojneaa", sum := "c5a01d82bdb0354c2c3957869e86df37bbd115ca2a3269372daadabf95255782", func := "rankloft/rankloftlaw05.PostingTells", spec := "postingTells", inPlace := ["sync/atomic.LoadUint32", "(*internal/sync.Mutex).Lock", "internal/race.Disable", "sync/atomic.CompareAndSwapInt32", "internal/race.Enable", "internal/race.Acquire", "(*internal/sync.Mutex).lockSlow", "internal/sync.runtime_canSpin", "internal/sync.runtime_doSpin", "internal/sync.throw", "internal/sync.runtime_nanotime", "internal/sync.runtime_SemacquireMutex", "sync/atomic.AddInt32", "(*internal/sync.Mutex).Unlock", "internal/race.ReleaseMerge", "(*internal/sync.Mutex).unlockSlow", "internal/sync.fatal", "internal/sync.runtime_Semrelease", "sync/atomic.StoreUint32", "sync/atomic.AddInt64"], unfollowed := true, recurses := true, apart := false }
def PostingTellsSaid : Prop := postingTellsRow.holds Try.pinned (OpenSpec.ofChange postingTellsSpec)

/-- ITS FALSE NEIGHBOUR: 'it returns false'. Refute it at one input. -/
def postingTellsWrong : ChangeSpec := { name := "postingTells", fn := fun _ => fun
  | [d1, d2] => { results := [.lit (.bool false)], args := [d1, d2] }
  | _ => none }
def PostingTellsWrongFalsely : Prop := postingTellsRow.holds Try.pinned (OpenSpec.ofChange postingTellsWrong)

/-- 'rankloftlaw05.PostingMoves': WHATEVER THE INPUT: true; the input reads as it did. -/
def postingMovesSpec : ChangeSpec := { name := "postingMoves", fn := fun _ => fun
  | [d1, d2, d3] => { results := [.lit (.bool true)], args := [d1, d2, d3] }
  | _ => none }
def postingMovesRow : OpenClaim := { program := "ytjegohibpojneaa", sum := "c5a01d82bdb0354c2c3957869e86df37bbd115ca2a3269372daadabf95255782", func := "rankloft/rankloftlaw05.PostingMoves", spec := "postingMoves", inPlace := ["sync/atomic.LoadUint32", "(*internal/sync.Mutex).Lock", "internal/race.Disable", "sync/atomic.CompareAndSwapInt32", "internal/race.Enable", "internal/race.Acquire", "(*internal/sync.Mutex).lockSlow", "internal/sync.runtime_canSpin", "internal/sync.runtime_doSpin", "internal/sync.throw", "internal/sync.runtime_nanotime", "internal/sync.runtime_SemacquireMutex", "sync/atomic.AddInt32", "(*internal/sync.Mutex).Unlock", "internal/race.ReleaseMerge", "(*internal/sync.Mutex).unlockSlow", "internal/sync.fatal", "internal/sync.runtime_Semrelease", "sync/atomic.StoreUint32", "sync/atomic.AddInt64"], unfollowed := true, recurses := true, apart := false }
def PostingMovesSaid : Prop := postingMovesRow.holds Try.pinned (OpenSpec.ofChange postingMovesSpec)

/-- ITS FALSE NEIGHBOUR: 'it returns false'. Refute it at one input. -/
def postingMovesWrong : ChangeSpec := { name := "postingMoves", fn := fun _ => fun
  | [d1, d2, d3] => { results := [.lit (.bool false)], args := [d1, d2, d3] }
  | _ => none }
def PostingMovesWrongFalsely : Prop := postingMovesRow.holds Try.pinned (OpenSpec.ofChange postingMovesWrong)

/-- 'rankloftlaw05.PostingBounds': WHATEVER THE INPUT: true; the input reads as it did. -/
def postingBoundsSpec : ChangeSpec := { name := "postingBounds", fn := fun _ => fun
  | [d1, d2] => { results := [.lit (.bool true)], args := [d1, d2] }
  | _ => none }
def postingBoundsRow : OpenClaim := { program := "ytjegohibpojneaa", sum := "c5a01d82bdb0354c2c3957869e86df37bbd115ca2a3269372daadabf95255782", func := "rankloft/rankloftlaw05.PostingBounds", spec := "postingBounds", inPlace := ["sync/atomic.LoadUint32", "(*internal/sync.Mutex).Lock", "internal/race.Disable", "sync/atomic.CompareAndSwapInt32", "internal/race.Enable", "internal/race.Acquire", "(*internal/sync.Mutex).lockSlow", "internal/sync.runtime_canSpin", "internal/sync.runtime_doSpin", "internal/sync.throw", "internal/sync.runtime_nanotime", "internal/sync.runtime_SemacquireMutex", "sync/atomic.AddInt32", "(*internal/sync.Mutex).Unlock", "internal/race.ReleaseMerge", "(*internal/sync.Mutex).unlockSlow", "internal/sync.fatal", "internal/sync.runtime_Semrelease", "sync/atomic.StoreUint32", "sync/atomic.AddInt64"], unfollowed := true, recurses := true, apart := false }
def PostingBoundsSaid : Prop := postingBoundsRow.holds Try.pinned (OpenSpec.ofChange postingBoundsSpec)

/-- ITS FALSE NEIGHBOUR: 'it returns false'. Refute it at one input. -/
def postingBoundsWrong : ChangeSpec := { name := "postingBounds", fn := fun _ => fun
  | [d1, d2] => { results := [.lit (.bool false)], args := [d1, d2] }
  | _ => none }
def PostingBoundsWrongFalsely : Prop := postingBoundsRow.holds Try.pinned (OpenSpec.ofChange postingBoundsWrong)

/-- 'rankloftlaw04.TopkKeeps': WHATEVER THE INPUT: true; the input reads as it did. -/
def topkKeepsSpec : ChangeSpec := { name := "topkKeeps", fn := fun _ => fun
  | [d1, d2] => { results := [.lit (.bool true)], args := [d1, d2] }
  | _ => none }
def topkKeepsRow : OpenClaim := { program := "ytjegohibpojneaa", sum := "c5a01d82bdb0354c2c3957869e86df37bbd115ca2a3269372daadabf95255782", func := "rankloft/rankloftlaw04.TopkKeeps", spec := "topkKeeps", unfollowed := true, recurses := true, apart := false }
def TopkKeepsSaid : Prop := topkKeepsRow.holds Try.pinned (OpenSpec.ofChange topkKeepsSpec)

/-- ITS FALSE NEIGHBOUR: 'it returns false'. Refute it at one input. -/
def topkKeepsWrong : ChangeSpec := { name := "topkKeeps", fn := fun _ => fun
  | [d1, d2] => { results := [.lit (.bool false)], args := [d1, d2] }
  | _ => none }
def TopkKeepsWrongFalsely : Prop := topkKeepsRow.holds Try.pinned (OpenSpec.ofChange topkKeepsWrong)

/-- 'rankloftlaw04.TopkOrder': WHATEVER THE INPUT: true; the input reads as it did. -/
def topkOrderSpec : ChangeSpec := { name := "topkOrder", fn := fun _ => fun
  | [d1, d2, d3] => { results := [.lit (.bool true)], args := [d1, d2, d3] }
  | _ => none }
def topkOrderRow : OpenClaim := { program := "ytjegohibpojneaa", sum := "c5a01d82bdb0354c2c3957869e86df37bbd115ca2a3269372daadabf95255782", func := "rankloft/rankloftlaw04.TopkOrder", spec := "topkOrder", unfollowed := true, recurses := true, apart := false }
def TopkOrderSaid : Prop := topkOrderRow.holds Try.pinned (OpenSpec.ofChange topkOrderSpec)

/-- ITS FALSE NEIGHBOUR: 'it returns false'. Refute it at one input. -/
def topkOrderWrong : ChangeSpec := { name := "topkOrder", fn := fun _ => fun
  | [d1, d2, d3] => { results := [.lit (.bool false)], args := [d1, d2, d3] }
  | _ => none }
def TopkOrderWrongFalsely : Prop := topkOrderRow.holds Try.pinned (OpenSpec.ofChange topkOrderWrong)

/-- 'rankloftlaw09.VdiskLasts': WHATEVER THE INPUT: true; the input reads as it did. -/
def vdiskLastsSpec : ChangeSpec := { name := "vdiskLasts", fn := fun _ => fun
  | [d1, d2, d3] => { results := [.lit (.bool true)], args := [d1, d2, d3] }
  | _ => none }
def vdiskLastsRow : OpenClaim := { program := "ytjegohibpojneaa", sum := "c5a01d82bdb0354c2c3957869e86df37bbd115ca2a3269372daadabf95255782", func := "rankloft/rankloftlaw09.VdiskLasts", spec := "vdiskLasts", inPlace := ["sync/atomic.AddInt64", "sync/atomic.LoadInt64"], unfollowed := true, recurses := true, apart := false }
def VdiskLastsSaid : Prop := vdiskLastsRow.holds Try.pinned (OpenSpec.ofChange vdiskLastsSpec)

/-- ITS FALSE NEIGHBOUR: 'it returns false'. Refute it at one input. -/
def vdiskLastsWrong : ChangeSpec := { name := "vdiskLasts", fn := fun _ => fun
  | [d1, d2, d3] => { results := [.lit (.bool false)], args := [d1, d2, d3] }
  | _ => none }
def VdiskLastsWrongFalsely : Prop := vdiskLastsRow.holds Try.pinned (OpenSpec.ofChange vdiskLastsWrong)

/-- 'rankloftlaw07.DenseTells': WHATEVER THE INPUT: true; the input reads as it did. -/
def denseTellsSpec : ChangeSpec := { name := "denseTells", fn := fun _ => fun
  | [d1, d2, d3, d4, d5, d6] => { results := [.lit (.bool true)], args := [d1, d2, d3, d4, d5, d6] }
  | _ => none }
def denseTellsRow : OpenClaim := { program := "ytjegohibpojneaa", sum := "c5a01d82bdb0354c2c3957869e86df37bbd115ca2a3269372daadabf95255782", func := "rankloft/rankloftlaw07.DenseTells", spec := "denseTells", inPlace := ["sync/atomic.AddInt64"], unfollowed := true, recurses := true, apart := false }
def DenseTellsSaid : Prop := denseTellsRow.holds Try.pinned (OpenSpec.ofChange denseTellsSpec)

/-- ITS FALSE NEIGHBOUR: 'it returns false'. Refute it at one input. -/
def denseTellsWrong : ChangeSpec := { name := "denseTells", fn := fun _ => fun
  | [d1, d2, d3, d4, d5, d6] => { results := [.lit (.bool false)], args := [d1, d2, d3, d4, d5, d6] }
  | _ => none }
def DenseTellsWrongFalsely : Prop := denseTellsRow.holds Try.pinned (OpenSpec.ofChange denseTellsWrong)

/-- 'rankloftlaw07.DenseMeasures': WHATEVER THE INPUT: true; the input reads as it did. -/
def denseMeasuresSpec : ChangeSpec := { name := "denseMeasures", fn := fun _ => fun
  | [d1, d2] => { results := [.lit (.bool true)], args := [d1, d2] }
  | _ => none }
def denseMeasuresRow : OpenClaim := { program := "ytjegohibpojneaa", sum := "c5a01d82bdb0354c2c3957869e86df37bbd115ca2a3269372daadabf95255782", func := "rankloft/rankloftlaw07.DenseMeasures", spec := "denseMeasures", inPlace := ["sync/atomic.AddInt64"], unfollowed := true, recurses := true, apart := false }
def DenseMeasuresSaid : Prop := denseMeasuresRow.holds Try.pinned (OpenSpec.ofChange denseMeasuresSpec)

/-- ITS FALSE NEIGHBOUR: 'it returns false'. Refute it at one input. -/
def denseMeasuresWrong : ChangeSpec := { name := "denseMeasures", fn := fun _ => fun
  | [d1, d2] => { results := [.lit (.bool false)], args := [d1, d2] }
  | _ => none }
def DenseMeasuresWrongFalsely : Prop := denseMeasuresRow.holds Try.pinned (OpenSpec.ofChange denseMeasuresWrong)

/-- 'rankloftlaw07.DenseEarly': WHATEVER THE INPUT: true; the input reads as it did. -/
def denseEarlySpec : ChangeSpec := { name := "denseEarly", fn := fun _ => fun
  | [d1, d2, d3, d4, d5] => { results := [.lit (.bool true)], args := [d1, d2, d3, d4, d5] }
  | _ => none }
def denseEarlyRow : OpenClaim := { program := "ytjegohibpojneaa", sum := "c5a01d82bdb0354c2c3957869e86df37bbd115ca2a3269372daadabf95255782", func := "rankloft/rankloftlaw07.DenseEarly", spec := "denseEarly", inPlace := ["sync/atomic.AddInt64", "sync/atomic.LoadInt64"], unfollowed := true, recurses := true, apart := false }
def DenseEarlySaid : Prop := denseEarlyRow.holds Try.pinned (OpenSpec.ofChange denseEarlySpec)

/-- ITS FALSE NEIGHBOUR: 'it returns false'. Refute it at one input. -/
def denseEarlyWrong : ChangeSpec := { name := "denseEarly", fn := fun _ => fun
  | [d1, d2, d3, d4, d5] => { results := [.lit (.bool false)], args := [d1, d2, d3, d4, d5] }
  | _ => none }
def DenseEarlyWrongFalsely : Prop := denseEarlyRow.holds Try.pinned (OpenSpec.ofChange denseEarlyWrong)

/- THE SECOND FORM. 'bulk': how many values and letters a reading holds, each counted each time it is reached (what is shared counts as often as it is met; a slice's spare places count too). A statement '..UptoSaid' is the law's where the arguments, and the package variables that the reading takes, are together of bulk at most 1048576: NARROWER than '..Said'. Prove '..Said' where nothing that the law and all that it calls make is longer than what came in: it says more and counts as full. Else prove '..UptoSaid'. A law counts once. -/
mutual
def uptoBulk {H : Type} : DataW H → Nat
  | .lit (.string bytes) => bytes.length + 1
  | .lit _ => 1
  | .nil => 1
  | .ptr d => uptoBulk d + 1
  | .slice elems spare => uptoBulkAll elems + uptoBulkAll spare + 1
  | .agg parts => uptoBulkAll parts + 1
  | .iface _ d => uptoBulk d + 1
  | .map entries => uptoBulkEntries entries + 1
  | .held _ => 1
def uptoBulkAll {H : Type} : List (DataW H) → Nat
  | [] => 0
  | d :: r => uptoBulk d + uptoBulkAll r
def uptoBulkEntries {H : Type} : List (Lit × DataW H) → Nat
  | [] => 0
  | x :: r => uptoBulkEntry x + uptoBulkEntries r
def uptoBulkEntry {H : Type} : Lit × DataW H → Nat
  | (.string bytes, d) => bytes.length + uptoBulk d + 1
  | (_, d) => uptoBulk d + 1
 end
def uptoSmall : (H : Type) → List (DataW H) → Bool := fun _ ds => decide (uptoBulkAll ds ≤ 1048576)
def OpenSpec.upto (s : _root_.Go.ChangeSpec) : _root_.Go.OpenSpec := { _root_.Go.OpenSpec.ofChange s with cond := some uptoSmall }

/-- 'rankloftlaw10.DocTells', WHERE WHAT IT READS IS OF BULK AT MOST 1048576: true; the input reads as it did. -/
def docTellsUptoRow : OpenClaim := { program := "ytjegohibpojneaa", sum := "c5a01d82bdb0354c2c3957869e86df37bbd115ca2a3269372daadabf95255782", func := "rankloft/rankloftlaw10.DocTells", spec := "docTells", unfollowed := true, recurses := true, apart := false, narrowed := true }
def DocTellsUptoSaid : Prop := docTellsUptoRow.holds Try.pinned (OpenSpec.upto docTellsSpec)

/-- 'rankloftlaw10.DocBack', WHERE WHAT IT READS IS OF BULK AT MOST 1048576: true; the input reads as it did. -/
def docBackUptoRow : OpenClaim := { program := "ytjegohibpojneaa", sum := "c5a01d82bdb0354c2c3957869e86df37bbd115ca2a3269372daadabf95255782", func := "rankloft/rankloftlaw10.DocBack", spec := "docBack", unfollowed := true, recurses := true, apart := false, narrowed := true }
def DocBackUptoSaid : Prop := docBackUptoRow.holds Try.pinned (OpenSpec.upto docBackSpec)

/-- 'rankloftlaw05.PostingTells', WHERE WHAT IT READS IS OF BULK AT MOST 1048576: true; the input reads as it did. -/
def postingTellsUptoRow : OpenClaim := { program := "ytjegohibpojneaa", sum := "c5a01d82bdb0354c2c3957869e86df37bbd115ca2a3269372daadabf95255782", func := "rankloft/rankloftlaw05.PostingTells", spec := "postingTells", inPlace := ["sync/atomic.LoadUint32", "(*internal/sync.Mutex).Lock", "internal/race.Disable", "sync/atomic.CompareAndSwapInt32", "internal/race.Enable", "internal/race.Acquire", "(*internal/sync.Mutex).lockSlow", "internal/sync.runtime_canSpin", "internal/sync.runtime_doSpin", "internal/sync.throw", "internal/sync.runtime_nanotime", "internal/sync.runtime_SemacquireMutex", "sync/atomic.AddInt32", "(*internal/sync.Mutex).Unlock", "internal/race.ReleaseMerge", "(*internal/sync.Mutex).unlockSlow", "internal/sync.fatal", "internal/sync.runtime_Semrelease", "sync/atomic.StoreUint32", "sync/atomic.AddInt64"], unfollowed := true, recurses := true, apart := false, narrowed := true }
def PostingTellsUptoSaid : Prop := postingTellsUptoRow.holds Try.pinned (OpenSpec.upto postingTellsSpec)

/-- 'rankloftlaw05.PostingMoves', WHERE WHAT IT READS IS OF BULK AT MOST 1048576: true; the input reads as it did. -/
def postingMovesUptoRow : OpenClaim := { program := "ytjegohibpojneaa", sum := "c5a01d82bdb0354c2c3957869e86df37bbd115ca2a3269372daadabf95255782", func := "rankloft/rankloftlaw05.PostingMoves", spec := "postingMoves", inPlace := ["sync/atomic.LoadUint32", "(*internal/sync.Mutex).Lock", "internal/race.Disable", "sync/atomic.CompareAndSwapInt32", "internal/race.Enable", "internal/race.Acquire", "(*internal/sync.Mutex).lockSlow", "internal/sync.runtime_canSpin", "internal/sync.runtime_doSpin", "internal/sync.throw", "internal/sync.runtime_nanotime", "internal/sync.runtime_SemacquireMutex", "sync/atomic.AddInt32", "(*internal/sync.Mutex).Unlock", "internal/race.ReleaseMerge", "(*internal/sync.Mutex).unlockSlow", "internal/sync.fatal", "internal/sync.runtime_Semrelease", "sync/atomic.StoreUint32", "sync/atomic.AddInt64"], unfollowed := true, recurses := true, apart := false, narrowed := true }
def PostingMovesUptoSaid : Prop := postingMovesUptoRow.holds Try.pinned (OpenSpec.upto postingMovesSpec)

/-- 'rankloftlaw05.PostingBounds', WHERE WHAT IT READS IS OF BULK AT MOST 1048576: true; the input reads as it did. -/
def postingBoundsUptoRow : OpenClaim := { program := "ytjegohibpojneaa", sum := "c5a01d82bdb0354c2c3957869e86df37bbd115ca2a3269372daadabf95255782", func := "rankloft/rankloftlaw05.PostingBounds", spec := "postingBounds", inPlace := ["sync/atomic.LoadUint32", "(*internal/sync.Mutex).Lock", "internal/race.Disable", "sync/atomic.CompareAndSwapInt32", "internal/race.Enable", "internal/race.Acquire", "(*internal/sync.Mutex).lockSlow", "internal/sync.runtime_canSpin", "internal/sync.runtime_doSpin", "internal/sync.throw", "internal/sync.runtime_nanotime", "internal/sync.runtime_SemacquireMutex", "sync/atomic.AddInt32", "(*internal/sync.Mutex).Unlock", "internal/race.ReleaseMerge", "(*internal/sync.Mutex).unlockSlow", "internal/sync.fatal", "internal/sync.runtime_Semrelease", "sync/atomic.StoreUint32", "sync/atomic.AddInt64"], unfollowed := true, recurses := true, apart := false, narrowed := true }
def PostingBoundsUptoSaid : Prop := postingBoundsUptoRow.holds Try.pinned (OpenSpec.upto postingBoundsSpec)

/-- 'rankloftlaw04.TopkKeeps', WHERE WHAT IT READS IS OF BULK AT MOST 1048576: true; the input reads as it did. -/
def topkKeepsUptoRow : OpenClaim := { program := "ytjegohibpojneaa", sum := "c5a01d82bdb0354c2c3957869e86df37bbd115ca2a3269372daadabf95255782", func := "rankloft/rankloftlaw04.TopkKeeps", spec := "topkKeeps", unfollowed := true, recurses := true, apart := false, narrowed := true }
def TopkKeepsUptoSaid : Prop := topkKeepsUptoRow.holds Try.pinned (OpenSpec.upto topkKeepsSpec)

/-- 'rankloftlaw04.TopkOrder', WHERE WHAT IT READS IS OF BULK AT MOST 1048576: true; the input reads as it did. -/
def topkOrderUptoRow : OpenClaim := { program := "ytjegohibpojneaa", sum := "c5a01d82bdb0354c2c3957869e86df37bbd115ca2a3269372daadabf95255782", func := "rankloft/rankloftlaw04.TopkOrder", spec := "topkOrder", unfollowed := true, recurses := true, apart := false, narrowed := true }
def TopkOrderUptoSaid : Prop := topkOrderUptoRow.holds Try.pinned (OpenSpec.upto topkOrderSpec)

/-- 'rankloftlaw09.VdiskLasts', WHERE WHAT IT READS IS OF BULK AT MOST 1048576: true; the input reads as it did. -/
def vdiskLastsUptoRow : OpenClaim := { program := "ytjegohibpojneaa", sum := "c5a01d82bdb0354c2c3957869e86df37bbd115ca2a3269372daadabf95255782", func := "rankloft/rankloftlaw09.VdiskLasts", spec := "vdiskLasts", inPlace := ["sync/atomic.AddInt64", "sync/atomic.LoadInt64"], unfollowed := true, recurses := true, apart := false, narrowed := true }
def VdiskLastsUptoSaid : Prop := vdiskLastsUptoRow.holds Try.pinned (OpenSpec.upto vdiskLastsSpec)

/-- 'rankloftlaw07.DenseTells', WHERE WHAT IT READS IS OF BULK AT MOST 1048576: true; the input reads as it did. -/
def denseTellsUptoRow : OpenClaim := { program := "ytjegohibpojneaa", sum := "c5a01d82bdb0354c2c3957869e86df37bbd115ca2a3269372daadabf95255782", func := "rankloft/rankloftlaw07.DenseTells", spec := "denseTells", inPlace := ["sync/atomic.AddInt64"], unfollowed := true, recurses := true, apart := false, narrowed := true }
def DenseTellsUptoSaid : Prop := denseTellsUptoRow.holds Try.pinned (OpenSpec.upto denseTellsSpec)

/-- 'rankloftlaw07.DenseMeasures', WHERE WHAT IT READS IS OF BULK AT MOST 1048576: true; the input reads as it did. -/
def denseMeasuresUptoRow : OpenClaim := { program := "ytjegohibpojneaa", sum := "c5a01d82bdb0354c2c3957869e86df37bbd115ca2a3269372daadabf95255782", func := "rankloft/rankloftlaw07.DenseMeasures", spec := "denseMeasures", inPlace := ["sync/atomic.AddInt64"], unfollowed := true, recurses := true, apart := false, narrowed := true }
def DenseMeasuresUptoSaid : Prop := denseMeasuresUptoRow.holds Try.pinned (OpenSpec.upto denseMeasuresSpec)

/-- 'rankloftlaw07.DenseEarly', WHERE WHAT IT READS IS OF BULK AT MOST 1048576: true; the input reads as it did. -/
def denseEarlyUptoRow : OpenClaim := { program := "ytjegohibpojneaa", sum := "c5a01d82bdb0354c2c3957869e86df37bbd115ca2a3269372daadabf95255782", func := "rankloft/rankloftlaw07.DenseEarly", spec := "denseEarly", inPlace := ["sync/atomic.AddInt64", "sync/atomic.LoadInt64"], unfollowed := true, recurses := true, apart := false, narrowed := true }
def DenseEarlyUptoSaid : Prop := denseEarlyUptoRow.holds Try.pinned (OpenSpec.upto denseEarlySpec)

end Rows
end Go.Proofs.Ytjegohibpojneaa
