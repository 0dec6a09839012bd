/-
  No cell of these rows narrows 'for every input' (looked for: loops, veiled, ifaces, maps, wideKeys, modest, calm, conditions, laid).
  DERIVED. THE GIVEN ROWS OF THIS SEAT. 10 by the template 'for every input the law returns true; each argument reads behind the call as it read before'; 0 by the template 'total and deterministic' (their statements: YtlafkeijikbenabTotals.lean).
  GIVEN WITH THE SEED: the statements are not yours to turn. If you find one false, say at which input.
  Laid BY PROGRAM, IN A SANDBOX (cutbox-rows.mjs): the forced cells as the released guide's own fill.sh prints them over the translation 966753c55a7f9b5d… (all of the seat's roots in one cut). By AI agents, Wed Nov 11 2026. No macro, syntax, notation, axiom, sorry.
-/
import Derived.Test.YtlafkeijikbenabChecked
import GoSem.Claim
import GoSem.ClaimJoined
import GoSem.ClaimMapViews
import Derived.JoinedTies
import Derived.KernelRfl
namespace Go.Proofs.Ytlafkeijikbenab
/- THE CELL 'sum', in the pinned program and in every row, IS THE sha256 OF THE DUMP (.gsa) THAT YtlafkeijikbenabProg.lean LOADS. Nothing in Lean hashes anything: it is a label: what it is worth is what the hold of that sum in a sandbox is worth. -/
noncomputable def Try.pinned : Pinned := { name := "ytlafkeijikbenab", sum := "966753c55a7f9b5dc857ed0341175c048695801701f0d20f4598b214bab2e28a", checked := Try.checked }
namespace Rows
def none {H : Type} : Left H := { results := [], args := [] }

/-- 'parapetlaw11.PassiveOwn': WHATEVER THE INPUT: true; the input reads as it did. -/
def passiveOwnSpec : ChangeSpec := { name := "passiveOwn", fn := fun _ => fun
  | [d] => { results := [.lit (.bool true)], args := [d] }
  | _ => none }
def passiveOwnRow : OpenClaim := { program := "ytlafkeijikbenab", sum := "966753c55a7f9b5dc857ed0341175c048695801701f0d20f4598b214bab2e28a", func := "parapet/parapetlaw11.PassiveOwn", spec := "passiveOwn", inPlace := ["sync/atomic.AddInt64", "sync/atomic.LoadUint32", "(*internal/sync.Mutex).Lock", "internal/race.Disable", "sync/atomic.CompareAndSwapInt32", "internal/race.Enable", "internal/race.Acquire", "(*internal/sync.Mutex).lockSlow", "internal/sync.runtime_canSpin", "internal/sync.runtime_doSpin", "internal/sync.throw", "internal/sync.runtime_nanotime", "internal/sync.runtime_SemacquireMutex", "sync/atomic.AddInt32", "(*internal/sync.Mutex).Unlock", "internal/race.ReleaseMerge", "(*internal/sync.Mutex).unlockSlow", "internal/sync.fatal", "internal/sync.runtime_Semrelease", "sync/atomic.StoreUint32"], unfollowed := true, recurses := true, apart := false }
def PassiveOwnSaid : Prop := passiveOwnRow.holds Try.pinned (OpenSpec.ofChange passiveOwnSpec)

/-- ITS FALSE NEIGHBOUR: 'it returns false'. Refute it at one input. -/
def passiveOwnWrong : ChangeSpec := { name := "passiveOwn", fn := fun _ => fun
  | [d] => { results := [.lit (.bool false)], args := [d] }
  | _ => none }
def PassiveOwnWrongFalsely : Prop := passiveOwnRow.holds Try.pinned (OpenSpec.ofChange passiveOwnWrong)

/-- 'parapetlaw11.PassivePlays': WHATEVER THE INPUT: true; the input reads as it did. -/
def passivePlaysSpec : ChangeSpec := { name := "passivePlays", fn := fun _ => fun
  | [d1, d2] => { results := [.lit (.bool true)], args := [d1, d2] }
  | _ => none }
def passivePlaysRow : OpenClaim := { program := "ytlafkeijikbenab", sum := "966753c55a7f9b5dc857ed0341175c048695801701f0d20f4598b214bab2e28a", func := "parapet/parapetlaw11.PassivePlays", spec := "passivePlays", inPlace := ["sync/atomic.AddInt64", "sync/atomic.LoadUint32", "(*internal/sync.Mutex).Lock", "internal/race.Disable", "sync/atomic.CompareAndSwapInt32", "internal/race.Enable", "internal/race.Acquire", "(*internal/sync.Mutex).lockSlow", "internal/sync.runtime_canSpin", "internal/sync.runtime_doSpin", "internal/sync.throw", "internal/sync.runtime_nanotime", "internal/sync.runtime_SemacquireMutex", "sync/atomic.AddInt32", "(*internal/sync.Mutex).Unlock", "internal/race.ReleaseMerge", "(*internal/sync.Mutex).unlockSlow", "internal/sync.fatal", "internal/sync.runtime_Semrelease", "sync/atomic.StoreUint32", "sync/atomic.StoreInt64"], unfollowed := true, recurses := true, apart := false }
def PassivePlaysSaid : Prop := passivePlaysRow.holds Try.pinned (OpenSpec.ofChange passivePlaysSpec)

/-- ITS FALSE NEIGHBOUR: 'it returns false'. Refute it at one input. -/
def passivePlaysWrong : ChangeSpec := { name := "passivePlays", fn := fun _ => fun
  | [d1, d2] => { results := [.lit (.bool false)], args := [d1, d2] }
  | _ => none }
def PassivePlaysWrongFalsely : Prop := passivePlaysRow.holds Try.pinned (OpenSpec.ofChange passivePlaysWrong)

/-- 'parapetlaw11.PassiveLatch': WHATEVER THE INPUT: true; the input reads as it did. -/
def passiveLatchSpec : ChangeSpec := { name := "passiveLatch", fn := fun _ => fun
  | [d] => { results := [.lit (.bool true)], args := [d] }
  | _ => none }
def passiveLatchRow : OpenClaim := { program := "ytlafkeijikbenab", sum := "966753c55a7f9b5dc857ed0341175c048695801701f0d20f4598b214bab2e28a", func := "parapet/parapetlaw11.PassiveLatch", spec := "passiveLatch", inPlace := ["sync/atomic.AddInt64", "sync/atomic.LoadUint32", "(*internal/sync.Mutex).Lock", "internal/race.Disable", "sync/atomic.CompareAndSwapInt32", "internal/race.Enable", "internal/race.Acquire", "(*internal/sync.Mutex).lockSlow", "internal/sync.runtime_canSpin", "internal/sync.runtime_doSpin", "internal/sync.throw", "internal/sync.runtime_nanotime", "internal/sync.runtime_SemacquireMutex", "sync/atomic.AddInt32", "(*internal/sync.Mutex).Unlock", "internal/race.ReleaseMerge", "(*internal/sync.Mutex).unlockSlow", "internal/sync.fatal", "internal/sync.runtime_Semrelease", "sync/atomic.StoreUint32", "sync/atomic.StoreInt64"], unfollowed := true, recurses := true, apart := false }
def PassiveLatchSaid : Prop := passiveLatchRow.holds Try.pinned (OpenSpec.ofChange passiveLatchSpec)

/-- ITS FALSE NEIGHBOUR: 'it returns false'. Refute it at one input. -/
def passiveLatchWrong : ChangeSpec := { name := "passiveLatch", fn := fun _ => fun
  | [d] => { results := [.lit (.bool false)], args := [d] }
  | _ => none }
def PassiveLatchWrongFalsely : Prop := passiveLatchRow.holds Try.pinned (OpenSpec.ofChange passiveLatchWrong)

/-- 'parapetlaw11.PassiveWay': WHATEVER THE INPUT: true; the input reads as it did. -/
def passiveWaySpec : ChangeSpec := { name := "passiveWay", fn := fun _ => fun
  | [d1, d2, d3] => { results := [.lit (.bool true)], args := [d1, d2, d3] }
  | _ => none }
def passiveWayRow : OpenClaim := { program := "ytlafkeijikbenab", sum := "966753c55a7f9b5dc857ed0341175c048695801701f0d20f4598b214bab2e28a", func := "parapet/parapetlaw11.PassiveWay", spec := "passiveWay", inPlace := ["sync/atomic.AddInt64", "sync/atomic.LoadUint32", "(*internal/sync.Mutex).Lock", "internal/race.Disable", "sync/atomic.CompareAndSwapInt32", "internal/race.Enable", "internal/race.Acquire", "(*internal/sync.Mutex).lockSlow", "internal/sync.runtime_canSpin", "internal/sync.runtime_doSpin", "internal/sync.throw", "internal/sync.runtime_nanotime", "internal/sync.runtime_SemacquireMutex", "sync/atomic.AddInt32", "(*internal/sync.Mutex).Unlock", "internal/race.ReleaseMerge", "(*internal/sync.Mutex).unlockSlow", "internal/sync.fatal", "internal/sync.runtime_Semrelease", "sync/atomic.StoreUint32", "sync/atomic.StoreInt64"], unfollowed := true, recurses := true, apart := false }
def PassiveWaySaid : Prop := passiveWayRow.holds Try.pinned (OpenSpec.ofChange passiveWaySpec)

/-- ITS FALSE NEIGHBOUR: 'it returns false'. Refute it at one input. -/
def passiveWayWrong : ChangeSpec := { name := "passiveWay", fn := fun _ => fun
  | [d1, d2, d3] => { results := [.lit (.bool false)], args := [d1, d2, d3] }
  | _ => none }
def PassiveWayWrongFalsely : Prop := passiveWayRow.holds Try.pinned (OpenSpec.ofChange passiveWayWrong)

/-- 'parapetlaw11.PassiveNil': WHATEVER THE INPUT: true; the input reads as it did. -/
def passiveNilSpec : ChangeSpec := { name := "passiveNil", fn := fun _ => fun
  | [d] => { results := [.lit (.bool true)], args := [d] }
  | _ => none }
def passiveNilRow : OpenClaim := { program := "ytlafkeijikbenab", sum := "966753c55a7f9b5dc857ed0341175c048695801701f0d20f4598b214bab2e28a", func := "parapet/parapetlaw11.PassiveNil", spec := "passiveNil", inPlace := ["sync/atomic.AddInt64", "sync/atomic.LoadUint32", "(*internal/sync.Mutex).Lock", "internal/race.Disable", "sync/atomic.CompareAndSwapInt32", "internal/race.Enable", "internal/race.Acquire", "(*internal/sync.Mutex).lockSlow", "internal/sync.runtime_canSpin", "internal/sync.runtime_doSpin", "internal/sync.throw", "internal/sync.runtime_nanotime", "internal/sync.runtime_SemacquireMutex", "sync/atomic.AddInt32", "(*internal/sync.Mutex).Unlock", "internal/race.ReleaseMerge", "(*internal/sync.Mutex).unlockSlow", "internal/sync.fatal", "internal/sync.runtime_Semrelease", "sync/atomic.StoreUint32", "sync/atomic.StoreInt64"], unfollowed := true, recurses := true, apart := false }
def PassiveNilSaid : Prop := passiveNilRow.holds Try.pinned (OpenSpec.ofChange passiveNilSpec)

/-- ITS FALSE NEIGHBOUR: 'it returns false'. Refute it at one input. -/
def passiveNilWrong : ChangeSpec := { name := "passiveNil", fn := fun _ => fun
  | [d] => { results := [.lit (.bool false)], args := [d] }
  | _ => none }
def PassiveNilWrongFalsely : Prop := passiveNilRow.holds Try.pinned (OpenSpec.ofChange passiveNilWrong)

/-- 'parapetlaw15.BagFull': WHATEVER THE INPUT: true; the input reads as it did. -/
def bagFullSpec : ChangeSpec := { name := "bagFull", fn := fun _ => fun
  | [d] => { results := [.lit (.bool true)], args := [d] }
  | _ => none }
def bagFullRow : OpenClaim := { program := "ytlafkeijikbenab", sum := "966753c55a7f9b5dc857ed0341175c048695801701f0d20f4598b214bab2e28a", func := "parapet/parapetlaw15.BagFull", spec := "bagFull", inPlace := ["sync/atomic.LoadUint64", "sync/atomic.CompareAndSwapUint64", "sync/atomic.CompareAndSwapUint32", "sync/atomic.StoreInt64", "sync/atomic.LoadInt64", "sync/atomic.CompareAndSwapInt64"], apart := false }
def BagFullSaid : Prop := bagFullRow.holds Try.pinned (OpenSpec.ofChange bagFullSpec)

/-- ITS FALSE NEIGHBOUR: 'it returns false'. Refute it at one input. -/
def bagFullWrong : ChangeSpec := { name := "bagFull", fn := fun _ => fun
  | [d] => { results := [.lit (.bool false)], args := [d] }
  | _ => none }
def BagFullWrongFalsely : Prop := bagFullRow.holds Try.pinned (OpenSpec.ofChange bagFullWrong)

/-- 'parapetlaw15.BagOwn': WHATEVER THE INPUT: true; the input reads as it did. -/
def bagOwnSpec : ChangeSpec := { name := "bagOwn", fn := fun _ => fun
  | [d] => { results := [.lit (.bool true)], args := [d] }
  | _ => none }
def bagOwnRow : OpenClaim := { program := "ytlafkeijikbenab", sum := "966753c55a7f9b5dc857ed0341175c048695801701f0d20f4598b214bab2e28a", func := "parapet/parapetlaw15.BagOwn", spec := "bagOwn", inPlace := ["sync/atomic.LoadUint64", "sync/atomic.CompareAndSwapUint64", "sync/atomic.CompareAndSwapUint32", "sync/atomic.StoreInt64", "sync/atomic.LoadInt64", "sync/atomic.CompareAndSwapInt64"], apart := false }
def BagOwnSaid : Prop := bagOwnRow.holds Try.pinned (OpenSpec.ofChange bagOwnSpec)

/-- ITS FALSE NEIGHBOUR: 'it returns false'. Refute it at one input. -/
def bagOwnWrong : ChangeSpec := { name := "bagOwn", fn := fun _ => fun
  | [d] => { results := [.lit (.bool false)], args := [d] }
  | _ => none }
def BagOwnWrongFalsely : Prop := bagOwnRow.holds Try.pinned (OpenSpec.ofChange bagOwnWrong)

/-- 'parapetlaw15.BagPlays': WHATEVER THE INPUT: true; the input reads as it did. -/
def bagPlaysSpec : ChangeSpec := { name := "bagPlays", fn := fun _ => fun
  | [d] => { results := [.lit (.bool true)], args := [d] }
  | _ => none }
def bagPlaysRow : OpenClaim := { program := "ytlafkeijikbenab", sum := "966753c55a7f9b5dc857ed0341175c048695801701f0d20f4598b214bab2e28a", func := "parapet/parapetlaw15.BagPlays", spec := "bagPlays", inPlace := ["sync/atomic.LoadUint64", "sync/atomic.CompareAndSwapUint64", "sync/atomic.CompareAndSwapUint32", "sync/atomic.StoreInt64", "sync/atomic.LoadInt64", "sync/atomic.CompareAndSwapInt64", "sync/atomic.LoadUint32"], apart := false }
def BagPlaysSaid : Prop := bagPlaysRow.holds Try.pinned (OpenSpec.ofChange bagPlaysSpec)

/-- ITS FALSE NEIGHBOUR: 'it returns false'. Refute it at one input. -/
def bagPlaysWrong : ChangeSpec := { name := "bagPlays", fn := fun _ => fun
  | [d] => { results := [.lit (.bool false)], args := [d] }
  | _ => none }
def BagPlaysWrongFalsely : Prop := bagPlaysRow.holds Try.pinned (OpenSpec.ofChange bagPlaysWrong)

/-- 'parapetlaw15.BagNil': WHATEVER THE INPUT: true; the input reads as it did. -/
def bagNilSpec : ChangeSpec := { name := "bagNil", fn := fun _ => fun
  | [d] => { results := [.lit (.bool true)], args := [d] }
  | _ => none }
def bagNilRow : OpenClaim := { program := "ytlafkeijikbenab", sum := "966753c55a7f9b5dc857ed0341175c048695801701f0d20f4598b214bab2e28a", func := "parapet/parapetlaw15.BagNil", spec := "bagNil", inPlace := ["sync/atomic.LoadUint64", "sync/atomic.CompareAndSwapUint64", "sync/atomic.CompareAndSwapUint32", "sync/atomic.StoreInt64", "sync/atomic.LoadInt64", "sync/atomic.CompareAndSwapInt64", "sync/atomic.LoadUint32"], apart := false }
def BagNilSaid : Prop := bagNilRow.holds Try.pinned (OpenSpec.ofChange bagNilSpec)

/-- ITS FALSE NEIGHBOUR: 'it returns false'. Refute it at one input. -/
def bagNilWrong : ChangeSpec := { name := "bagNil", fn := fun _ => fun
  | [d] => { results := [.lit (.bool false)], args := [d] }
  | _ => none }
def BagNilWrongFalsely : Prop := bagNilRow.holds Try.pinned (OpenSpec.ofChange bagNilWrong)

/-- 'parapetlaw15.BagGarbles': WHATEVER THE INPUT: true; the input reads as it did. -/
def bagGarblesSpec : ChangeSpec := { name := "bagGarbles", fn := fun _ => fun
  | [d1, d2, d3] => { results := [.lit (.bool true)], args := [d1, d2, d3] }
  | _ => none }
def bagGarblesRow : OpenClaim := { program := "ytlafkeijikbenab", sum := "966753c55a7f9b5dc857ed0341175c048695801701f0d20f4598b214bab2e28a", func := "parapet/parapetlaw15.BagGarbles", spec := "bagGarbles", inPlace := ["sync/atomic.LoadUint64", "sync/atomic.CompareAndSwapUint64", "sync/atomic.CompareAndSwapUint32", "sync/atomic.StoreInt64", "sync/atomic.LoadInt64", "sync/atomic.CompareAndSwapInt64"], apart := false }
def BagGarblesSaid : Prop := bagGarblesRow.holds Try.pinned (OpenSpec.ofChange bagGarblesSpec)

/-- ITS FALSE NEIGHBOUR: 'it returns false'. Refute it at one input. -/
def bagGarblesWrong : ChangeSpec := { name := "bagGarbles", fn := fun _ => fun
  | [d1, d2, d3] => { results := [.lit (.bool false)], args := [d1, d2, d3] }
  | _ => none }
def BagGarblesWrongFalsely : Prop := bagGarblesRow.holds Try.pinned (OpenSpec.ofChange bagGarblesWrong)

/- THE SECOND FORM. 'bulk': how many values and letters a reading holds, each counted each time it is reached (what is shared counts as often as it is met; a slice's spare places count too). A statement '..UptoSaid' is the law's where the arguments, and the package variables that the reading takes, are together of bulk at most 1048576: NARROWER than '..Said'. Prove '..Said' where nothing that the law and all that it calls make is longer than what came in: it says more and counts as full. Else prove '..UptoSaid'. A law counts once. -/
mutual
def uptoBulk {H : Type} : DataW H → Nat
  | .lit (.string bytes) => bytes.length + 1
  | .lit _ => 1
  | .nil => 1
  | .ptr d => uptoBulk d + 1
  | .slice elems spare => uptoBulkAll elems + uptoBulkAll spare + 1
  | .agg parts => uptoBulkAll parts + 1
  | .iface _ d => uptoBulk d + 1
  | .map entries => uptoBulkEntries entries + 1
  | .held _ => 1
def uptoBulkAll {H : Type} : List (DataW H) → Nat
  | [] => 0
  | d :: r => uptoBulk d + uptoBulkAll r
def uptoBulkEntries {H : Type} : List (Lit × DataW H) → Nat
  | [] => 0
  | x :: r => uptoBulkEntry x + uptoBulkEntries r
def uptoBulkEntry {H : Type} : Lit × DataW H → Nat
  | (.string bytes, d) => bytes.length + uptoBulk d + 1
  | (_, d) => uptoBulk d + 1
 end
def uptoSmall : (H : Type) → List (DataW H) → Bool := fun _ ds => decide (uptoBulkAll ds ≤ 1048576)
def OpenSpec.upto (s : _root_.Go.ChangeSpec) : _root_.Go.OpenSpec := { _root_.Go.OpenSpec.ofChange s with cond := some uptoSmall }

/-- 'parapetlaw11.PassiveOwn', WHERE WHAT IT READS IS OF BULK AT MOST 1048576: true; the input reads as it did. -/
def passiveOwnUptoRow : OpenClaim := { program := "ytlafkeijikbenab", sum := "966753c55a7f9b5dc857ed0341175c048695801701f0d20f4598b214bab2e28a", func := "parapet/parapetlaw11.PassiveOwn", spec := "passiveOwn", inPlace := ["sync/atomic.AddInt64", "sync/atomic.LoadUint32", "(*internal/sync.Mutex).Lock", "internal/race.Disable", "sync/atomic.CompareAndSwapInt32", "internal/race.Enable", "internal/race.Acquire", "(*internal/sync.Mutex).lockSlow", "internal/sync.runtime_canSpin", "internal/sync.runtime_doSpin", "internal/sync.throw", "internal/sync.runtime_nanotime", "internal/sync.runtime_SemacquireMutex", "sync/atomic.AddInt32", "(*internal/sync.Mutex).Unlock", "internal/race.ReleaseMerge", "(*internal/sync.Mutex).unlockSlow", "internal/sync.fatal", "internal/sync.runtime_Semrelease", "sync/atomic.StoreUint32"], unfollowed := true, recurses := true, apart := false, narrowed := true }
def PassiveOwnUptoSaid : Prop := passiveOwnUptoRow.holds Try.pinned (OpenSpec.upto passiveOwnSpec)

/-- 'parapetlaw11.PassivePlays', WHERE WHAT IT READS IS OF BULK AT MOST 1048576: true; the input reads as it did. -/
def passivePlaysUptoRow : OpenClaim := { program := "ytlafkeijikbenab", sum := "966753c55a7f9b5dc857ed0341175c048695801701f0d20f4598b214bab2e28a", func := "parapet/parapetlaw11.PassivePlays", spec := "passivePlays", inPlace := ["sync/atomic.AddInt64", "sync/atomic.LoadUint32", "(*internal/sync.Mutex).Lock", "internal/race.Disable", "sync/atomic.CompareAndSwapInt32", "internal/race.Enable", "internal/race.Acquire", "(*internal/sync.Mutex).lockSlow", "internal/sync.runtime_canSpin", "internal/sync.runtime_doSpin", "internal/sync.throw", "internal/sync.runtime_nanotime", "internal/sync.runtime_SemacquireMutex", "sync/atomic.AddInt32", "(*internal/sync.Mutex).Unlock", "internal/race.ReleaseMerge", "(*internal/sync.Mutex).unlockSlow", "internal/sync.fatal", "internal/sync.runtime_Semrelease", "sync/atomic.StoreUint32", "sync/atomic.StoreInt64"], unfollowed := true, recurses := true, apart := false, narrowed := true }
def PassivePlaysUptoSaid : Prop := passivePlaysUptoRow.holds Try.pinned (OpenSpec.upto passivePlaysSpec)

/-- 'parapetlaw11.PassiveLatch', WHERE WHAT IT READS IS OF BULK AT MOST 1048576: true; the input reads as it did. -/
def passiveLatchUptoRow : OpenClaim := { program := "ytlafkeijikbenab", sum := "966753c55a7f9b5dc857ed0341175c048695801701f0d20f4598b214bab2e28a", func := "parapet/parapetlaw11.PassiveLatch", spec := "passiveLatch", inPlace := ["sync/atomic.AddInt64", "sync/atomic.LoadUint32", "(*internal/sync.Mutex).Lock", "internal/race.Disable", "sync/atomic.CompareAndSwapInt32", "internal/race.Enable", "internal/race.Acquire", "(*internal/sync.Mutex).lockSlow", "internal/sync.runtime_canSpin", "internal/sync.runtime_doSpin", "internal/sync.throw", "internal/sync.runtime_nanotime", "internal/sync.runtime_SemacquireMutex", "sync/atomic.AddInt32", "(*internal/sync.Mutex).Unlock", "internal/race.ReleaseMerge", "(*internal/sync.Mutex).unlockSlow", "internal/sync.fatal", "internal/sync.runtime_Semrelease", "sync/atomic.StoreUint32", "sync/atomic.StoreInt64"], unfollowed := true, recurses := true, apart := false, narrowed := true }
def PassiveLatchUptoSaid : Prop := passiveLatchUptoRow.holds Try.pinned (OpenSpec.upto passiveLatchSpec)

/-- 'parapetlaw11.PassiveWay', WHERE WHAT IT READS IS OF BULK AT MOST 1048576: true; the input reads as it did. -/
def passiveWayUptoRow : OpenClaim := { program := "ytlafkeijikbenab", sum := "966753c55a7f9b5dc857ed0341175c048695801701f0d20f4598b214bab2e28a", func := "parapet/parapetlaw11.PassiveWay", spec := "passiveWay", inPlace := ["sync/atomic.AddInt64", "sync/atomic.LoadUint32", "(*internal/sync.Mutex).Lock", "internal/race.Disable", "sync/atomic.CompareAndSwapInt32", "internal/race.Enable", "internal/race.Acquire", "(*internal/sync.Mutex).lockSlow", "internal/sync.runtime_canSpin", "internal/sync.runtime_doSpin", "internal/sync.throw", "internal/sync.runtime_nanotime", "internal/sync.runtime_SemacquireMutex", "sync/atomic.AddInt32", "(*internal/sync.Mutex).Unlock", "internal/race.ReleaseMerge", "(*internal/sync.Mutex).unlockSlow", "internal/sync.fatal", "internal/sync.runtime_Semrelease", "sync/atomic.StoreUint32", "sync/atomic.StoreInt64"], unfollowed := true, recurses := true, apart := false, narrowed := true }
def PassiveWayUptoSaid : Prop := passiveWayUptoRow.holds Try.pinned (OpenSpec.upto passiveWaySpec)

/-- 'parapetlaw11.PassiveNil', WHERE WHAT IT READS IS OF BULK AT MOST 1048576: true; the input reads as it did. -/
def passiveNilUptoRow : OpenClaim := { program := "ytlafkeijikbenab", sum := "966753c55a7f9b5dc857ed0341175c048695801701f0d20f4598b214bab2e28a", func := "parapet/parapetlaw11.PassiveNil", spec := "passiveNil", inPlace := ["sync/atomic.AddInt64", "sync/atomic.LoadUint32", "(*internal/sync.Mutex).Lock", "internal/race.Disable", "sync/atomic.CompareAndSwapInt32", "internal/race.Enable", "internal/race.Acquire", "(*internal/sync.Mutex).lockSlow", "internal/sync.runtime_canSpin", "internal/sync.runtime_doSpin", "internal/sync.throw", "internal/sync.runtime_nanotime", "internal/sync.runtime_SemacquireMutex", "sync/atomic.AddInt32", "(*internal/sync.Mutex).Unlock", "internal/race.ReleaseMerge", "(*internal/sync.Mutex).unlockSlow", "internal/sync.fatal", "internal/sync.runtime_Semrelease", "sync/atomic.StoreUint32", "sync/atomic.StoreInt64"], unfollowed := true, recurses := true, apart := false, narrowed := true }
def PassiveNilUptoSaid : Prop := passiveNilUptoRow.holds Try.pinned (OpenSpec.upto passiveNilSpec)

/-- 'parapetlaw15.BagFull', WHERE WHAT IT READS IS OF BULK AT MOST 1048576: true; the input reads as it did. -/
def bagFullUptoRow : OpenClaim := { program := "ytlafkeijikbenab", sum := "966753c55a7f9b5dc857ed0341175c048695801701f0d20f4598b214bab2e28a", func := "parapet/parapetlaw15.BagFull", spec := "bagFull", inPlace := ["sync/atomic.LoadUint64", "sync/atomic.CompareAndSwapUint64", "sync/atomic.CompareAndSwapUint32", "sync/atomic.StoreInt64", "sync/atomic.LoadInt64", "sync/atomic.CompareAndSwapInt64"], apart := false, narrowed := true }
def BagFullUptoSaid : Prop := bagFullUptoRow.holds Try.pinned (OpenSpec.upto bagFullSpec)

/-- 'parapetlaw15.BagOwn', WHERE WHAT IT READS IS OF BULK AT MOST 1048576: true; the input reads as it did. -/
def bagOwnUptoRow : OpenClaim := { program := "ytlafkeijikbenab", sum := "966753c55a7f9b5dc857ed0341175c048695801701f0d20f4598b214bab2e28a", func := "parapet/parapetlaw15.BagOwn", spec := "bagOwn", inPlace := ["sync/atomic.LoadUint64", "sync/atomic.CompareAndSwapUint64", "sync/atomic.CompareAndSwapUint32", "sync/atomic.StoreInt64", "sync/atomic.LoadInt64", "sync/atomic.CompareAndSwapInt64"], apart := false, narrowed := true }
def BagOwnUptoSaid : Prop := bagOwnUptoRow.holds Try.pinned (OpenSpec.upto bagOwnSpec)

/-- 'parapetlaw15.BagPlays', WHERE WHAT IT READS IS OF BULK AT MOST 1048576: true; the input reads as it did. -/
def bagPlaysUptoRow : OpenClaim := { program := "ytlafkeijikbenab", sum := "966753c55a7f9b5dc857ed0341175c048695801701f0d20f4598b214bab2e28a", func := "parapet/parapetlaw15.BagPlays", spec := "bagPlays", inPlace := ["sync/atomic.LoadUint64", "sync/atomic.CompareAndSwapUint64", "sync/atomic.CompareAndSwapUint32", "sync/atomic.StoreInt64", "sync/atomic.LoadInt64", "sync/atomic.CompareAndSwapInt64", "sync/atomic.LoadUint32"], apart := false, narrowed := true }
def BagPlaysUptoSaid : Prop := bagPlaysUptoRow.holds Try.pinned (OpenSpec.upto bagPlaysSpec)

/-- 'parapetlaw15.BagNil', WHERE WHAT IT READS IS OF BULK AT MOST 1048576: true; the input reads as it did. -/
def bagNilUptoRow : OpenClaim := { program := "ytlafkeijikbenab", sum := "966753c55a7f9b5dc857ed0341175c048695801701f0d20f4598b214bab2e28a", func := "parapet/parapetlaw15.BagNil", spec := "bagNil", inPlace := ["sync/atomic.LoadUint64", "sync/atomic.CompareAndSwapUint64", "sync/atomic.CompareAndSwapUint32", "sync/atomic.StoreInt64", "sync/atomic.LoadInt64", "sync/atomic.CompareAndSwapInt64", "sync/atomic.LoadUint32"], apart := false, narrowed := true }
def BagNilUptoSaid : Prop := bagNilUptoRow.holds Try.pinned (OpenSpec.upto bagNilSpec)

/-- 'parapetlaw15.BagGarbles', WHERE WHAT IT READS IS OF BULK AT MOST 1048576: true; the input reads as it did. -/
def bagGarblesUptoRow : OpenClaim := { program := "ytlafkeijikbenab", sum := "966753c55a7f9b5dc857ed0341175c048695801701f0d20f4598b214bab2e28a", func := "parapet/parapetlaw15.BagGarbles", spec := "bagGarbles", inPlace := ["sync/atomic.LoadUint64", "sync/atomic.CompareAndSwapUint64", "sync/atomic.CompareAndSwapUint32", "sync/atomic.StoreInt64", "sync/atomic.LoadInt64", "sync/atomic.CompareAndSwapInt64"], apart := false, narrowed := true }
def BagGarblesUptoSaid : Prop := bagGarblesUptoRow.holds Try.pinned (OpenSpec.upto bagGarblesSpec)

end Rows
end Go.Proofs.Ytlafkeijikbenab
