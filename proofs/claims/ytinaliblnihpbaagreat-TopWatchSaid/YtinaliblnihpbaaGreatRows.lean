/-
  No cell of these rows narrows 'for every input' (looked for: loops, veiled, ifaces, maps, wideKeys, modest, calm, conditions, laid).
  DERIVED. THE GIVEN ROWS OF THIS SEAT. 7 by the template 'for every input the law returns true; each argument reads behind the call as it read before'; 0 by the template 'total and deterministic' (their statements: YtinaliblnihpbaaGreatTotals.lean).
  GIVEN WITH THE SEED: the statements are not yours to turn. If you find one false, say at which input.
  Laid BY PROGRAM, IN A SANDBOX (cutbox-rows.mjs): the forced cells as the released guide's own fill.sh prints them over the translation 3cc8dce658cd5ec8… (all of the seat's roots in one cut). By AI agents, Wed Nov 11 2026. No macro, syntax, notation, axiom, sorry.
-/
import Derived.Test.YtinaliblnihpbaaGreatChecked
import GoSem.Claim
import GoSem.ClaimJoined
import GoSem.ClaimMapViews
import Derived.JoinedTies
import Derived.KernelRfl
namespace Go.Proofs.YtinaliblnihpbaaGreat
/- THE CELL 'sum', in the pinned program and in every row, IS THE sha256 OF THE DUMP (.gsa) THAT YtinaliblnihpbaaGreatProg.lean LOADS. Nothing in Lean hashes anything: it is a label: what it is worth is what the hold of that sum in a sandbox is worth. -/
noncomputable def Tryz.pinned : Pinned := { name := "ytinaliblnihpbaagreat", sum := "3cc8dce658cd5ec88f88e63a026448189d0332530e993ff65d3981742bce2964", checked := Tryz.checked }
namespace Rows
def none {H : Type} : Left H := { results := [], args := [] }

/-- 'parapettop.TopWatch': WHATEVER THE INPUT: true; the input reads as it did. -/
def topWatchSpec : ChangeSpec := { name := "topWatch", fn := fun _ => fun
  | [d] => { results := [.lit (.bool true)], args := [d] }
  | _ => none }
def topWatchRow : OpenClaim := { program := "ytinaliblnihpbaagreat", sum := "3cc8dce658cd5ec88f88e63a026448189d0332530e993ff65d3981742bce2964", func := "parapet/parapettop.TopWatch", spec := "topWatch", inPlace := ["sync/atomic.LoadUint32", "sync/atomic.StoreUint32", "sync/atomic.AddInt64", "(*internal/sync.Mutex).Lock", "internal/race.Disable", "sync/atomic.CompareAndSwapInt32", "internal/race.Enable", "internal/race.Acquire", "(*internal/sync.Mutex).lockSlow", "internal/sync.runtime_canSpin", "internal/sync.runtime_doSpin", "internal/sync.throw", "internal/sync.runtime_nanotime", "internal/sync.runtime_SemacquireMutex", "sync/atomic.AddInt32", "(*internal/sync.Mutex).Unlock", "internal/race.ReleaseMerge", "(*internal/sync.Mutex).unlockSlow", "internal/sync.fatal", "internal/sync.runtime_Semrelease", "sync/atomic.LoadUint64", "sync/atomic.CompareAndSwapUint64", "sync/atomic.SwapPointer", "sync/atomic.CompareAndSwapUint32", "sync/atomic.StoreInt64", "sync/atomic.LoadInt64", "sync/atomic.CompareAndSwapInt64", "sync/atomic.StoreInt32", "sync/atomic.LoadInt32"], unfollowed := true, recurses := true, apart := false }
def TopWatchSaid : Prop := topWatchRow.holds Tryz.pinned (OpenSpec.ofChange topWatchSpec)

/-- ITS FALSE NEIGHBOUR: 'it returns false'. Refute it at one input. -/
def topWatchWrong : ChangeSpec := { name := "topWatch", fn := fun _ => fun
  | [d] => { results := [.lit (.bool false)], args := [d] }
  | _ => none }
def TopWatchWrongFalsely : Prop := topWatchRow.holds Tryz.pinned (OpenSpec.ofChange topWatchWrong)

/-- 'parapettop.TopLatch': WHATEVER THE INPUT: true; the input reads as it did. -/
def topLatchSpec : ChangeSpec := { name := "topLatch", fn := fun _ => fun
  | [d] => { results := [.lit (.bool true)], args := [d] }
  | _ => none }
def topLatchRow : OpenClaim := { program := "ytinaliblnihpbaagreat", sum := "3cc8dce658cd5ec88f88e63a026448189d0332530e993ff65d3981742bce2964", func := "parapet/parapettop.TopLatch", spec := "topLatch", inPlace := ["sync/atomic.LoadUint32", "sync/atomic.StoreUint32", "sync/atomic.AddInt64", "(*internal/sync.Mutex).Lock", "internal/race.Disable", "sync/atomic.CompareAndSwapInt32", "internal/race.Enable", "internal/race.Acquire", "(*internal/sync.Mutex).lockSlow", "internal/sync.runtime_canSpin", "internal/sync.runtime_doSpin", "internal/sync.throw", "internal/sync.runtime_nanotime", "internal/sync.runtime_SemacquireMutex", "sync/atomic.AddInt32", "(*internal/sync.Mutex).Unlock", "internal/race.ReleaseMerge", "(*internal/sync.Mutex).unlockSlow", "internal/sync.fatal", "internal/sync.runtime_Semrelease", "sync/atomic.LoadUint64", "sync/atomic.CompareAndSwapUint64", "sync/atomic.SwapPointer", "sync/atomic.CompareAndSwapUint32", "sync/atomic.StoreInt64", "sync/atomic.LoadInt64", "sync/atomic.CompareAndSwapInt64", "sync/atomic.StoreInt32", "sync/atomic.LoadInt32"], unfollowed := true, recurses := true, apart := false }
def TopLatchSaid : Prop := topLatchRow.holds Tryz.pinned (OpenSpec.ofChange topLatchSpec)

/-- ITS FALSE NEIGHBOUR: 'it returns false'. Refute it at one input. -/
def topLatchWrong : ChangeSpec := { name := "topLatch", fn := fun _ => fun
  | [d] => { results := [.lit (.bool false)], args := [d] }
  | _ => none }
def TopLatchWrongFalsely : Prop := topLatchRow.holds Tryz.pinned (OpenSpec.ofChange topLatchWrong)

/-- 'parapettop.TopGarbled': WHATEVER THE INPUT: true; the input reads as it did. -/
def topGarbledSpec : ChangeSpec := { name := "topGarbled", fn := fun _ => fun
  | [d1, d2] => { results := [.lit (.bool true)], args := [d1, d2] }
  | _ => none }
def topGarbledRow : OpenClaim := { program := "ytinaliblnihpbaagreat", sum := "3cc8dce658cd5ec88f88e63a026448189d0332530e993ff65d3981742bce2964", func := "parapet/parapettop.TopGarbled", spec := "topGarbled", inPlace := ["sync/atomic.LoadUint32", "sync/atomic.StoreUint32", "sync/atomic.AddInt64", "(*internal/sync.Mutex).Lock", "internal/race.Disable", "sync/atomic.CompareAndSwapInt32", "internal/race.Enable", "internal/race.Acquire", "(*internal/sync.Mutex).lockSlow", "internal/sync.runtime_canSpin", "internal/sync.runtime_doSpin", "internal/sync.throw", "internal/sync.runtime_nanotime", "internal/sync.runtime_SemacquireMutex", "sync/atomic.AddInt32", "(*internal/sync.Mutex).Unlock", "internal/race.ReleaseMerge", "(*internal/sync.Mutex).unlockSlow", "internal/sync.fatal", "internal/sync.runtime_Semrelease", "sync/atomic.LoadUint64", "sync/atomic.CompareAndSwapUint64", "sync/atomic.SwapPointer", "sync/atomic.CompareAndSwapUint32", "sync/atomic.StoreInt64", "sync/atomic.LoadInt64", "sync/atomic.CompareAndSwapInt64", "sync/atomic.StoreInt32", "sync/atomic.LoadInt32"], unfollowed := true, recurses := true, apart := false }
def TopGarbledSaid : Prop := topGarbledRow.holds Tryz.pinned (OpenSpec.ofChange topGarbledSpec)

/-- ITS FALSE NEIGHBOUR: 'it returns false'. Refute it at one input. -/
def topGarbledWrong : ChangeSpec := { name := "topGarbled", fn := fun _ => fun
  | [d1, d2] => { results := [.lit (.bool false)], args := [d1, d2] }
  | _ => none }
def TopGarbledWrongFalsely : Prop := topGarbledRow.holds Tryz.pinned (OpenSpec.ofChange topGarbledWrong)

/-- 'parapettop.TopDevice': WHATEVER THE INPUT: true; the input reads as it did. -/
def topDeviceSpec : ChangeSpec := { name := "topDevice", fn := fun _ => fun
  | [d] => { results := [.lit (.bool true)], args := [d] }
  | _ => none }
def topDeviceRow : OpenClaim := { program := "ytinaliblnihpbaagreat", sum := "3cc8dce658cd5ec88f88e63a026448189d0332530e993ff65d3981742bce2964", func := "parapet/parapettop.TopDevice", spec := "topDevice", inPlace := ["sync/atomic.LoadUint32", "sync/atomic.StoreUint32", "sync/atomic.AddInt64", "(*internal/sync.Mutex).Lock", "internal/race.Disable", "sync/atomic.CompareAndSwapInt32", "internal/race.Enable", "internal/race.Acquire", "(*internal/sync.Mutex).lockSlow", "internal/sync.runtime_canSpin", "internal/sync.runtime_doSpin", "internal/sync.throw", "internal/sync.runtime_nanotime", "internal/sync.runtime_SemacquireMutex", "sync/atomic.AddInt32", "(*internal/sync.Mutex).Unlock", "internal/race.ReleaseMerge", "(*internal/sync.Mutex).unlockSlow", "internal/sync.fatal", "internal/sync.runtime_Semrelease", "sync/atomic.LoadUint64", "sync/atomic.CompareAndSwapUint64", "sync/atomic.SwapPointer", "sync/atomic.CompareAndSwapUint32", "sync/atomic.StoreInt64", "sync/atomic.LoadInt64", "sync/atomic.CompareAndSwapInt64", "sync/atomic.StoreInt32", "sync/atomic.LoadInt32"], unfollowed := true, recurses := true, apart := false }
def TopDeviceSaid : Prop := topDeviceRow.holds Tryz.pinned (OpenSpec.ofChange topDeviceSpec)

/-- ITS FALSE NEIGHBOUR: 'it returns false'. Refute it at one input. -/
def topDeviceWrong : ChangeSpec := { name := "topDevice", fn := fun _ => fun
  | [d] => { results := [.lit (.bool false)], args := [d] }
  | _ => none }
def TopDeviceWrongFalsely : Prop := topDeviceRow.holds Tryz.pinned (OpenSpec.ofChange topDeviceWrong)

/-- 'parapettop.TopHost': WHATEVER THE INPUT: true; the input reads as it did. -/
def topHostSpec : ChangeSpec := { name := "topHost", fn := fun _ => fun
  | [d] => { results := [.lit (.bool true)], args := [d] }
  | _ => none }
def topHostRow : OpenClaim := { program := "ytinaliblnihpbaagreat", sum := "3cc8dce658cd5ec88f88e63a026448189d0332530e993ff65d3981742bce2964", func := "parapet/parapettop.TopHost", spec := "topHost", inPlace := ["sync/atomic.LoadUint32", "sync/atomic.StoreUint32", "sync/atomic.AddInt64", "(*internal/sync.Mutex).Lock", "internal/race.Disable", "sync/atomic.CompareAndSwapInt32", "internal/race.Enable", "internal/race.Acquire", "(*internal/sync.Mutex).lockSlow", "internal/sync.runtime_canSpin", "internal/sync.runtime_doSpin", "internal/sync.throw", "internal/sync.runtime_nanotime", "internal/sync.runtime_SemacquireMutex", "sync/atomic.AddInt32", "(*internal/sync.Mutex).Unlock", "internal/race.ReleaseMerge", "(*internal/sync.Mutex).unlockSlow", "internal/sync.fatal", "internal/sync.runtime_Semrelease", "sync/atomic.LoadUint64", "sync/atomic.CompareAndSwapUint64", "sync/atomic.SwapPointer", "sync/atomic.CompareAndSwapUint32", "sync/atomic.StoreInt64", "sync/atomic.LoadInt64", "sync/atomic.CompareAndSwapInt64", "sync/atomic.StoreInt32", "sync/atomic.LoadInt32"], unfollowed := true, recurses := true, apart := false }
def TopHostSaid : Prop := topHostRow.holds Tryz.pinned (OpenSpec.ofChange topHostSpec)

/-- ITS FALSE NEIGHBOUR: 'it returns false'. Refute it at one input. -/
def topHostWrong : ChangeSpec := { name := "topHost", fn := fun _ => fun
  | [d] => { results := [.lit (.bool false)], args := [d] }
  | _ => none }
def TopHostWrongFalsely : Prop := topHostRow.holds Tryz.pinned (OpenSpec.ofChange topHostWrong)

/-- 'parapettop.TopForeign': WHATEVER THE INPUT: true; the input reads as it did. -/
def topForeignSpec : ChangeSpec := { name := "topForeign", fn := fun _ => fun
  | [d1, d2, d3, d4] => { results := [.lit (.bool true)], args := [d1, d2, d3, d4] }
  | _ => none }
def topForeignRow : OpenClaim := { program := "ytinaliblnihpbaagreat", sum := "3cc8dce658cd5ec88f88e63a026448189d0332530e993ff65d3981742bce2964", func := "parapet/parapettop.TopForeign", spec := "topForeign", inPlace := ["sync/atomic.LoadUint32", "sync/atomic.StoreUint32", "sync/atomic.AddInt64", "(*internal/sync.Mutex).Lock", "internal/race.Disable", "sync/atomic.CompareAndSwapInt32", "internal/race.Enable", "internal/race.Acquire", "(*internal/sync.Mutex).lockSlow", "internal/sync.runtime_canSpin", "internal/sync.runtime_doSpin", "internal/sync.throw", "internal/sync.runtime_nanotime", "internal/sync.runtime_SemacquireMutex", "sync/atomic.AddInt32", "(*internal/sync.Mutex).Unlock", "internal/race.ReleaseMerge", "(*internal/sync.Mutex).unlockSlow", "internal/sync.fatal", "internal/sync.runtime_Semrelease", "sync/atomic.LoadUint64", "sync/atomic.CompareAndSwapUint64", "sync/atomic.SwapPointer", "sync/atomic.CompareAndSwapUint32", "sync/atomic.StoreInt64", "sync/atomic.LoadInt64", "sync/atomic.CompareAndSwapInt64", "sync/atomic.StoreInt32", "sync/atomic.LoadInt32"], unfollowed := true, recurses := true, apart := false }
def TopForeignSaid : Prop := topForeignRow.holds Tryz.pinned (OpenSpec.ofChange topForeignSpec)

/-- ITS FALSE NEIGHBOUR: 'it returns false'. Refute it at one input. -/
def topForeignWrong : ChangeSpec := { name := "topForeign", fn := fun _ => fun
  | [d1, d2, d3, d4] => { results := [.lit (.bool false)], args := [d1, d2, d3, d4] }
  | _ => none }
def TopForeignWrongFalsely : Prop := topForeignRow.holds Tryz.pinned (OpenSpec.ofChange topForeignWrong)

/-- 'parapettop.TopOperator': WHATEVER THE INPUT: true; the input reads as it did. -/
def topOperatorSpec : ChangeSpec := { name := "topOperator", fn := fun _ => fun
  | [d] => { results := [.lit (.bool true)], args := [d] }
  | _ => none }
def topOperatorRow : OpenClaim := { program := "ytinaliblnihpbaagreat", sum := "3cc8dce658cd5ec88f88e63a026448189d0332530e993ff65d3981742bce2964", func := "parapet/parapettop.TopOperator", spec := "topOperator", inPlace := ["sync/atomic.LoadUint32", "sync/atomic.StoreUint32", "sync/atomic.LoadInt32", "sync/atomic.AddInt64", "(*internal/sync.Mutex).Lock", "internal/race.Disable", "sync/atomic.CompareAndSwapInt32", "internal/race.Enable", "internal/race.Acquire", "(*internal/sync.Mutex).lockSlow", "internal/sync.runtime_canSpin", "internal/sync.runtime_doSpin", "internal/sync.throw", "internal/sync.runtime_nanotime", "internal/sync.runtime_SemacquireMutex", "sync/atomic.AddInt32", "(*internal/sync.Mutex).Unlock", "internal/race.ReleaseMerge", "(*internal/sync.Mutex).unlockSlow", "internal/sync.fatal", "internal/sync.runtime_Semrelease", "sync/atomic.LoadUint64", "sync/atomic.CompareAndSwapUint64", "sync/atomic.SwapPointer", "sync/atomic.CompareAndSwapUint32", "sync/atomic.StoreInt64", "sync/atomic.LoadInt64", "sync/atomic.CompareAndSwapInt64", "sync/atomic.StoreInt32"], unfollowed := true, recurses := true, apart := false }
def TopOperatorSaid : Prop := topOperatorRow.holds Tryz.pinned (OpenSpec.ofChange topOperatorSpec)

/-- ITS FALSE NEIGHBOUR: 'it returns false'. Refute it at one input. -/
def topOperatorWrong : ChangeSpec := { name := "topOperator", fn := fun _ => fun
  | [d] => { results := [.lit (.bool false)], args := [d] }
  | _ => none }
def TopOperatorWrongFalsely : Prop := topOperatorRow.holds Tryz.pinned (OpenSpec.ofChange topOperatorWrong)

/- THE SECOND FORM. 'bulk': how many values and letters a reading holds, each counted each time it is reached (what is shared counts as often as it is met; a slice's spare places count too). A statement '..UptoSaid' is the law's where the arguments, and the package variables that the reading takes, are together of bulk at most 1048576: NARROWER than '..Said'. Prove '..Said' where nothing that the law and all that it calls make is longer than what came in: it says more and counts as full. Else prove '..UptoSaid'. A law counts once. -/
mutual
def uptoBulk {H : Type} : DataW H → Nat
  | .lit (.string bytes) => bytes.length + 1
  | .lit _ => 1
  | .nil => 1
  | .ptr d => uptoBulk d + 1
  | .slice elems spare => uptoBulkAll elems + uptoBulkAll spare + 1
  | .agg parts => uptoBulkAll parts + 1
  | .iface _ d => uptoBulk d + 1
  | .map entries => uptoBulkEntries entries + 1
  | .held _ => 1
def uptoBulkAll {H : Type} : List (DataW H) → Nat
  | [] => 0
  | d :: r => uptoBulk d + uptoBulkAll r
def uptoBulkEntries {H : Type} : List (Lit × DataW H) → Nat
  | [] => 0
  | x :: r => uptoBulkEntry x + uptoBulkEntries r
def uptoBulkEntry {H : Type} : Lit × DataW H → Nat
  | (.string bytes, d) => bytes.length + uptoBulk d + 1
  | (_, d) => uptoBulk d + 1
 end
def uptoSmall : (H : Type) → List (DataW H) → Bool := fun _ ds => decide (uptoBulkAll ds ≤ 1048576)
def OpenSpec.upto (s : _root_.Go.ChangeSpec) : _root_.Go.OpenSpec := { _root_.Go.OpenSpec.ofChange s with cond := some uptoSmall }

/-- 'parapettop.TopWatch', WHERE WHAT IT READS IS OF BULK AT MOST 1048576: true; the input reads as it did. -/
def topWatchUptoRow : OpenClaim := { program := "ytinaliblnihpbaagreat", sum := "3cc8dce658cd5ec88f88e63a026448189d0332530e993ff65d3981742bce2964", func := "parapet/parapettop.TopWatch", spec := "topWatch", inPlace := ["sync/atomic.LoadUint32", "sync/atomic.StoreUint32", "sync/atomic.AddInt64", "(*internal/sync.Mutex).Lock", "internal/race.Disable", "sync/atomic.CompareAndSwapInt32", "internal/race.Enable", "internal/race.Acquire", "(*internal/sync.Mutex).lockSlow", "internal/sync.runtime_canSpin", "internal/sync.runtime_doSpin", "internal/sync.throw", "internal/sync.runtime_nanotime", "internal/sync.runtime_SemacquireMutex", "sync/atomic.AddInt32", "(*internal/sync.Mutex).Unlock", "internal/race.ReleaseMerge", "(*internal/sync.Mutex).unlockSlow", "internal/sync.fatal", "internal/sync.runtime_Semrelease", "sync/atomic.LoadUint64", "sync/atomic.CompareAndSwapUint64", "sync/atomic.SwapPointer", "sync/atomic.CompareAndSwapUint32", "sync/atomic.StoreInt64", "sync/atomic.LoadInt64", "sync/atomic.CompareAndSwapInt64", "sync/atomic.StoreInt32", "sync/atomic.LoadInt32"], unfollowed := true, recurses := true, apart := false, narrowed := true }
def TopWatchUptoSaid : Prop := topWatchUptoRow.holds Tryz.pinned (OpenSpec.upto topWatchSpec)

/-- 'parapettop.TopLatch', WHERE WHAT IT READS IS OF BULK AT MOST 1048576: true; the input reads as it did. -/
def topLatchUptoRow : OpenClaim := { program := "ytinaliblnihpbaagreat", sum := "3cc8dce658cd5ec88f88e63a026448189d0332530e993ff65d3981742bce2964", func := "parapet/parapettop.TopLatch", spec := "topLatch", inPlace := ["sync/atomic.LoadUint32", "sync/atomic.StoreUint32", "sync/atomic.AddInt64", "(*internal/sync.Mutex).Lock", "internal/race.Disable", "sync/atomic.CompareAndSwapInt32", "internal/race.Enable", "internal/race.Acquire", "(*internal/sync.Mutex).lockSlow", "internal/sync.runtime_canSpin", "internal/sync.runtime_doSpin", "internal/sync.throw", "internal/sync.runtime_nanotime", "internal/sync.runtime_SemacquireMutex", "sync/atomic.AddInt32", "(*internal/sync.Mutex).Unlock", "internal/race.ReleaseMerge", "(*internal/sync.Mutex).unlockSlow", "internal/sync.fatal", "internal/sync.runtime_Semrelease", "sync/atomic.LoadUint64", "sync/atomic.CompareAndSwapUint64", "sync/atomic.SwapPointer", "sync/atomic.CompareAndSwapUint32", "sync/atomic.StoreInt64", "sync/atomic.LoadInt64", "sync/atomic.CompareAndSwapInt64", "sync/atomic.StoreInt32", "sync/atomic.LoadInt32"], unfollowed := true, recurses := true, apart := false, narrowed := true }
def TopLatchUptoSaid : Prop := topLatchUptoRow.holds Tryz.pinned (OpenSpec.upto topLatchSpec)

/-- 'parapettop.TopGarbled', WHERE WHAT IT READS IS OF BULK AT MOST 1048576: true; the input reads as it did. -/
def topGarbledUptoRow : OpenClaim := { program := "ytinaliblnihpbaagreat", sum := "3cc8dce658cd5ec88f88e63a026448189d0332530e993ff65d3981742bce2964", func := "parapet/parapettop.TopGarbled", spec := "topGarbled", inPlace := ["sync/atomic.LoadUint32", "sync/atomic.StoreUint32", "sync/atomic.AddInt64", "(*internal/sync.Mutex).Lock", "internal/race.Disable", "sync/atomic.CompareAndSwapInt32", "internal/race.Enable", "internal/race.Acquire", "(*internal/sync.Mutex).lockSlow", "internal/sync.runtime_canSpin", "internal/sync.runtime_doSpin", "internal/sync.throw", "internal/sync.runtime_nanotime", "internal/sync.runtime_SemacquireMutex", "sync/atomic.AddInt32", "(*internal/sync.Mutex).Unlock", "internal/race.ReleaseMerge", "(*internal/sync.Mutex).unlockSlow", "internal/sync.fatal", "internal/sync.runtime_Semrelease", "sync/atomic.LoadUint64", "sync/atomic.CompareAndSwapUint64", "sync/atomic.SwapPointer", "sync/atomic.CompareAndSwapUint32", "sync/atomic.StoreInt64", "sync/atomic.LoadInt64", "sync/atomic.CompareAndSwapInt64", "sync/atomic.StoreInt32", "sync/atomic.LoadInt32"], unfollowed := true, recurses := true, apart := false, narrowed := true }
def TopGarbledUptoSaid : Prop := topGarbledUptoRow.holds Tryz.pinned (OpenSpec.upto topGarbledSpec)

/-- 'parapettop.TopDevice', WHERE WHAT IT READS IS OF BULK AT MOST 1048576: true; the input reads as it did. -/
def topDeviceUptoRow : OpenClaim := { program := "ytinaliblnihpbaagreat", sum := "3cc8dce658cd5ec88f88e63a026448189d0332530e993ff65d3981742bce2964", func := "parapet/parapettop.TopDevice", spec := "topDevice", inPlace := ["sync/atomic.LoadUint32", "sync/atomic.StoreUint32", "sync/atomic.AddInt64", "(*internal/sync.Mutex).Lock", "internal/race.Disable", "sync/atomic.CompareAndSwapInt32", "internal/race.Enable", "internal/race.Acquire", "(*internal/sync.Mutex).lockSlow", "internal/sync.runtime_canSpin", "internal/sync.runtime_doSpin", "internal/sync.throw", "internal/sync.runtime_nanotime", "internal/sync.runtime_SemacquireMutex", "sync/atomic.AddInt32", "(*internal/sync.Mutex).Unlock", "internal/race.ReleaseMerge", "(*internal/sync.Mutex).unlockSlow", "internal/sync.fatal", "internal/sync.runtime_Semrelease", "sync/atomic.LoadUint64", "sync/atomic.CompareAndSwapUint64", "sync/atomic.SwapPointer", "sync/atomic.CompareAndSwapUint32", "sync/atomic.StoreInt64", "sync/atomic.LoadInt64", "sync/atomic.CompareAndSwapInt64", "sync/atomic.StoreInt32", "sync/atomic.LoadInt32"], unfollowed := true, recurses := true, apart := false, narrowed := true }
def TopDeviceUptoSaid : Prop := topDeviceUptoRow.holds Tryz.pinned (OpenSpec.upto topDeviceSpec)

/-- 'parapettop.TopHost', WHERE WHAT IT READS IS OF BULK AT MOST 1048576: true; the input reads as it did. -/
def topHostUptoRow : OpenClaim := { program := "ytinaliblnihpbaagreat", sum := "3cc8dce658cd5ec88f88e63a026448189d0332530e993ff65d3981742bce2964", func := "parapet/parapettop.TopHost", spec := "topHost", inPlace := ["sync/atomic.LoadUint32", "sync/atomic.StoreUint32", "sync/atomic.AddInt64", "(*internal/sync.Mutex).Lock", "internal/race.Disable", "sync/atomic.CompareAndSwapInt32", "internal/race.Enable", "internal/race.Acquire", "(*internal/sync.Mutex).lockSlow", "internal/sync.runtime_canSpin", "internal/sync.runtime_doSpin", "internal/sync.throw", "internal/sync.runtime_nanotime", "internal/sync.runtime_SemacquireMutex", "sync/atomic.AddInt32", "(*internal/sync.Mutex).Unlock", "internal/race.ReleaseMerge", "(*internal/sync.Mutex).unlockSlow", "internal/sync.fatal", "internal/sync.runtime_Semrelease", "sync/atomic.LoadUint64", "sync/atomic.CompareAndSwapUint64", "sync/atomic.SwapPointer", "sync/atomic.CompareAndSwapUint32", "sync/atomic.StoreInt64", "sync/atomic.LoadInt64", "sync/atomic.CompareAndSwapInt64", "sync/atomic.StoreInt32", "sync/atomic.LoadInt32"], unfollowed := true, recurses := true, apart := false, narrowed := true }
def TopHostUptoSaid : Prop := topHostUptoRow.holds Tryz.pinned (OpenSpec.upto topHostSpec)

/-- 'parapettop.TopForeign', WHERE WHAT IT READS IS OF BULK AT MOST 1048576: true; the input reads as it did. -/
def topForeignUptoRow : OpenClaim := { program := "ytinaliblnihpbaagreat", sum := "3cc8dce658cd5ec88f88e63a026448189d0332530e993ff65d3981742bce2964", func := "parapet/parapettop.TopForeign", spec := "topForeign", inPlace := ["sync/atomic.LoadUint32", "sync/atomic.StoreUint32", "sync/atomic.AddInt64", "(*internal/sync.Mutex).Lock", "internal/race.Disable", "sync/atomic.CompareAndSwapInt32", "internal/race.Enable", "internal/race.Acquire", "(*internal/sync.Mutex).lockSlow", "internal/sync.runtime_canSpin", "internal/sync.runtime_doSpin", "internal/sync.throw", "internal/sync.runtime_nanotime", "internal/sync.runtime_SemacquireMutex", "sync/atomic.AddInt32", "(*internal/sync.Mutex).Unlock", "internal/race.ReleaseMerge", "(*internal/sync.Mutex).unlockSlow", "internal/sync.fatal", "internal/sync.runtime_Semrelease", "sync/atomic.LoadUint64", "sync/atomic.CompareAndSwapUint64", "sync/atomic.SwapPointer", "sync/atomic.CompareAndSwapUint32", "sync/atomic.StoreInt64", "sync/atomic.LoadInt64", "sync/atomic.CompareAndSwapInt64", "sync/atomic.StoreInt32", "sync/atomic.LoadInt32"], unfollowed := true, recurses := true, apart := false, narrowed := true }
def TopForeignUptoSaid : Prop := topForeignUptoRow.holds Tryz.pinned (OpenSpec.upto topForeignSpec)

/-- 'parapettop.TopOperator', WHERE WHAT IT READS IS OF BULK AT MOST 1048576: true; the input reads as it did. -/
def topOperatorUptoRow : OpenClaim := { program := "ytinaliblnihpbaagreat", sum := "3cc8dce658cd5ec88f88e63a026448189d0332530e993ff65d3981742bce2964", func := "parapet/parapettop.TopOperator", spec := "topOperator", inPlace := ["sync/atomic.LoadUint32", "sync/atomic.StoreUint32", "sync/atomic.LoadInt32", "sync/atomic.AddInt64", "(*internal/sync.Mutex).Lock", "internal/race.Disable", "sync/atomic.CompareAndSwapInt32", "internal/race.Enable", "internal/race.Acquire", "(*internal/sync.Mutex).lockSlow", "internal/sync.runtime_canSpin", "internal/sync.runtime_doSpin", "internal/sync.throw", "internal/sync.runtime_nanotime", "internal/sync.runtime_SemacquireMutex", "sync/atomic.AddInt32", "(*internal/sync.Mutex).Unlock", "internal/race.ReleaseMerge", "(*internal/sync.Mutex).unlockSlow", "internal/sync.fatal", "internal/sync.runtime_Semrelease", "sync/atomic.LoadUint64", "sync/atomic.CompareAndSwapUint64", "sync/atomic.SwapPointer", "sync/atomic.CompareAndSwapUint32", "sync/atomic.StoreInt64", "sync/atomic.LoadInt64", "sync/atomic.CompareAndSwapInt64", "sync/atomic.StoreInt32"], unfollowed := true, recurses := true, apart := false, narrowed := true }
def TopOperatorUptoSaid : Prop := topOperatorUptoRow.holds Tryz.pinned (OpenSpec.upto topOperatorSpec)

end Rows
end Go.Proofs.YtinaliblnihpbaaGreat
