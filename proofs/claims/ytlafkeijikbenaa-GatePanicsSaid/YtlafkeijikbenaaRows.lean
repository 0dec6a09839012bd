/-
  No cell of these rows narrows 'for every input' (looked for: loops, veiled, ifaces, maps, wideKeys, modest, calm, conditions, laid).
  DERIVED. THE GIVEN ROWS OF THIS SEAT. 10 by the template 'for every input the law returns true; each argument reads behind the call as it read before'; 0 by the template 'total and deterministic' (their statements: YtlafkeijikbenaaTotals.lean).
  GIVEN WITH THE SEED: the statements are not yours to turn. If you find one false, say at which input.
  Laid BY PROGRAM, IN A SANDBOX (cutbox-rows.mjs): the forced cells as the released guide's own fill.sh prints them over the translation 46718bbccb18c249… (all of the seat's roots in one cut). By AI agents, Wed Nov 11 2026. No macro, syntax, notation, axiom, sorry.
-/
import Derived.Test.YtlafkeijikbenaaChecked
import GoSem.Claim
import GoSem.ClaimJoined
import GoSem.ClaimMapViews
import Derived.JoinedTies
import Derived.KernelRfl
namespace Go.Proofs.Ytlafkeijikbenaa
/- THE CELL 'sum', in the pinned program and in every row, IS THE sha256 OF THE DUMP (.gsa) THAT YtlafkeijikbenaaProg.lean LOADS. Nothing in Lean hashes anything: it is a label: what it is worth is what the hold of that sum in a sandbox is worth. -/
noncomputable def Try.pinned : Pinned := { name := "ytlafkeijikbenaa", sum := "46718bbccb18c24981674be1884677fb1345983053dd5ec9b61c3f7b0e6a4b22", checked := Try.checked }
namespace Rows
def none {H : Type} : Left H := { results := [], args := [] }

/-- 'parapetlaw05.MeterSums': WHATEVER THE INPUT: true; the input reads as it did. -/
def meterSumsSpec : ChangeSpec := { name := "meterSums", fn := fun _ => fun
  | [d] => { results := [.lit (.bool true)], args := [d] }
  | _ => none }
def meterSumsRow : OpenClaim := { program := "ytlafkeijikbenaa", sum := "46718bbccb18c24981674be1884677fb1345983053dd5ec9b61c3f7b0e6a4b22", func := "parapet/parapetlaw05.MeterSums", spec := "meterSums", inPlace := ["sync/atomic.LoadUint64", "sync/atomic.CompareAndSwapUint64", "sync/atomic.CompareAndSwapUint32", "sync/atomic.StoreInt64", "sync/atomic.LoadInt64", "sync/atomic.CompareAndSwapInt64"], apart := false }
def MeterSumsSaid : Prop := meterSumsRow.holds Try.pinned (OpenSpec.ofChange meterSumsSpec)

/-- ITS FALSE NEIGHBOUR: 'it returns false'. Refute it at one input. -/
def meterSumsWrong : ChangeSpec := { name := "meterSums", fn := fun _ => fun
  | [d] => { results := [.lit (.bool false)], args := [d] }
  | _ => none }
def MeterSumsWrongFalsely : Prop := meterSumsRow.holds Try.pinned (OpenSpec.ofChange meterSumsWrong)

/-- 'parapetlaw05.MeterPeaks': WHATEVER THE INPUT: true; the input reads as it did. -/
def meterPeaksSpec : ChangeSpec := { name := "meterPeaks", fn := fun _ => fun
  | [d] => { results := [.lit (.bool true)], args := [d] }
  | _ => none }
def meterPeaksRow : OpenClaim := { program := "ytlafkeijikbenaa", sum := "46718bbccb18c24981674be1884677fb1345983053dd5ec9b61c3f7b0e6a4b22", func := "parapet/parapetlaw05.MeterPeaks", spec := "meterPeaks", inPlace := ["sync/atomic.LoadUint64", "sync/atomic.CompareAndSwapUint64", "sync/atomic.CompareAndSwapUint32", "sync/atomic.StoreInt64", "sync/atomic.LoadInt64", "sync/atomic.CompareAndSwapInt64", "sync/atomic.LoadUint32"], apart := false }
def MeterPeaksSaid : Prop := meterPeaksRow.holds Try.pinned (OpenSpec.ofChange meterPeaksSpec)

/-- ITS FALSE NEIGHBOUR: 'it returns false'. Refute it at one input. -/
def meterPeaksWrong : ChangeSpec := { name := "meterPeaks", fn := fun _ => fun
  | [d] => { results := [.lit (.bool false)], args := [d] }
  | _ => none }
def MeterPeaksWrongFalsely : Prop := meterPeaksRow.holds Try.pinned (OpenSpec.ofChange meterPeaksWrong)

/-- 'parapetlaw05.MeterFlags': WHATEVER THE INPUT: true; the input reads as it did. -/
def meterFlagsSpec : ChangeSpec := { name := "meterFlags", fn := fun _ => fun
  | [d1, d2, d3] => { results := [.lit (.bool true)], args := [d1, d2, d3] }
  | _ => none }
def meterFlagsRow : OpenClaim := { program := "ytlafkeijikbenaa", sum := "46718bbccb18c24981674be1884677fb1345983053dd5ec9b61c3f7b0e6a4b22", func := "parapet/parapetlaw05.MeterFlags", spec := "meterFlags", inPlace := ["sync/atomic.LoadUint64", "sync/atomic.CompareAndSwapUint64", "sync/atomic.CompareAndSwapUint32", "sync/atomic.StoreInt64", "sync/atomic.LoadInt64", "sync/atomic.CompareAndSwapInt64", "sync/atomic.OrUint32", "sync/atomic.AndUint32", "sync/atomic.LoadUint32"], apart := false }
def MeterFlagsSaid : Prop := meterFlagsRow.holds Try.pinned (OpenSpec.ofChange meterFlagsSpec)

/-- ITS FALSE NEIGHBOUR: 'it returns false'. Refute it at one input. -/
def meterFlagsWrong : ChangeSpec := { name := "meterFlags", fn := fun _ => fun
  | [d1, d2, d3] => { results := [.lit (.bool false)], args := [d1, d2, d3] }
  | _ => none }
def MeterFlagsWrongFalsely : Prop := meterFlagsRow.holds Try.pinned (OpenSpec.ofChange meterFlagsWrong)

/-- 'parapetlaw05.MeterPlays': WHATEVER THE INPUT: true; the input reads as it did. -/
def meterPlaysSpec : ChangeSpec := { name := "meterPlays", fn := fun _ => fun
  | [d] => { results := [.lit (.bool true)], args := [d] }
  | _ => none }
def meterPlaysRow : OpenClaim := { program := "ytlafkeijikbenaa", sum := "46718bbccb18c24981674be1884677fb1345983053dd5ec9b61c3f7b0e6a4b22", func := "parapet/parapetlaw05.MeterPlays", spec := "meterPlays", inPlace := ["sync/atomic.LoadUint64", "sync/atomic.CompareAndSwapUint64", "sync/atomic.CompareAndSwapUint32", "sync/atomic.StoreInt64", "sync/atomic.LoadInt64", "sync/atomic.CompareAndSwapInt64", "sync/atomic.LoadUint32", "sync/atomic.LoadPointer", "sync/atomic.SwapUint64", "sync/atomic.OrUint32", "sync/atomic.AndUint32", "sync/atomic.SwapUint32", "sync/atomic.SwapPointer"], apart := false }
def MeterPlaysSaid : Prop := meterPlaysRow.holds Try.pinned (OpenSpec.ofChange meterPlaysSpec)

/-- ITS FALSE NEIGHBOUR: 'it returns false'. Refute it at one input. -/
def meterPlaysWrong : ChangeSpec := { name := "meterPlays", fn := fun _ => fun
  | [d] => { results := [.lit (.bool false)], args := [d] }
  | _ => none }
def MeterPlaysWrongFalsely : Prop := meterPlaysRow.holds Try.pinned (OpenSpec.ofChange meterPlaysWrong)

/-- 'parapetlaw05.MeterNil': WHATEVER THE INPUT: true; the input reads as it did. -/
def meterNilSpec : ChangeSpec := { name := "meterNil", fn := fun _ => fun
  | [d] => { results := [.lit (.bool true)], args := [d] }
  | _ => none }
def meterNilRow : OpenClaim := { program := "ytlafkeijikbenaa", sum := "46718bbccb18c24981674be1884677fb1345983053dd5ec9b61c3f7b0e6a4b22", func := "parapet/parapetlaw05.MeterNil", spec := "meterNil", inPlace := ["sync/atomic.LoadUint64", "sync/atomic.CompareAndSwapUint64", "sync/atomic.CompareAndSwapUint32", "sync/atomic.StoreInt64", "sync/atomic.LoadInt64", "sync/atomic.CompareAndSwapInt64", "sync/atomic.SwapUint64", "sync/atomic.LoadUint32", "sync/atomic.LoadPointer", "sync/atomic.SwapPointer", "sync/atomic.OrUint32", "sync/atomic.AndUint32", "sync/atomic.SwapUint32"], apart := false }
def MeterNilSaid : Prop := meterNilRow.holds Try.pinned (OpenSpec.ofChange meterNilSpec)

/-- ITS FALSE NEIGHBOUR: 'it returns false'. Refute it at one input. -/
def meterNilWrong : ChangeSpec := { name := "meterNil", fn := fun _ => fun
  | [d] => { results := [.lit (.bool false)], args := [d] }
  | _ => none }
def MeterNilWrongFalsely : Prop := meterNilRow.holds Try.pinned (OpenSpec.ofChange meterNilWrong)

/-- 'parapetlaw06.GatePlays': WHATEVER THE INPUT: true; the input reads as it did. -/
def gatePlaysSpec : ChangeSpec := { name := "gatePlays", fn := fun _ => fun
  | [d] => { results := [.lit (.bool true)], args := [d] }
  | _ => none }
def gatePlaysRow : OpenClaim := { program := "ytlafkeijikbenaa", sum := "46718bbccb18c24981674be1884677fb1345983053dd5ec9b61c3f7b0e6a4b22", func := "parapet/parapetlaw06.GatePlays", spec := "gatePlays", inPlace := ["sync/atomic.AddInt64", "sync/atomic.LoadUint32", "(*internal/sync.Mutex).Lock", "internal/race.Disable", "sync/atomic.CompareAndSwapInt32", "internal/race.Enable", "internal/race.Acquire", "(*internal/sync.Mutex).lockSlow", "internal/sync.runtime_canSpin", "internal/sync.runtime_doSpin", "internal/sync.throw", "internal/sync.runtime_nanotime", "internal/sync.runtime_SemacquireMutex", "sync/atomic.AddInt32", "(*internal/sync.Mutex).Unlock", "internal/race.ReleaseMerge", "(*internal/sync.Mutex).unlockSlow", "internal/sync.fatal", "internal/sync.runtime_Semrelease", "sync/atomic.StoreUint32", "sync/atomic.LoadInt64", "sync/atomic.StoreInt64"], unfollowed := true, recurses := true, apart := false }
def GatePlaysSaid : Prop := gatePlaysRow.holds Try.pinned (OpenSpec.ofChange gatePlaysSpec)

/-- ITS FALSE NEIGHBOUR: 'it returns false'. Refute it at one input. -/
def gatePlaysWrong : ChangeSpec := { name := "gatePlays", fn := fun _ => fun
  | [d] => { results := [.lit (.bool false)], args := [d] }
  | _ => none }
def GatePlaysWrongFalsely : Prop := gatePlaysRow.holds Try.pinned (OpenSpec.ofChange gatePlaysWrong)

/-- 'parapetlaw06.GateFirst': WHATEVER THE INPUT: true; the input reads as it did. -/
def gateFirstSpec : ChangeSpec := { name := "gateFirst", fn := fun _ => fun
  | [d] => { results := [.lit (.bool true)], args := [d] }
  | _ => none }
def gateFirstRow : OpenClaim := { program := "ytlafkeijikbenaa", sum := "46718bbccb18c24981674be1884677fb1345983053dd5ec9b61c3f7b0e6a4b22", func := "parapet/parapetlaw06.GateFirst", spec := "gateFirst", inPlace := ["sync/atomic.AddInt64", "sync/atomic.LoadUint32", "(*internal/sync.Mutex).Lock", "internal/race.Disable", "sync/atomic.CompareAndSwapInt32", "internal/race.Enable", "internal/race.Acquire", "(*internal/sync.Mutex).lockSlow", "internal/sync.runtime_canSpin", "internal/sync.runtime_doSpin", "internal/sync.throw", "internal/sync.runtime_nanotime", "internal/sync.runtime_SemacquireMutex", "sync/atomic.AddInt32", "(*internal/sync.Mutex).Unlock", "internal/race.ReleaseMerge", "(*internal/sync.Mutex).unlockSlow", "internal/sync.fatal", "internal/sync.runtime_Semrelease", "sync/atomic.StoreUint32", "sync/atomic.LoadInt64", "sync/atomic.StoreInt64"], unfollowed := true, recurses := true, apart := false }
def GateFirstSaid : Prop := gateFirstRow.holds Try.pinned (OpenSpec.ofChange gateFirstSpec)

/-- ITS FALSE NEIGHBOUR: 'it returns false'. Refute it at one input. -/
def gateFirstWrong : ChangeSpec := { name := "gateFirst", fn := fun _ => fun
  | [d] => { results := [.lit (.bool false)], args := [d] }
  | _ => none }
def GateFirstWrongFalsely : Prop := gateFirstRow.holds Try.pinned (OpenSpec.ofChange gateFirstWrong)

/-- 'parapetlaw06.GateLazy': WHATEVER THE INPUT: true; the input reads as it did. -/
def gateLazySpec : ChangeSpec := { name := "gateLazy", fn := fun _ => fun
  | [d1, d2, d3] => { results := [.lit (.bool true)], args := [d1, d2, d3] }
  | _ => none }
def gateLazyRow : OpenClaim := { program := "ytlafkeijikbenaa", sum := "46718bbccb18c24981674be1884677fb1345983053dd5ec9b61c3f7b0e6a4b22", func := "parapet/parapetlaw06.GateLazy", spec := "gateLazy", inPlace := ["sync/atomic.AddInt64", "sync/atomic.LoadUint32", "(*internal/sync.Mutex).Lock", "internal/race.Disable", "sync/atomic.CompareAndSwapInt32", "internal/race.Enable", "internal/race.Acquire", "(*internal/sync.Mutex).lockSlow", "internal/sync.runtime_canSpin", "internal/sync.runtime_doSpin", "internal/sync.throw", "internal/sync.runtime_nanotime", "internal/sync.runtime_SemacquireMutex", "sync/atomic.AddInt32", "(*internal/sync.Mutex).Unlock", "internal/race.ReleaseMerge", "(*internal/sync.Mutex).unlockSlow", "internal/sync.fatal", "internal/sync.runtime_Semrelease", "sync/atomic.StoreUint32", "sync/atomic.LoadInt64"], unfollowed := true, recurses := true, apart := false }
def GateLazySaid : Prop := gateLazyRow.holds Try.pinned (OpenSpec.ofChange gateLazySpec)

/-- ITS FALSE NEIGHBOUR: 'it returns false'. Refute it at one input. -/
def gateLazyWrong : ChangeSpec := { name := "gateLazy", fn := fun _ => fun
  | [d1, d2, d3] => { results := [.lit (.bool false)], args := [d1, d2, d3] }
  | _ => none }
def GateLazyWrongFalsely : Prop := gateLazyRow.holds Try.pinned (OpenSpec.ofChange gateLazyWrong)

/-- 'parapetlaw06.GatePanics': WHATEVER THE INPUT: true; the input reads as it did. -/
def gatePanicsSpec : ChangeSpec := { name := "gatePanics", fn := fun _ => fun
  | [d] => { results := [.lit (.bool true)], args := [d] }
  | _ => none }
def gatePanicsRow : OpenClaim := { program := "ytlafkeijikbenaa", sum := "46718bbccb18c24981674be1884677fb1345983053dd5ec9b61c3f7b0e6a4b22", func := "parapet/parapetlaw06.GatePanics", spec := "gatePanics", inPlace := ["sync/atomic.AddInt64", "sync/atomic.LoadUint32", "(*internal/sync.Mutex).Lock", "internal/race.Disable", "sync/atomic.CompareAndSwapInt32", "internal/race.Enable", "internal/race.Acquire", "(*internal/sync.Mutex).lockSlow", "internal/sync.runtime_canSpin", "internal/sync.runtime_doSpin", "internal/sync.throw", "internal/sync.runtime_nanotime", "internal/sync.runtime_SemacquireMutex", "sync/atomic.AddInt32", "(*internal/sync.Mutex).Unlock", "internal/race.ReleaseMerge", "(*internal/sync.Mutex).unlockSlow", "internal/sync.fatal", "internal/sync.runtime_Semrelease", "sync/atomic.StoreUint32", "sync/atomic.LoadInt64"], unfollowed := true, recurses := true, apart := false }
def GatePanicsSaid : Prop := gatePanicsRow.holds Try.pinned (OpenSpec.ofChange gatePanicsSpec)

/-- ITS FALSE NEIGHBOUR: 'it returns false'. Refute it at one input. -/
def gatePanicsWrong : ChangeSpec := { name := "gatePanics", fn := fun _ => fun
  | [d] => { results := [.lit (.bool false)], args := [d] }
  | _ => none }
def GatePanicsWrongFalsely : Prop := gatePanicsRow.holds Try.pinned (OpenSpec.ofChange gatePanicsWrong)

/-- 'parapetlaw06.GateNil': WHATEVER THE INPUT: true; the input reads as it did. -/
def gateNilSpec : ChangeSpec := { name := "gateNil", fn := fun _ => fun
  | [d] => { results := [.lit (.bool true)], args := [d] }
  | _ => none }
def gateNilRow : OpenClaim := { program := "ytlafkeijikbenaa", sum := "46718bbccb18c24981674be1884677fb1345983053dd5ec9b61c3f7b0e6a4b22", func := "parapet/parapetlaw06.GateNil", spec := "gateNil", inPlace := ["sync/atomic.AddInt64", "sync/atomic.LoadUint32", "(*internal/sync.Mutex).Lock", "internal/race.Disable", "sync/atomic.CompareAndSwapInt32", "internal/race.Enable", "internal/race.Acquire", "(*internal/sync.Mutex).lockSlow", "internal/sync.runtime_canSpin", "internal/sync.runtime_doSpin", "internal/sync.throw", "internal/sync.runtime_nanotime", "internal/sync.runtime_SemacquireMutex", "sync/atomic.AddInt32", "(*internal/sync.Mutex).Unlock", "internal/race.ReleaseMerge", "(*internal/sync.Mutex).unlockSlow", "internal/sync.fatal", "internal/sync.runtime_Semrelease", "sync/atomic.StoreUint32", "sync/atomic.LoadInt64", "sync/atomic.StoreInt64"], unfollowed := true, recurses := true, apart := false }
def GateNilSaid : Prop := gateNilRow.holds Try.pinned (OpenSpec.ofChange gateNilSpec)

/-- ITS FALSE NEIGHBOUR: 'it returns false'. Refute it at one input. -/
def gateNilWrong : ChangeSpec := { name := "gateNil", fn := fun _ => fun
  | [d] => { results := [.lit (.bool false)], args := [d] }
  | _ => none }
def GateNilWrongFalsely : Prop := gateNilRow.holds Try.pinned (OpenSpec.ofChange gateNilWrong)

/- THE SECOND FORM. 'bulk': how many values and letters a reading holds, each counted each time it is reached (what is shared counts as often as it is met; a slice's spare places count too). A statement '..UptoSaid' is the law's where the arguments, and the package variables that the reading takes, are together of bulk at most 1048576: NARROWER than '..Said'. Prove '..Said' where nothing that the law and all that it calls make is longer than what came in: it says more and counts as full. Else prove '..UptoSaid'. A law counts once. -/
mutual
def uptoBulk {H : Type} : DataW H → Nat
  | .lit (.string bytes) => bytes.length + 1
  | .lit _ => 1
  | .nil => 1
  | .ptr d => uptoBulk d + 1
  | .slice elems spare => uptoBulkAll elems + uptoBulkAll spare + 1
  | .agg parts => uptoBulkAll parts + 1
  | .iface _ d => uptoBulk d + 1
  | .map entries => uptoBulkEntries entries + 1
  | .held _ => 1
def uptoBulkAll {H : Type} : List (DataW H) → Nat
  | [] => 0
  | d :: r => uptoBulk d + uptoBulkAll r
def uptoBulkEntries {H : Type} : List (Lit × DataW H) → Nat
  | [] => 0
  | x :: r => uptoBulkEntry x + uptoBulkEntries r
def uptoBulkEntry {H : Type} : Lit × DataW H → Nat
  | (.string bytes, d) => bytes.length + uptoBulk d + 1
  | (_, d) => uptoBulk d + 1
 end
def uptoSmall : (H : Type) → List (DataW H) → Bool := fun _ ds => decide (uptoBulkAll ds ≤ 1048576)
def OpenSpec.upto (s : _root_.Go.ChangeSpec) : _root_.Go.OpenSpec := { _root_.Go.OpenSpec.ofChange s with cond := some uptoSmall }

/-- 'parapetlaw05.MeterSums', WHERE WHAT IT READS IS OF BULK AT MOST 1048576: true; the input reads as it did. -/
def meterSumsUptoRow : OpenClaim := { program := "ytlafkeijikbenaa", sum := "46718bbccb18c24981674be1884677fb1345983053dd5ec9b61c3f7b0e6a4b22", func := "parapet/parapetlaw05.MeterSums", spec := "meterSums", inPlace := ["sync/atomic.LoadUint64", "sync/atomic.CompareAndSwapUint64", "sync/atomic.CompareAndSwapUint32", "sync/atomic.StoreInt64", "sync/atomic.LoadInt64", "sync/atomic.CompareAndSwapInt64"], apart := false, narrowed := true }
def MeterSumsUptoSaid : Prop := meterSumsUptoRow.holds Try.pinned (OpenSpec.upto meterSumsSpec)

/-- 'parapetlaw05.MeterPeaks', WHERE WHAT IT READS IS OF BULK AT MOST 1048576: true; the input reads as it did. -/
def meterPeaksUptoRow : OpenClaim := { program := "ytlafkeijikbenaa", sum := "46718bbccb18c24981674be1884677fb1345983053dd5ec9b61c3f7b0e6a4b22", func := "parapet/parapetlaw05.MeterPeaks", spec := "meterPeaks", inPlace := ["sync/atomic.LoadUint64", "sync/atomic.CompareAndSwapUint64", "sync/atomic.CompareAndSwapUint32", "sync/atomic.StoreInt64", "sync/atomic.LoadInt64", "sync/atomic.CompareAndSwapInt64", "sync/atomic.LoadUint32"], apart := false, narrowed := true }
def MeterPeaksUptoSaid : Prop := meterPeaksUptoRow.holds Try.pinned (OpenSpec.upto meterPeaksSpec)

/-- 'parapetlaw05.MeterFlags', WHERE WHAT IT READS IS OF BULK AT MOST 1048576: true; the input reads as it did. -/
def meterFlagsUptoRow : OpenClaim := { program := "ytlafkeijikbenaa", sum := "46718bbccb18c24981674be1884677fb1345983053dd5ec9b61c3f7b0e6a4b22", func := "parapet/parapetlaw05.MeterFlags", spec := "meterFlags", inPlace := ["sync/atomic.LoadUint64", "sync/atomic.CompareAndSwapUint64", "sync/atomic.CompareAndSwapUint32", "sync/atomic.StoreInt64", "sync/atomic.LoadInt64", "sync/atomic.CompareAndSwapInt64", "sync/atomic.OrUint32", "sync/atomic.AndUint32", "sync/atomic.LoadUint32"], apart := false, narrowed := true }
def MeterFlagsUptoSaid : Prop := meterFlagsUptoRow.holds Try.pinned (OpenSpec.upto meterFlagsSpec)

/-- 'parapetlaw05.MeterPlays', WHERE WHAT IT READS IS OF BULK AT MOST 1048576: true; the input reads as it did. -/
def meterPlaysUptoRow : OpenClaim := { program := "ytlafkeijikbenaa", sum := "46718bbccb18c24981674be1884677fb1345983053dd5ec9b61c3f7b0e6a4b22", func := "parapet/parapetlaw05.MeterPlays", spec := "meterPlays", inPlace := ["sync/atomic.LoadUint64", "sync/atomic.CompareAndSwapUint64", "sync/atomic.CompareAndSwapUint32", "sync/atomic.StoreInt64", "sync/atomic.LoadInt64", "sync/atomic.CompareAndSwapInt64", "sync/atomic.LoadUint32", "sync/atomic.LoadPointer", "sync/atomic.SwapUint64", "sync/atomic.OrUint32", "sync/atomic.AndUint32", "sync/atomic.SwapUint32", "sync/atomic.SwapPointer"], apart := false, narrowed := true }
def MeterPlaysUptoSaid : Prop := meterPlaysUptoRow.holds Try.pinned (OpenSpec.upto meterPlaysSpec)

/-- 'parapetlaw05.MeterNil', WHERE WHAT IT READS IS OF BULK AT MOST 1048576: true; the input reads as it did. -/
def meterNilUptoRow : OpenClaim := { program := "ytlafkeijikbenaa", sum := "46718bbccb18c24981674be1884677fb1345983053dd5ec9b61c3f7b0e6a4b22", func := "parapet/parapetlaw05.MeterNil", spec := "meterNil", inPlace := ["sync/atomic.LoadUint64", "sync/atomic.CompareAndSwapUint64", "sync/atomic.CompareAndSwapUint32", "sync/atomic.StoreInt64", "sync/atomic.LoadInt64", "sync/atomic.CompareAndSwapInt64", "sync/atomic.SwapUint64", "sync/atomic.LoadUint32", "sync/atomic.LoadPointer", "sync/atomic.SwapPointer", "sync/atomic.OrUint32", "sync/atomic.AndUint32", "sync/atomic.SwapUint32"], apart := false, narrowed := true }
def MeterNilUptoSaid : Prop := meterNilUptoRow.holds Try.pinned (OpenSpec.upto meterNilSpec)

/-- 'parapetlaw06.GatePlays', WHERE WHAT IT READS IS OF BULK AT MOST 1048576: true; the input reads as it did. -/
def gatePlaysUptoRow : OpenClaim := { program := "ytlafkeijikbenaa", sum := "46718bbccb18c24981674be1884677fb1345983053dd5ec9b61c3f7b0e6a4b22", func := "parapet/parapetlaw06.GatePlays", spec := "gatePlays", inPlace := ["sync/atomic.AddInt64", "sync/atomic.LoadUint32", "(*internal/sync.Mutex).Lock", "internal/race.Disable", "sync/atomic.CompareAndSwapInt32", "internal/race.Enable", "internal/race.Acquire", "(*internal/sync.Mutex).lockSlow", "internal/sync.runtime_canSpin", "internal/sync.runtime_doSpin", "internal/sync.throw", "internal/sync.runtime_nanotime", "internal/sync.runtime_SemacquireMutex", "sync/atomic.AddInt32", "(*internal/sync.Mutex).Unlock", "internal/race.ReleaseMerge", "(*internal/sync.Mutex).unlockSlow", "internal/sync.fatal", "internal/sync.runtime_Semrelease", "sync/atomic.StoreUint32", "sync/atomic.LoadInt64", "sync/atomic.StoreInt64"], unfollowed := true, recurses := true, apart := false, narrowed := true }
def GatePlaysUptoSaid : Prop := gatePlaysUptoRow.holds Try.pinned (OpenSpec.upto gatePlaysSpec)

/-- 'parapetlaw06.GateFirst', WHERE WHAT IT READS IS OF BULK AT MOST 1048576: true; the input reads as it did. -/
def gateFirstUptoRow : OpenClaim := { program := "ytlafkeijikbenaa", sum := "46718bbccb18c24981674be1884677fb1345983053dd5ec9b61c3f7b0e6a4b22", func := "parapet/parapetlaw06.GateFirst", spec := "gateFirst", inPlace := ["sync/atomic.AddInt64", "sync/atomic.LoadUint32", "(*internal/sync.Mutex).Lock", "internal/race.Disable", "sync/atomic.CompareAndSwapInt32", "internal/race.Enable", "internal/race.Acquire", "(*internal/sync.Mutex).lockSlow", "internal/sync.runtime_canSpin", "internal/sync.runtime_doSpin", "internal/sync.throw", "internal/sync.runtime_nanotime", "internal/sync.runtime_SemacquireMutex", "sync/atomic.AddInt32", "(*internal/sync.Mutex).Unlock", "internal/race.ReleaseMerge", "(*internal/sync.Mutex).unlockSlow", "internal/sync.fatal", "internal/sync.runtime_Semrelease", "sync/atomic.StoreUint32", "sync/atomic.LoadInt64", "sync/atomic.StoreInt64"], unfollowed := true, recurses := true, apart := false, narrowed := true }
def GateFirstUptoSaid : Prop := gateFirstUptoRow.holds Try.pinned (OpenSpec.upto gateFirstSpec)

/-- 'parapetlaw06.GateLazy', WHERE WHAT IT READS IS OF BULK AT MOST 1048576: true; the input reads as it did. -/
def gateLazyUptoRow : OpenClaim := { program := "ytlafkeijikbenaa", sum := "46718bbccb18c24981674be1884677fb1345983053dd5ec9b61c3f7b0e6a4b22", func := "parapet/parapetlaw06.GateLazy", spec := "gateLazy", inPlace := ["sync/atomic.AddInt64", "sync/atomic.LoadUint32", "(*internal/sync.Mutex).Lock", "internal/race.Disable", "sync/atomic.CompareAndSwapInt32", "internal/race.Enable", "internal/race.Acquire", "(*internal/sync.Mutex).lockSlow", "internal/sync.runtime_canSpin", "internal/sync.runtime_doSpin", "internal/sync.throw", "internal/sync.runtime_nanotime", "internal/sync.runtime_SemacquireMutex", "sync/atomic.AddInt32", "(*internal/sync.Mutex).Unlock", "internal/race.ReleaseMerge", "(*internal/sync.Mutex).unlockSlow", "internal/sync.fatal", "internal/sync.runtime_Semrelease", "sync/atomic.StoreUint32", "sync/atomic.LoadInt64"], unfollowed := true, recurses := true, apart := false, narrowed := true }
def GateLazyUptoSaid : Prop := gateLazyUptoRow.holds Try.pinned (OpenSpec.upto gateLazySpec)

/-- 'parapetlaw06.GatePanics', WHERE WHAT IT READS IS OF BULK AT MOST 1048576: true; the input reads as it did. -/
def gatePanicsUptoRow : OpenClaim := { program := "ytlafkeijikbenaa", sum := "46718bbccb18c24981674be1884677fb1345983053dd5ec9b61c3f7b0e6a4b22", func := "parapet/parapetlaw06.GatePanics", spec := "gatePanics", inPlace := ["sync/atomic.AddInt64", "sync/atomic.LoadUint32", "(*internal/sync.Mutex).Lock", "internal/race.Disable", "sync/atomic.CompareAndSwapInt32", "internal/race.Enable", "internal/race.Acquire", "(*internal/sync.Mutex).lockSlow", "internal/sync.runtime_canSpin", "internal/sync.runtime_doSpin", "internal/sync.throw", "internal/sync.runtime_nanotime", "internal/sync.runtime_SemacquireMutex", "sync/atomic.AddInt32", "(*internal/sync.Mutex).Unlock", "internal/race.ReleaseMerge", "(*internal/sync.Mutex).unlockSlow", "internal/sync.fatal", "internal/sync.runtime_Semrelease", "sync/atomic.StoreUint32", "sync/atomic.LoadInt64"], unfollowed := true, recurses := true, apart := false, narrowed := true }
def GatePanicsUptoSaid : Prop := gatePanicsUptoRow.holds Try.pinned (OpenSpec.upto gatePanicsSpec)

/-- 'parapetlaw06.GateNil', WHERE WHAT IT READS IS OF BULK AT MOST 1048576: true; the input reads as it did. -/
def gateNilUptoRow : OpenClaim := { program := "ytlafkeijikbenaa", sum := "46718bbccb18c24981674be1884677fb1345983053dd5ec9b61c3f7b0e6a4b22", func := "parapet/parapetlaw06.GateNil", spec := "gateNil", inPlace := ["sync/atomic.AddInt64", "sync/atomic.LoadUint32", "(*internal/sync.Mutex).Lock", "internal/race.Disable", "sync/atomic.CompareAndSwapInt32", "internal/race.Enable", "internal/race.Acquire", "(*internal/sync.Mutex).lockSlow", "internal/sync.runtime_canSpin", "internal/sync.runtime_doSpin", "internal/sync.throw", "internal/sync.runtime_nanotime", "internal/sync.runtime_SemacquireMutex", "sync/atomic.AddInt32", "(*internal/sync.Mutex).Unlock", "internal/race.ReleaseMerge", "(*internal/sync.Mutex).unlockSlow", "internal/sync.fatal", "internal/sync.runtime_Semrelease", "sync/atomic.StoreUint32", "sync/atomic.LoadInt64", "sync/atomic.StoreInt64"], unfollowed := true, recurses := true, apart := false, narrowed := true }
def GateNilUptoSaid : Prop := gateNilUptoRow.holds Try.pinned (OpenSpec.upto gateNilSpec)

end Rows
end Go.Proofs.Ytlafkeijikbenaa
