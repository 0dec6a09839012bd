/-
  No cell of these rows narrows 'for every input' (looked for: loops, veiled, ifaces, maps, wideKeys, modest, calm, conditions, laid).
  DERIVED. THE GIVEN ROWS OF THIS SEAT. 10 by the template 'for every input the law returns true; each argument reads behind the call as it read before'; 0 by the template 'total and deterministic' (their statements: YtcnlomknmhgpbaaTotals.lean).
  GIVEN WITH THE SEED: the statements are not yours to turn. If you find one false, say at which input.
  Laid BY PROGRAM, IN A SANDBOX (cutbox-rows.mjs): the forced cells as the released guide's own fill.sh prints them over the translation c824f9085c985fae… (all of the seat's roots in one cut). By AI agents, Wed Nov 11 2026. No macro, syntax, notation, axiom, sorry.
-/
import Derived.Test.YtcnlomknmhgpbaaChecked
import GoSem.Claim
import GoSem.ClaimJoined
import GoSem.ClaimMapViews
import Derived.JoinedTies
import Derived.KernelRfl
namespace Go.Proofs.Ytcnlomknmhgpbaa
/- THE CELL 'sum', in the pinned program and in every row, IS THE sha256 OF THE DUMP (.gsa) THAT YtcnlomknmhgpbaaProg.lean LOADS. Nothing in Lean hashes anything: it is a label: what it is worth is what the hold of that sum in a sandbox is worth. -/
noncomputable def Try.pinned : Pinned := { name := "ytcnlomknmhgpbaa", sum := "c824f9085c985fae0ce893be23f7301eebfe165e465175fe6f63eab254c915d0", checked := Try.checked }
namespace Rows
def none {H : Type} : Left H := { results := [], args := [] }

/-- 'parapetlaw02.CrcZeros': WHATEVER THE INPUT: true; the input reads as it did. -/
def crcZerosSpec : ChangeSpec := { name := "crcZeros", fn := fun _ => fun
  | [d1, d2] => { results := [.lit (.bool true)], args := [d1, d2] }
  | _ => none }
def crcZerosRow : OpenClaim := { program := "ytcnlomknmhgpbaa", sum := "c824f9085c985fae0ce893be23f7301eebfe165e465175fe6f63eab254c915d0", func := "parapet/parapetlaw02.CrcZeros", spec := "crcZeros", apart := false }
def CrcZerosSaid : Prop := crcZerosRow.holds Try.pinned (OpenSpec.ofChange crcZerosSpec)

/-- ITS FALSE NEIGHBOUR: 'it returns false'. Refute it at one input. -/
def crcZerosWrong : ChangeSpec := { name := "crcZeros", fn := fun _ => fun
  | [d1, d2] => { results := [.lit (.bool false)], args := [d1, d2] }
  | _ => none }
def CrcZerosWrongFalsely : Prop := crcZerosRow.holds Try.pinned (OpenSpec.ofChange crcZerosWrong)

/-- 'parapetlaw02.CrcBursts': WHATEVER THE INPUT: true; the input reads as it did. -/
def crcBurstsSpec : ChangeSpec := { name := "crcBursts", fn := fun _ => fun
  | [d1, d2, d3] => { results := [.lit (.bool true)], args := [d1, d2, d3] }
  | _ => none }
def crcBurstsRow : OpenClaim := { program := "ytcnlomknmhgpbaa", sum := "c824f9085c985fae0ce893be23f7301eebfe165e465175fe6f63eab254c915d0", func := "parapet/parapetlaw02.CrcBursts", spec := "crcBursts", apart := false }
def CrcBurstsSaid : Prop := crcBurstsRow.holds Try.pinned (OpenSpec.ofChange crcBurstsSpec)

/-- ITS FALSE NEIGHBOUR: 'it returns false'. Refute it at one input. -/
def crcBurstsWrong : ChangeSpec := { name := "crcBursts", fn := fun _ => fun
  | [d1, d2, d3] => { results := [.lit (.bool false)], args := [d1, d2, d3] }
  | _ => none }
def CrcBurstsWrongFalsely : Prop := crcBurstsRow.holds Try.pinned (OpenSpec.ofChange crcBurstsWrong)

/-- 'parapetlaw02.CrcOdd': WHATEVER THE INPUT: true; the input reads as it did. -/
def crcOddSpec : ChangeSpec := { name := "crcOdd", fn := fun _ => fun
  | [d1, d2] => { results := [.lit (.bool true)], args := [d1, d2] }
  | _ => none }
def crcOddRow : OpenClaim := { program := "ytcnlomknmhgpbaa", sum := "c824f9085c985fae0ce893be23f7301eebfe165e465175fe6f63eab254c915d0", func := "parapet/parapetlaw02.CrcOdd", spec := "crcOdd", apart := false }
def CrcOddSaid : Prop := crcOddRow.holds Try.pinned (OpenSpec.ofChange crcOddSpec)

/-- ITS FALSE NEIGHBOUR: 'it returns false'. Refute it at one input. -/
def crcOddWrong : ChangeSpec := { name := "crcOdd", fn := fun _ => fun
  | [d1, d2] => { results := [.lit (.bool false)], args := [d1, d2] }
  | _ => none }
def CrcOddWrongFalsely : Prop := crcOddRow.holds Try.pinned (OpenSpec.ofChange crcOddWrong)

/-- 'parapetlaw02.CrcDivides': WHATEVER THE INPUT: true; the input reads as it did. -/
def crcDividesSpec : ChangeSpec := { name := "crcDivides", fn := fun _ => fun
  | [d] => { results := [.lit (.bool true)], args := [d] }
  | _ => none }
def crcDividesRow : OpenClaim := { program := "ytcnlomknmhgpbaa", sum := "c824f9085c985fae0ce893be23f7301eebfe165e465175fe6f63eab254c915d0", func := "parapet/parapetlaw02.CrcDivides", spec := "crcDivides", apart := false }
def CrcDividesSaid : Prop := crcDividesRow.holds Try.pinned (OpenSpec.ofChange crcDividesSpec)

/-- ITS FALSE NEIGHBOUR: 'it returns false'. Refute it at one input. -/
def crcDividesWrong : ChangeSpec := { name := "crcDivides", fn := fun _ => fun
  | [d] => { results := [.lit (.bool false)], args := [d] }
  | _ => none }
def CrcDividesWrongFalsely : Prop := crcDividesRow.holds Try.pinned (OpenSpec.ofChange crcDividesWrong)

/-- 'parapetlaw02.CrcSeals': WHATEVER THE INPUT: true; the input reads as it did. -/
def crcSealsSpec : ChangeSpec := { name := "crcSeals", fn := fun _ => fun
  | [d] => { results := [.lit (.bool true)], args := [d] }
  | _ => none }
def crcSealsRow : OpenClaim := { program := "ytcnlomknmhgpbaa", sum := "c824f9085c985fae0ce893be23f7301eebfe165e465175fe6f63eab254c915d0", func := "parapet/parapetlaw02.CrcSeals", spec := "crcSeals", apart := false }
def CrcSealsSaid : Prop := crcSealsRow.holds Try.pinned (OpenSpec.ofChange crcSealsSpec)

/-- ITS FALSE NEIGHBOUR: 'it returns false'. Refute it at one input. -/
def crcSealsWrong : ChangeSpec := { name := "crcSeals", fn := fun _ => fun
  | [d] => { results := [.lit (.bool false)], args := [d] }
  | _ => none }
def CrcSealsWrongFalsely : Prop := crcSealsRow.holds Try.pinned (OpenSpec.ofChange crcSealsWrong)

/-- 'parapetlaw02.CrcSums': WHATEVER THE INPUT: true; the input reads as it did. -/
def crcSumsSpec : ChangeSpec := { name := "crcSums", fn := fun _ => fun
  | [d1, d2] => { results := [.lit (.bool true)], args := [d1, d2] }
  | _ => none }
def crcSumsRow : OpenClaim := { program := "ytcnlomknmhgpbaa", sum := "c824f9085c985fae0ce893be23f7301eebfe165e465175fe6f63eab254c915d0", func := "parapet/parapetlaw02.CrcSums", spec := "crcSums", apart := false }
def CrcSumsSaid : Prop := crcSumsRow.holds Try.pinned (OpenSpec.ofChange crcSumsSpec)

/-- ITS FALSE NEIGHBOUR: 'it returns false'. Refute it at one input. -/
def crcSumsWrong : ChangeSpec := { name := "crcSums", fn := fun _ => fun
  | [d1, d2] => { results := [.lit (.bool false)], args := [d1, d2] }
  | _ => none }
def CrcSumsWrongFalsely : Prop := crcSumsRow.holds Try.pinned (OpenSpec.ofChange crcSumsWrong)

/-- 'parapetlaw02.CrcJoins': WHATEVER THE INPUT: true; the input reads as it did. -/
def crcJoinsSpec : ChangeSpec := { name := "crcJoins", fn := fun _ => fun
  | [d1, d2, d3, d4, d5] => { results := [.lit (.bool true)], args := [d1, d2, d3, d4, d5] }
  | _ => none }
def crcJoinsRow : OpenClaim := { program := "ytcnlomknmhgpbaa", sum := "c824f9085c985fae0ce893be23f7301eebfe165e465175fe6f63eab254c915d0", func := "parapet/parapetlaw02.CrcJoins", spec := "crcJoins", recurses := true, apart := false }
def CrcJoinsSaid : Prop := crcJoinsRow.holds Try.pinned (OpenSpec.ofChange crcJoinsSpec)

/-- ITS FALSE NEIGHBOUR: 'it returns false'. Refute it at one input. -/
def crcJoinsWrong : ChangeSpec := { name := "crcJoins", fn := fun _ => fun
  | [d1, d2, d3, d4, d5] => { results := [.lit (.bool false)], args := [d1, d2, d3, d4, d5] }
  | _ => none }
def CrcJoinsWrongFalsely : Prop := crcJoinsRow.holds Try.pinned (OpenSpec.ofChange crcJoinsWrong)

/-- 'parapetlaw02.CrcEngines': WHATEVER THE INPUT: true; the input reads as it did. -/
def crcEnginesSpec : ChangeSpec := { name := "crcEngines", fn := fun _ => fun
  | [d1, d2] => { results := [.lit (.bool true)], args := [d1, d2] }
  | _ => none }
def crcEnginesRow : OpenClaim := { program := "ytcnlomknmhgpbaa", sum := "c824f9085c985fae0ce893be23f7301eebfe165e465175fe6f63eab254c915d0", func := "parapet/parapetlaw02.CrcEngines", spec := "crcEngines", inPlace := ["sync/atomic.LoadUint32", "(*internal/sync.Mutex).Lock", "internal/race.Disable", "sync/atomic.CompareAndSwapInt32", "internal/race.Enable", "internal/race.Acquire", "(*internal/sync.Mutex).lockSlow", "internal/sync.runtime_canSpin", "internal/sync.runtime_doSpin", "internal/sync.throw", "internal/sync.runtime_nanotime", "internal/sync.runtime_SemacquireMutex", "sync/atomic.AddInt32", "(*internal/sync.Mutex).Unlock", "internal/race.ReleaseMerge", "(*internal/sync.Mutex).unlockSlow", "internal/sync.fatal", "internal/sync.runtime_Semrelease", "sync/atomic.StoreUint32"], unfollowed := true, recurses := true, apart := false }
def CrcEnginesSaid : Prop := crcEnginesRow.holds Try.pinned (OpenSpec.ofChange crcEnginesSpec)

/-- ITS FALSE NEIGHBOUR: 'it returns false'. Refute it at one input. -/
def crcEnginesWrong : ChangeSpec := { name := "crcEngines", fn := fun _ => fun
  | [d1, d2] => { results := [.lit (.bool false)], args := [d1, d2] }
  | _ => none }
def CrcEnginesWrongFalsely : Prop := crcEnginesRow.holds Try.pinned (OpenSpec.ofChange crcEnginesWrong)

/-- 'parapetlaw02.CrcBuilt': WHATEVER THE INPUT: true; the input reads as it did. -/
def crcBuiltSpec : ChangeSpec := { name := "crcBuilt", fn := fun _ => fun
  | [d] => { results := [.lit (.bool true)], args := [d] }
  | _ => none }
def crcBuiltRow : OpenClaim := { program := "ytcnlomknmhgpbaa", sum := "c824f9085c985fae0ce893be23f7301eebfe165e465175fe6f63eab254c915d0", func := "parapet/parapetlaw02.CrcBuilt", spec := "crcBuilt", inPlace := ["sync/atomic.LoadUint32", "(*internal/sync.Mutex).Lock", "internal/race.Disable", "sync/atomic.CompareAndSwapInt32", "internal/race.Enable", "internal/race.Acquire", "(*internal/sync.Mutex).lockSlow", "internal/sync.runtime_canSpin", "internal/sync.runtime_doSpin", "internal/sync.throw", "internal/sync.runtime_nanotime", "internal/sync.runtime_SemacquireMutex", "sync/atomic.AddInt32", "(*internal/sync.Mutex).Unlock", "internal/race.ReleaseMerge", "(*internal/sync.Mutex).unlockSlow", "internal/sync.fatal", "internal/sync.runtime_Semrelease", "sync/atomic.StoreUint32"], unfollowed := true, recurses := true, apart := false }
def CrcBuiltSaid : Prop := crcBuiltRow.holds Try.pinned (OpenSpec.ofChange crcBuiltSpec)

/-- ITS FALSE NEIGHBOUR: 'it returns false'. Refute it at one input. -/
def crcBuiltWrong : ChangeSpec := { name := "crcBuilt", fn := fun _ => fun
  | [d] => { results := [.lit (.bool false)], args := [d] }
  | _ => none }
def CrcBuiltWrongFalsely : Prop := crcBuiltRow.holds Try.pinned (OpenSpec.ofChange crcBuiltWrong)

/-- 'parapetlaw02.CrcOwn': WHATEVER THE INPUT: true; the input reads as it did. -/
def crcOwnSpec : ChangeSpec := { name := "crcOwn", fn := fun _ => fun
  | [d] => { results := [.lit (.bool true)], args := [d] }
  | _ => none }
def crcOwnRow : OpenClaim := { program := "ytcnlomknmhgpbaa", sum := "c824f9085c985fae0ce893be23f7301eebfe165e465175fe6f63eab254c915d0", func := "parapet/parapetlaw02.CrcOwn", spec := "crcOwn", inPlace := ["sync/atomic.LoadUint32", "(*internal/sync.Mutex).Lock", "internal/race.Disable", "sync/atomic.CompareAndSwapInt32", "internal/race.Enable", "internal/race.Acquire", "(*internal/sync.Mutex).lockSlow", "internal/sync.runtime_canSpin", "internal/sync.runtime_doSpin", "internal/sync.throw", "internal/sync.runtime_nanotime", "internal/sync.runtime_SemacquireMutex", "sync/atomic.AddInt32", "(*internal/sync.Mutex).Unlock", "internal/race.ReleaseMerge", "(*internal/sync.Mutex).unlockSlow", "internal/sync.fatal", "internal/sync.runtime_Semrelease", "sync/atomic.StoreUint32"], unfollowed := true, recurses := true, apart := false }
def CrcOwnSaid : Prop := crcOwnRow.holds Try.pinned (OpenSpec.ofChange crcOwnSpec)

/-- ITS FALSE NEIGHBOUR: 'it returns false'. Refute it at one input. -/
def crcOwnWrong : ChangeSpec := { name := "crcOwn", fn := fun _ => fun
  | [d] => { results := [.lit (.bool false)], args := [d] }
  | _ => none }
def CrcOwnWrongFalsely : Prop := crcOwnRow.holds Try.pinned (OpenSpec.ofChange crcOwnWrong)

/- THE SECOND FORM. 'bulk': how many values and letters a reading holds, each counted each time it is reached (what is shared counts as often as it is met; a slice's spare places count too). A statement '..UptoSaid' is the law's where the arguments, and the package variables that the reading takes, are together of bulk at most 1048576: NARROWER than '..Said'. Prove '..Said' where nothing that the law and all that it calls make is longer than what came in: it says more and counts as full. Else prove '..UptoSaid'. A law counts once. -/
mutual
def uptoBulk {H : Type} : DataW H → Nat
  | .lit (.string bytes) => bytes.length + 1
  | .lit _ => 1
  | .nil => 1
  | .ptr d => uptoBulk d + 1
  | .slice elems spare => uptoBulkAll elems + uptoBulkAll spare + 1
  | .agg parts => uptoBulkAll parts + 1
  | .iface _ d => uptoBulk d + 1
  | .map entries => uptoBulkEntries entries + 1
  | .held _ => 1
def uptoBulkAll {H : Type} : List (DataW H) → Nat
  | [] => 0
  | d :: r => uptoBulk d + uptoBulkAll r
def uptoBulkEntries {H : Type} : List (Lit × DataW H) → Nat
  | [] => 0
  | x :: r => uptoBulkEntry x + uptoBulkEntries r
def uptoBulkEntry {H : Type} : Lit × DataW H → Nat
  | (.string bytes, d) => bytes.length + uptoBulk d + 1
  | (_, d) => uptoBulk d + 1
 end
def uptoSmall : (H : Type) → List (DataW H) → Bool := fun _ ds => decide (uptoBulkAll ds ≤ 1048576)
def OpenSpec.upto (s : _root_.Go.ChangeSpec) : _root_.Go.OpenSpec := { _root_.Go.OpenSpec.ofChange s with cond := some uptoSmall }

/-- 'parapetlaw02.CrcZeros', WHERE WHAT IT READS IS OF BULK AT MOST 1048576: true; the input reads as it did. -/
def crcZerosUptoRow : OpenClaim := { program := "ytcnlomknmhgpbaa", sum := "c824f9085c985fae0ce893be23f7301eebfe165e465175fe6f63eab254c915d0", func := "parapet/parapetlaw02.CrcZeros", spec := "crcZeros", apart := false, narrowed := true }
def CrcZerosUptoSaid : Prop := crcZerosUptoRow.holds Try.pinned (OpenSpec.upto crcZerosSpec)

/-- 'parapetlaw02.CrcBursts', WHERE WHAT IT READS IS OF BULK AT MOST 1048576: true; the input reads as it did. -/
def crcBurstsUptoRow : OpenClaim := { program := "ytcnlomknmhgpbaa", sum := "c824f9085c985fae0ce893be23f7301eebfe165e465175fe6f63eab254c915d0", func := "parapet/parapetlaw02.CrcBursts", spec := "crcBursts", apart := false, narrowed := true }
def CrcBurstsUptoSaid : Prop := crcBurstsUptoRow.holds Try.pinned (OpenSpec.upto crcBurstsSpec)

/-- 'parapetlaw02.CrcOdd', WHERE WHAT IT READS IS OF BULK AT MOST 1048576: true; the input reads as it did. -/
def crcOddUptoRow : OpenClaim := { program := "ytcnlomknmhgpbaa", sum := "c824f9085c985fae0ce893be23f7301eebfe165e465175fe6f63eab254c915d0", func := "parapet/parapetlaw02.CrcOdd", spec := "crcOdd", apart := false, narrowed := true }
def CrcOddUptoSaid : Prop := crcOddUptoRow.holds Try.pinned (OpenSpec.upto crcOddSpec)

/-- 'parapetlaw02.CrcDivides', WHERE WHAT IT READS IS OF BULK AT MOST 1048576: true; the input reads as it did. -/
def crcDividesUptoRow : OpenClaim := { program := "ytcnlomknmhgpbaa", sum := "c824f9085c985fae0ce893be23f7301eebfe165e465175fe6f63eab254c915d0", func := "parapet/parapetlaw02.CrcDivides", spec := "crcDivides", apart := false, narrowed := true }
def CrcDividesUptoSaid : Prop := crcDividesUptoRow.holds Try.pinned (OpenSpec.upto crcDividesSpec)

/-- 'parapetlaw02.CrcSeals', WHERE WHAT IT READS IS OF BULK AT MOST 1048576: true; the input reads as it did. -/
def crcSealsUptoRow : OpenClaim := { program := "ytcnlomknmhgpbaa", sum := "c824f9085c985fae0ce893be23f7301eebfe165e465175fe6f63eab254c915d0", func := "parapet/parapetlaw02.CrcSeals", spec := "crcSeals", apart := false, narrowed := true }
def CrcSealsUptoSaid : Prop := crcSealsUptoRow.holds Try.pinned (OpenSpec.upto crcSealsSpec)

/-- 'parapetlaw02.CrcSums', WHERE WHAT IT READS IS OF BULK AT MOST 1048576: true; the input reads as it did. -/
def crcSumsUptoRow : OpenClaim := { program := "ytcnlomknmhgpbaa", sum := "c824f9085c985fae0ce893be23f7301eebfe165e465175fe6f63eab254c915d0", func := "parapet/parapetlaw02.CrcSums", spec := "crcSums", apart := false, narrowed := true }
def CrcSumsUptoSaid : Prop := crcSumsUptoRow.holds Try.pinned (OpenSpec.upto crcSumsSpec)

/-- 'parapetlaw02.CrcJoins', WHERE WHAT IT READS IS OF BULK AT MOST 1048576: true; the input reads as it did. -/
def crcJoinsUptoRow : OpenClaim := { program := "ytcnlomknmhgpbaa", sum := "c824f9085c985fae0ce893be23f7301eebfe165e465175fe6f63eab254c915d0", func := "parapet/parapetlaw02.CrcJoins", spec := "crcJoins", recurses := true, apart := false, narrowed := true }
def CrcJoinsUptoSaid : Prop := crcJoinsUptoRow.holds Try.pinned (OpenSpec.upto crcJoinsSpec)

/-- 'parapetlaw02.CrcEngines', WHERE WHAT IT READS IS OF BULK AT MOST 1048576: true; the input reads as it did. -/
def crcEnginesUptoRow : OpenClaim := { program := "ytcnlomknmhgpbaa", sum := "c824f9085c985fae0ce893be23f7301eebfe165e465175fe6f63eab254c915d0", func := "parapet/parapetlaw02.CrcEngines", spec := "crcEngines", inPlace := ["sync/atomic.LoadUint32", "(*internal/sync.Mutex).Lock", "internal/race.Disable", "sync/atomic.CompareAndSwapInt32", "internal/race.Enable", "internal/race.Acquire", "(*internal/sync.Mutex).lockSlow", "internal/sync.runtime_canSpin", "internal/sync.runtime_doSpin", "internal/sync.throw", "internal/sync.runtime_nanotime", "internal/sync.runtime_SemacquireMutex", "sync/atomic.AddInt32", "(*internal/sync.Mutex).Unlock", "internal/race.ReleaseMerge", "(*internal/sync.Mutex).unlockSlow", "internal/sync.fatal", "internal/sync.runtime_Semrelease", "sync/atomic.StoreUint32"], unfollowed := true, recurses := true, apart := false, narrowed := true }
def CrcEnginesUptoSaid : Prop := crcEnginesUptoRow.holds Try.pinned (OpenSpec.upto crcEnginesSpec)

/-- 'parapetlaw02.CrcBuilt', WHERE WHAT IT READS IS OF BULK AT MOST 1048576: true; the input reads as it did. -/
def crcBuiltUptoRow : OpenClaim := { program := "ytcnlomknmhgpbaa", sum := "c824f9085c985fae0ce893be23f7301eebfe165e465175fe6f63eab254c915d0", func := "parapet/parapetlaw02.CrcBuilt", spec := "crcBuilt", inPlace := ["sync/atomic.LoadUint32", "(*internal/sync.Mutex).Lock", "internal/race.Disable", "sync/atomic.CompareAndSwapInt32", "internal/race.Enable", "internal/race.Acquire", "(*internal/sync.Mutex).lockSlow", "internal/sync.runtime_canSpin", "internal/sync.runtime_doSpin", "internal/sync.throw", "internal/sync.runtime_nanotime", "internal/sync.runtime_SemacquireMutex", "sync/atomic.AddInt32", "(*internal/sync.Mutex).Unlock", "internal/race.ReleaseMerge", "(*internal/sync.Mutex).unlockSlow", "internal/sync.fatal", "internal/sync.runtime_Semrelease", "sync/atomic.StoreUint32"], unfollowed := true, recurses := true, apart := false, narrowed := true }
def CrcBuiltUptoSaid : Prop := crcBuiltUptoRow.holds Try.pinned (OpenSpec.upto crcBuiltSpec)

/-- 'parapetlaw02.CrcOwn', WHERE WHAT IT READS IS OF BULK AT MOST 1048576: true; the input reads as it did. -/
def crcOwnUptoRow : OpenClaim := { program := "ytcnlomknmhgpbaa", sum := "c824f9085c985fae0ce893be23f7301eebfe165e465175fe6f63eab254c915d0", func := "parapet/parapetlaw02.CrcOwn", spec := "crcOwn", inPlace := ["sync/atomic.LoadUint32", "(*internal/sync.Mutex).Lock", "internal/race.Disable", "sync/atomic.CompareAndSwapInt32", "internal/race.Enable", "internal/race.Acquire", "(*internal/sync.Mutex).lockSlow", "internal/sync.runtime_canSpin", "internal/sync.runtime_doSpin", "internal/sync.throw", "internal/sync.runtime_nanotime", "internal/sync.runtime_SemacquireMutex", "sync/atomic.AddInt32", "(*internal/sync.Mutex).Unlock", "internal/race.ReleaseMerge", "(*internal/sync.Mutex).unlockSlow", "internal/sync.fatal", "internal/sync.runtime_Semrelease", "sync/atomic.StoreUint32"], unfollowed := true, recurses := true, apart := false, narrowed := true }
def CrcOwnUptoSaid : Prop := crcOwnUptoRow.holds Try.pinned (OpenSpec.upto crcOwnSpec)

end Rows
end Go.Proofs.Ytcnlomknmhgpbaa
