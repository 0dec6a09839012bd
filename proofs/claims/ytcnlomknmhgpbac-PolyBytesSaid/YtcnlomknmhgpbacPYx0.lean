-- Written by a program of this session (wip/pr.sh): the functions' plain forms and their walks.
import Derived.Test.YtcnlomknmhgpbacMark
import Derived.Lib.SlBytesConst
import Derived.Lib.Hide
import Derived.Lib.SliceRun
import Derived.Test.YtcnlomknmhgpbacProg
import Derived.Below
import Derived.Deep.Draws
import Derived.Deep.AppendLies
import Derived.Maps.AppendAt
import Derived.OwnWalk
import Derived.Laws.BytesArg
import Derived.Laws.MakeOwn
import Derived.Laws.OwnMore
import Derived.Deep.OwnRows
import Derived.Tactics
import Derived.Lib.ConvBytes
import Derived.Laws.Slices
import Derived.WalkKit
import Derived.KernelRfl
import Derived.RowKit3
import Derived.Deep.LoopGhost
import Derived.Deep.QuietTactic
import Derived.BigQuiet
import Derived.WideLaws
import Derived.Deep.DeepCutAuto
import Derived.Deep.CutBlock
import Derived.Deep.RegionHeld3
import Derived.Laws.Rows
import Derived.Lib.AppendStr
import Derived.ArgAppend
import Derived.Laws.IdiomCopy
import Derived.OrdersHeld
import Derived.Laws.BitsLemmas
import Derived.RowKit
import Derived.Test.YtcnlomknmhgpbacWWords
import Derived.Test.YtcnlomknmhgpbacWLast
import Derived.Test.YtcnlomknmhgpbacWTab
import Derived.Test.YtcnlomknmhgpbacWFour
import Derived.Test.YtcnlomknmhgpbacWQPut
import Derived.Test.YtcnlomknmhgpbacWApart
import Derived.Test.YtcnlomknmhgpbacWArr
import Derived.Test.YtcnlomknmhgpbacWZeros
import Derived.Test.YtcnlomknmhgpbacWFoot
import Derived.Test.YtcnlomknmhgpbacWKept
import Derived.Test.YtcnlomknmhgpbacWShare
import Derived.Test.YtcnlomknmhgpbacWN
import Derived.Test.YtcnlomknmhgpbacWFootNe
import Derived.Test.YtcnlomknmhgpbacWAt
import Derived.Test.YtcnlomknmhgpbacWEqStruct
import Derived.Test.YtcnlomknmhgpbacWRepsOne
import Derived.Test.YtcnlomknmhgpbacWInv
import Derived.Test.YtcnlomknmhgpbacWInvWords
import Derived.Test.YtcnlomknmhgpbacWGuard
import Derived.Test.YtcnlomknmhgpbacWNEv
import Derived.Test.YtcnlomknmhgpbacWMore
namespace Go.Proofs.Ytcnlomknmhgpbac.PY
open Go.RowKit Go.Proofs.YtcnlomknmhgpbacW.PrintWords Go.Proofs.YtcnlomknmhgpbacW.PrintLast Go.Proofs.YtcnlomknmhgpbacW.PrintMore
attribute [local go_sem] max2_int min2_int max_two min_two max_three min_three max_four min_four   -- for this text's walks alone
set_option linter.unusedVariables false
set_option linter.unusedSimpArgs false



def errW : Option Int → Value
  | none => .nilIface
  | some c => .iface 0 (.int .i64 c)
theorem errW_none : errW none = .nilIface := rfl
theorem errW_some (c : Int) : errW (some c) = .iface 0 (.int .i64 c) := rfl

theorem info4 : (Try.prog.info? 4).map (fun i => (i.zero, i.size, i.bytes)) = some (some (.bool false), 1, 1) := by kernel_rfl
theorem info5 : (Try.prog.info? 5).map (fun i => (i.zero, i.size, i.bytes)) = some (some (.int .u8 0), 1, 1) := by kernel_rfl
-- the values' own types

end Go.Proofs.Ytcnlomknmhgpbac.PY
