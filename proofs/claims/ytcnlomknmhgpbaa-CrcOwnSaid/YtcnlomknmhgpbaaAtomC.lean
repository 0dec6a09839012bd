/- Contracts of sync/atomic's types, in the run of one goroutine. -/
import Derived.Test.YtcnlomknmhgpbaaProg
import Derived.Test.YtcnlomknmhgpbaaHp
import Derived.Test.YtcnlomknmhgpbaaAtom
import Derived.WalkKit
import Derived.RegionTactic
import Derived.RegionCalls
import Derived.Deep.QuietTactic
import Derived.BigQuiet
namespace Go.Proofs.Ytcnlomknmhgpbaa.AtomC
open Go Go.RowKit Go.Proofs.Ytcnlomknmhgpbaa.Hp Go.Proofs.Ytcnlomknmhgpbaa.Atom
set_option linter.unusedVariables false
set_option linter.unusedSimpArgs false

/-- a bool's word -/
def b32 (b : Bool) : Int := if b then 1 else 0
theorem b32_bne (b : Bool) : (b32 b != 0) = b := by cases b <;> rfl
theorem bool_load (a : Addr) (b : Bool) (w : World) (hc : w.cell? a = some (.int .u32 (b32 b))) :
    Calls Try.prog 56 #[.pointer (some a)] w fun e w' => e = .returned (.bool b) ∧ w = w' := by
  have hl := run_call_load (P := Try.prog) Try.func58 (by kernel_rfl) (by kernel_rfl) (by kernel_rfl) .u32 (by kernel_rfl) hc
  have hb := b32_bne b
  go_enter Try.func56, Try.ntmps56
  go_wp2
  go_ret
  exact ⟨rfl, rfl⟩
theorem b32_call (b : Bool) (w : World) :
    Calls Try.prog 65 #[.bool b] w fun e w' => e = .returned (.int .u32 (b32 b)) ∧ w = w' := by
  cases b <;>
  · go_enter Try.func65, Try.ntmps65
    go_wp2
    go_ret
    exact ⟨rfl, rfl⟩
end Go.Proofs.Ytcnlomknmhgpbaa.AtomC
