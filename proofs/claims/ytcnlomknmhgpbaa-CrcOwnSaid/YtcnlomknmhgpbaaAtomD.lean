/- Contracts of sync/atomic's types, further ones. -/
import Derived.Test.YtcnlomknmhgpbaaAtomC
import Derived.StillTailTactics
import Derived.Lib.Builder
namespace Go.Proofs.Ytcnlomknmhgpbaa.AtomC
open Go Go.RowKit Go.Proofs.Ytcnlomknmhgpbaa.Hp Go.Proofs.Ytcnlomknmhgpbaa.Atom
set_option linter.unusedVariables false
set_option linter.unusedSimpArgs false

theorem b32_still (b : Bool) (w : World) : Calls Try.prog 65 #[.bool b] w fun e w' => e = .returned (.int .u32 (b32 b)) ∧ w' = w :=
  (b32_call b w).mono fun e w' ⟨h, h'⟩ => ⟨h, h'.symm⟩
set_option maxRecDepth 100000 in
theorem bool_store (a : Addr) (u : Value) (y : Bool) (w : World) (hc : w.cell? a = some u) (hz : w.frozen? a = false) :
    Calls Try.prog 61 #[.pointer (some a), .bool y] w fun e w' => e = .returned (.tuple #[]) ∧ w' = w.drew.setCell a (.int .u32 (b32 y)) := by
  have hc' : w.drew.cell? a = some u := by go_simp
  have hz' : w.drew.frozen? a = false := by go_simp
  have hst := run_call_store (P := Try.prog) Try.func64 (by kernel_rfl) (by kernel_rfl) (by kernel_rfl) (by kernel_rfl) (k := .u32) (y := b32 y) hc' hz'
  go_enter Try.func61, Try.ntmps61
  go_wp2
  refine wp_region_still_tail 5 (by kernel_rfl) (by kernel_rfl) ?_
  simp only [List.take_succ_cons, List.take_zero, List.drop_succ_cons, List.drop_zero]
  repeat (first | still_step | still_call (b32_still _ _))
  refine wpStill_nil ?_
  change wpList _ _ _ _ _ w.drew
  go_wp2
  go_end0
  exact ⟨rfl, rfl⟩
end Go.Proofs.Ytcnlomknmhgpbaa.AtomC
