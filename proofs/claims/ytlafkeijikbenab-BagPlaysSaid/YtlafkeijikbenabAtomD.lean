/- Contracts of sync/atomic's types, further ones. -/
import Derived.Test.YtlafkeijikbenabAtomC
import Derived.StillTailTactics
import Derived.Lib.Builder
namespace Go.Proofs.Ytlafkeijikbenab.AtomC
open Go Go.RowKit Go.Proofs.Ytlafkeijikbenab.Hp Go.Proofs.Ytlafkeijikbenab.Atom
set_option linter.unusedVariables false
set_option linter.unusedSimpArgs false

theorem b32_still (b : Bool) (w : World) : Calls Try.prog 86 #[.bool b] w fun e w' => e = .returned (.int .u32 (b32 b)) ∧ w' = w :=
  (b32_call b w).mono fun e w' ⟨h, h'⟩ => ⟨h, h'.symm⟩
set_option maxRecDepth 100000 in
theorem bool_store (a : Addr) (u : Value) (y : Bool) (w : World) (hc : w.cell? a = some u) (hz : w.frozen? a = false) :
    Calls Try.prog 92 #[.pointer (some a), .bool y] w fun e w' => e = .returned (.tuple #[]) ∧ w' = w.drew.setCell a (.int .u32 (b32 y)) := by
  have hc' : w.drew.cell? a = some u := by go_simp
  have hz' : w.drew.frozen? a = false := by go_simp
  have hst := run_call_store (P := Try.prog) Try.func95 (by kernel_rfl) (by kernel_rfl) (by kernel_rfl) (by kernel_rfl) (k := .u32) (y := b32 y) hc' hz'
  go_enter Try.func92, Try.ntmps92
  go_wp2
  refine wp_region_still_tail 5 (by kernel_rfl) (by kernel_rfl) ?_
  simp only [List.take_succ_cons, List.take_zero, List.drop_succ_cons, List.drop_zero]
  repeat (first | still_step | still_call (b32_still _ _))
  refine wpStill_nil ?_
  change wpList _ _ _ _ _ w.drew
  go_wp2
  go_end0
  exact ⟨rfl, rfl⟩
set_option maxRecDepth 100000 in
theorem bool_cas_ft (a : Addr) (x : Bool) (w : World) (hc : w.cell? a = some (.int .u32 (b32 x))) (hz : w.frozen? a = false) :
    Calls Try.prog 73 #[.pointer (some a), .bool false, .bool true] w fun e w' => e = .returned (.bool !x) ∧ w' = if x then w.drew else w.drew.setCell a (.int .u32 1) := by
  have hc' : w.drew.cell? a = some (.int .u32 (b32 x)) := by go_simp
  have hz' : w.drew.frozen? a = false := by go_simp
  have hst : (callFunc 85 #[.pointer (some a), .int .u32 (b32 false), .int .u32 (b32 true)]).run Try.prog w.drew = .ok (.value (.bool !x)) (if x then w.drew else w.drew.setCell a (.int .u32 1)) := by
    cases x
    · exact run_call_cas_hit (P := Try.prog) Try.func85 (by kernel_rfl) (by kernel_rfl) (by kernel_rfl) .u32 (by kernel_rfl) (x := 0) (y := 1) hc' hz'
    · exact run_call_cas_miss (P := Try.prog) Try.func85 (by kernel_rfl) (by kernel_rfl) (by kernel_rfl) .u32 (by kernel_rfl) (x := 1) (o := 0) (y := 1) hc' hz' (by decide)
  generalize (if x then w.drew else w.drew.setCell a (.int .u32 1)) = W' at hst ⊢
  go_enter Try.func73, Try.ntmps73
  go_wp2
  refine wp_region_still_tail 7 (by kernel_rfl) (by kernel_rfl) ?_
  simp only [List.take_succ_cons, List.take_zero, List.drop_succ_cons, List.drop_zero]
  repeat (first | still_step | still_call (b32_still _ _))
  refine wpStill_nil ?_
  change wpList _ _ _ _ _ w.drew
  go_wp2
  go_ret
  exact ⟨rfl, rfl⟩
theorem i64_add (a : Addr) (x y : Int) (w : World) (hc : w.cell? a = some (.int .i64 x)) (hz : w.frozen? a = false) :
    Calls Try.prog 67 #[.pointer (some a), .int .i64 y] w fun e w' => e = .returned (.int .i64 (wrap64 (x + y))) ∧ w' = w.setCell a (.int .i64 (wrap64 (x + y))) := by
  have hl := run_call_add (P := Try.prog) Try.func80 (by kernel_rfl) (by kernel_rfl) (by kernel_rfl) .i64 (by kernel_rfl) (y := y) (s := wrap64 (x + y)) hc hz (by simp [go_sem, wrap64, IntKind.wrap_i64])
  go_enter Try.func67, Try.ntmps67
  go_wp2
  go_ret
  exact ⟨rfl, rfl⟩
/-- a pointer to a record's block, or nil -/
def IsRec (w : World) (p : Option Addr) : Prop := p = none ∨ ∃ r c0 c1 c2 c3, p = some ⟨r, 0, none⟩ ∧ Has w r 178 [c0, c1, c2, c3]
theorem rec_from {w : World} {p : Option Addr} (h : IsRec w p) : (convert 125 123 (.pointer p)).run Try.prog w = .ok (.pointer p) w := by
  rcases h with rfl | ⟨r, c0, c1, c2, c3, rfl, h⟩
  · simp [convert, run_underlying Try.underlying125, run_underlying Try.underlying123, Conv.unsafePointer]
  · obtain ⟨j, hj, -⟩ := Option.map_eq_some_iff.1 (show (Try.prog.info? 178).map (fun i => i.size) = some 4 by kernel_rfl)
    exact Go.Lib.run_from_unsafe (P := Try.prog) (w := w) (e := 178) (cells := 4) (a := ⟨r, 0, none⟩) (src := 125) (dst := 123) Try.underlying125 Try.underlying123 hj (by unfold Has at h; simp [World.shape?, h]) (by kernel_rfl)
theorem rec_to {w : World} {p : Option Addr} (h : IsRec w p) : (convert 123 125 (.pointer p)).run Try.prog w = .ok (.pointer p) w := by
  rcases h with rfl | ⟨r, c0, c1, c2, c3, rfl, h⟩
  · simp [convert, run_underlying Try.underlying125, run_underlying Try.underlying123, Conv.unsafePointer]
  · obtain ⟨j, hj, hs⟩ := Option.map_eq_some_iff.1 (show (Try.prog.info? 178).map (fun i => i.size) = some 4 by kernel_rfl)
    exact Go.Lib.run_to_unsafe (P := Try.prog) (w := w) (e := 178) (cells := 4) (a := ⟨r, 0, none⟩) (src := 123) (dst := 125) Try.underlying123 Try.underlying125 hj (by rw [hs]; decide) (by unfold Has at h; simp [World.shape?, h]) (by simp)
end Go.Proofs.Ytlafkeijikbenab.AtomC
