/- Contracts of a nil meter's calls; of Note and Last. -/
import Derived.Test.YtlafkeijikbenaaMeterC
import Derived.Laws.ResultCell
import Derived.Lib.Hide
namespace Go.Proofs.Ytlafkeijikbenaa.MeterC
open Go Go.RowKit Go.Proofs.Ytlafkeijikbenaa.Hp Go.Proofs.Ytlafkeijikbenaa.Atom Go.Proofs.Ytlafkeijikbenaa.AtomC
set_option linter.unusedVariables false
set_option linter.unusedSimpArgs false
theorem add_nil (n : Int) (w : World) : Calls Try.prog 15 #[.pointer none, .int .u64 n] w fun e w' => e = .returned (.tuple #[.int .u64 0, .int .i64 1]) ∧ w = w' := by
  go_enter Try.func15, Try.ntmps15
  go_wp2
  go_ret2
  exact ⟨rfl, rfl⟩
theorem swap_nil (n : Int) (w : World) : Calls Try.prog 24 #[.pointer none, .int .u64 n] w fun e w' => e = .returned (.tuple #[.int .u64 0, .int .i64 1]) ∧ w = w' := by
  go_enter Try.func24, Try.ntmps24
  go_wp2
  go_ret2
  exact ⟨rfl, rfl⟩
theorem peak_nil (w : World) : Calls Try.prog 18 #[.pointer none] w fun e w' => e = .returned (.tuple #[.int .i64 0, .bool false]) ∧ w = w' := by
  go_enter Try.func18, Try.ntmps18
  go_wp2
  go_ret2
  exact ⟨rfl, rfl⟩
theorem total_nil (w : World) : Calls Try.prog 16 #[.pointer none] w fun e w' => e = .returned (.int .u64 0) ∧ w = w' := by
  go_enter Try.func16, Try.ntmps16
  go_wp2
  go_ret
  exact ⟨rfl, rfl⟩
theorem flags_nil (w : World) : Calls Try.prog 21 #[.pointer none] w fun e w' => e = .returned (.int .u32 0) ∧ w = w' := by
  go_enter Try.func21, Try.ntmps21
  go_wp2
  go_ret
  exact ⟨rfl, rfl⟩
theorem set_nil (n : Int) (w : World) : Calls Try.prog 19 #[.pointer none, .int .u32 n] w fun e w' => e = .returned (.int .u32 0) ∧ w = w' := by
  go_enter Try.func19, Try.ntmps19
  go_wp2
  go_ret
  exact ⟨rfl, rfl⟩
theorem clear_nil (n : Int) (w : World) : Calls Try.prog 20 #[.pointer none, .int .u32 n] w fun e w' => e = .returned (.int .u32 0) ∧ w = w' := by
  go_enter Try.func20, Try.ntmps20
  go_wp2
  go_ret
  exact ⟨rfl, rfl⟩
theorem raise_nil (n : Int) (w : World) : Calls Try.prog 17 #[.pointer none, .int .i64 n] w fun e w' => e = .returned (.bool false) ∧ w = w' := by
  go_enter Try.func17, Try.ntmps17
  go_wp2
  go_ret
  exact ⟨rfl, rfl⟩
theorem move_nil (n m : Int) (w : World) : Calls Try.prog 27 #[.pointer none, .int .u64 n, .int .u64 m] w fun e w' => e = .returned (.bool false) ∧ w = w' := by
  go_enter Try.func27, Try.ntmps27
  go_wp2
  go_ret
  exact ⟨rfl, rfl⟩
theorem turn_nil (v : Bool) (w : World) : Calls Try.prog 28 #[.pointer none, .bool v] w fun e w' => e = .returned (.bool false) ∧ w = w' := by
  go_enter Try.func28, Try.ntmps28
  go_wp2
  go_ret
  exact ⟨rfl, rfl⟩
theorem on_nil (w : World) : Calls Try.prog 29 #[.pointer none] w fun e w' => e = .returned (.bool false) ∧ w = w' := by
  go_enter Try.func29, Try.ntmps29
  go_wp2
  go_ret
  exact ⟨rfl, rfl⟩
/-- A record as a value. -/
structure R where
  at_ : Int
  code : Int
  session : Int
  number : Int
def R.cells (r : R) : List Value := [.int .i64 r.at_, .int .i64 r.code, .int .u32 r.session, .int .u32 r.number]
def R.val (r : R) : Value := .agg #[.int .i64 r.at_, .int .i64 r.code, .int .u32 r.session, .int .u32 r.number]
def R.zero : R := ⟨0, 0, 0, 0⟩
theorem last_nil (w : World) : Calls Try.prog 25 #[.pointer none] w fun e w' => e = .returned (.tuple #[R.zero.val, .bool false]) ∧ Kept [] w w' := by
  go_enter Try.func25, Try.ntmps25
  go_wp2
  refine bodyPost_ret (v := .tuple #[R.zero.val, .bool false]) (by simp [results, Try.results25, go_sem, R.zero, R.val]) rfl ⟨rfl, ?_⟩
  exact (Kept.refl _ _).alloc _
theorem note_nil (r : R) (w : World) : Calls Try.prog 26 #[.pointer none, r.val] w fun e w' => e = .returned (.tuple #[R.zero.val, .bool false]) ∧ Kept [] w w' := by
  unfold R.val
  go_enter Try.func26, Try.ntmps26
  go_wp2
  refine bodyPost_ret (v := .tuple #[R.zero.val, .bool false]) (by simp [results, Try.results26, go_sem, R.zero, R.val]) rfl ⟨rfl, ?_⟩
  exact ((Kept.refl _ _).alloc _).alloc _
end Go.Proofs.Ytlafkeijikbenaa.MeterC
