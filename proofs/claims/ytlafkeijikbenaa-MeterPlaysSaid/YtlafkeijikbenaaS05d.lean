/- The law MeterNil: the walk. -/
import Derived.Test.YtlafkeijikbenaaS05a
import Derived.Test.YtlafkeijikbenaaMeterN
namespace Go.Proofs.Ytlafkeijikbenaa.Law05
open Go Go.RowKit Go.Proofs.Ytlafkeijikbenaa.Hp Go.Proofs.Ytlafkeijikbenaa.Atom Go.Proofs.Ytlafkeijikbenaa.AtomC Go.Proofs.Ytlafkeijikbenaa.MeterC
set_option linter.unusedVariables false
set_option linter.unusedSimpArgs false
set_option maxRecDepth 100000 in
set_option maxHeartbeats 1600000 in
theorem MeterNil_walk (kind which a b c0 c1 c2 c3 : Int) (w : World) :
    Calls Try.prog 7 #[.agg #[.int .i64 kind, .int .i64 which, .int .u64 a, .int .u64 b, .int .i64 c0, .int .i64 c1, .int .u32 c2, .int .u32 c3]] w fun e w' => e = .returned (.bool true) ∧ Below w.heap.size w w' := by
  have hn := hnot
  have K0 := Kept.refl [] w
  go_enter Try.func7, Try.ntmps7
  go_wp2_with fail
  refine (awake_call _).mono ?_
  rintro e w0 ⟨rfl, k0⟩
  have hB : Has w0 w.heap.size 49 [.int .i64 kind, .int .i64 which, .int .u64 a, .int .u64 b, .int .i64 c0, .int .i64 c1, .int .u32 c2, .int .u32 c3] := k0.has (Has.new w _ _) (by simp)
  have d2 := hB.cell 2 (v := .int .u64 a) rfl
  have d3 := hB.cell 3 (v := .int .u64 b) rfl
  have d4 := hB.cell 4 (v := .int .i64 c0) rfl
  have d5 := hB.cell 5 (v := .int .i64 c1) rfl
  have d6 := hB.cell 6 (v := .int .u32 c2) rfl
  have d7 := hB.cell 7 (v := .int .u32 c3) rfl
  go_wp2_with (first | (go_at_call 15; refine (add_nil _ _).mono ?_; rintro e w' ⟨rfl, rfl⟩) | (go_at_call 24; refine (swap_nil _ _).mono ?_; rintro e w' ⟨rfl, rfl⟩) | (go_at_call 18; refine (peak_nil _).mono ?_; rintro e w' ⟨rfl, rfl⟩))
  refine (last_nil _).mono ?_
  rintro e w1 ⟨rfl, k1⟩
  simp only [R.zero, R.val]
  have hB1 := k1.has hB (by simp)
  clear d2 d3 d4 d5 d6 d7
  have hl1 := hB1.lt
  have d2 := hB1.cell 2 (v := .int .u64 a) rfl
  have d3 := hB1.cell 3 (v := .int .u64 b) rfl
  have d4 := hB1.cell 4 (v := .int .i64 c0) rfl
  have d5 := hB1.cell 5 (v := .int .i64 c1) rfl
  have d6 := hB1.cell 6 (v := .int .u32 c2) rfl
  have d7 := hB1.cell 7 (v := .int .u32 c3) rfl
  go_wp2_with fail
  refine (note_nil ⟨c0, c1, c2, c3⟩ _).mono ?_
  rintro e w2 ⟨rfl, k2⟩
  simp only [R.zero, R.val]
  have hz := k2.size
  rw [World.size_alloc] at hz
  have hB2 := k2.has (hB1.alloc _) (by simp)
  have hR2 := k2.has (Has.new w1 _ [.int .i64 0, .int .i64 0, .int .u32 0, .int .u32 0]) (by simp)
  clear d2 d3 d4 d5 d6 d7
  have hl2 := hB2.lt
  have d2 := hB2.cell 2 (v := .int .u64 a) rfl
  have d3 := hB2.cell 3 (v := .int .u64 b) rfl
  have r0 := hR2.cell 0 (v := .int .i64 0) rfl
  have r1 := hR2.cell 1 (v := .int .i64 0) rfl
  have r2 := hR2.cell 2 (v := .int .u32 0) rfl
  have r3 := hR2.cell 3 (v := .int .u32 0) rfl
  have hz2 : w1.heap.size < w2.heap.size := by omega
  go_wp2_with (first | (go_at_call 27; refine (move_nil _ _ _).mono ?_; rintro e w' ⟨rfl, rfl⟩) | (go_at_call 17; refine (raise_nil _ _).mono ?_; rintro e w' ⟨rfl, rfl⟩) | (go_at_call 19; refine (set_nil _ _).mono ?_; rintro e w' ⟨rfl, rfl⟩) | (go_at_call 20; refine (clear_nil _ _).mono ?_; rintro e w' ⟨rfl, rfl⟩) | (go_at_call 16; refine (total_nil _).mono ?_; rintro e w' ⟨rfl, rfl⟩) | (go_at_call 21; refine (flags_nil _).mono ?_; rintro e w' ⟨rfl, rfl⟩) | (go_at_call 28; refine (turn_nil _ _).mono ?_; rintro e w' ⟨rfl, rfl⟩) | (go_at_call 29; refine (on_nil _).mono ?_; rintro e w' ⟨rfl, rfl⟩))
  go_ret
  exact ⟨rfl, (((((((Kept.refl [] w).alloc _).trans k0).trans k1).alloc _).trans k2).alloc _).toBelow (by simp)⟩
end Go.Proofs.Ytlafkeijikbenaa.Law05
