/- The law MeterNil: its argument's cells. -/
import Derived.Test.YtlafkeijikbenaaS05d
import Derived.Test.YtlafkeijikbenaaFit
namespace Go.Proofs.Ytlafkeijikbenaa.Law05
open Go Go.RowKit Go.Proofs.Ytlafkeijikbenaa.Hp Go.Proofs.Ytlafkeijikbenaa.Fit
set_option linter.unusedVariables false
set_option linter.unusedSimpArgs false
/-- What the cells of a struct hold. -/
theorem op_cells {w : World} {n : Nat} {cs : List Value} (h : Fits Try.prog w n 49 cs) :
    ∃ (x0 : Int) (x1 : Int) (x2 : Int) (x3 : Int) (x4 : Int) (x5 : Int) (x6 : Int) (x7 : Int), cs = [.int .i64 x0, .int .i64 x1, .int .u64 x2, .int .u64 x3, .int .i64 x4, .int .i64 x5, .int .u32 x6, .int .u32 x7] ∧ (Lit.int .i64 x0).wf = true ∧ (Lit.int .i64 x1).wf = true ∧ (Lit.int .u64 x2).wf = true ∧ (Lit.int .u64 x3).wf = true ∧ (Lit.int .i64 x4).wf = true ∧ (Lit.int .i64 x5).wf = true ∧ (Lit.int .u32 x6).wf = true ∧ (Lit.int .u32 x7).wf = true := by
  have hl := fits_len Try.underlying49 h 8 (by kernel_rfl)
  match cs, hl with
  | [v0, v1, v2, v3, v4, v5, v6, v7], _ =>
  obtain ⟨n1, h1⟩ := fits_field Try.underlying49 h 0 _ rfl 1 (by kernel_rfl) [v0] rfl
  obtain ⟨x0, e1, w1⟩ := fits_int Try.underlying3 h1
  obtain rfl : v0 = .int .i64 x0 := (List.cons.inj e1).1
  obtain ⟨n2, h2⟩ := fits_field Try.underlying49 h 1 _ rfl 1 (by kernel_rfl) [v1] rfl
  obtain ⟨x1, e2, w2⟩ := fits_int Try.underlying3 h2
  obtain rfl : v1 = .int .i64 x1 := (List.cons.inj e2).1
  obtain ⟨n3, h3⟩ := fits_field Try.underlying49 h 2 _ rfl 1 (by kernel_rfl) [v2] rfl
  obtain ⟨x2, e3, w3⟩ := fits_int Try.underlying26 h3
  obtain rfl : v2 = .int .u64 x2 := (List.cons.inj e3).1
  obtain ⟨n4, h4⟩ := fits_field Try.underlying49 h 3 _ rfl 1 (by kernel_rfl) [v3] rfl
  obtain ⟨x3, e4, w4⟩ := fits_int Try.underlying26 h4
  obtain rfl : v3 = .int .u64 x3 := (List.cons.inj e4).1
  obtain ⟨n5, h5⟩ := fits_field Try.underlying49 h 4 _ rfl 4 (by kernel_rfl) [v4, v5, v6, v7] rfl
  obtain ⟨n6, h6⟩ := fits_field Try.underlying44 h5 0 _ rfl 1 (by kernel_rfl) [v4] rfl
  obtain ⟨x4, e6, w6⟩ := fits_int Try.underlying3 h6
  obtain rfl : v4 = .int .i64 x4 := (List.cons.inj e6).1
  obtain ⟨n7, h7⟩ := fits_field Try.underlying44 h5 1 _ rfl 1 (by kernel_rfl) [v5] rfl
  obtain ⟨x5, e7, w7⟩ := fits_int Try.underlying27 h7
  obtain rfl : v5 = .int .i64 x5 := (List.cons.inj e7).1
  obtain ⟨n8, h8⟩ := fits_field Try.underlying44 h5 2 _ rfl 1 (by kernel_rfl) [v6] rfl
  obtain ⟨x6, e8, w8⟩ := fits_int Try.underlying37 h8
  obtain rfl : v6 = .int .u32 x6 := (List.cons.inj e8).1
  obtain ⟨n9, h9⟩ := fits_field Try.underlying44 h5 3 _ rfl 1 (by kernel_rfl) [v7] rfl
  obtain ⟨x7, e9, w9⟩ := fits_int Try.underlying37 h9
  obtain rfl : v7 = .int .u32 x7 := (List.cons.inj e9).1
  exact ⟨x0, x1, x2, x3, x4, x5, x6, x7, rfl, w1, w2, w3, w4, w6, w7, w8, w9⟩
theorem MeterNil_law (cs : Array Value) (w : World) (hz : cs.size = 8) (h : ∃ n, Fits Try.prog w n 49 (Value.agg cs).cells.toList) :
    Calls Try.prog 7 #[.agg cs] w fun e w' => e = .returned (.bool true) ∧ Below w.heap.size w w' := by
  obtain ⟨n, h⟩ := h
  obtain ⟨kind, which, a, b, c0, c1, c2, c3, e, -⟩ := op_cells h
  obtain ⟨cl⟩ := cs
  obtain rfl : cl = _ := e
  exact MeterNil_walk kind which a b c0 c1 c2 c3 w
end Go.Proofs.Ytlafkeijikbenaa.Law05
