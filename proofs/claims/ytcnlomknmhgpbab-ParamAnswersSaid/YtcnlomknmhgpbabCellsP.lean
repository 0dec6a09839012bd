/- What the cells of a parameter set hold. -/
import Derived.Test.YtcnlomknmhgpbabProg
import Derived.Test.YtcnlomknmhgpbabFit
import Derived.KernelRfl
namespace Go.Proofs.Ytcnlomknmhgpbab.Cells
open Go Go.RowKit Go.Proofs.Ytcnlomknmhgpbab.Hp Go.Proofs.Ytcnlomknmhgpbab.Fit
set_option linter.unusedVariables false
set_option linter.unusedSimpArgs false
/-- What the cells of a struct hold. -/
theorem param_cells {w : World} {n : Nat} {cs : List Value} (h : Fits Try.prog w n 24 cs) :
    ∃ (x0 : Int) (x1 : Int) (x2 : Int) (x3 : Int) (x4 : Int), cs = [.int .u32 x0, .int .i64 x1, .int .i64 x2, .int .i64 x3, .int .u32 x4] ∧ (Lit.int .u32 x0).wf = true ∧ (Lit.int .i64 x1).wf = true ∧ (Lit.int .i64 x2).wf = true ∧ (Lit.int .i64 x3).wf = true ∧ (Lit.int .u32 x4).wf = true := by
  have hl := fits_len Try.underlying24 h 5 (by kernel_rfl)
  match cs, hl with
  | [v0, v1, v2, v3, v4], _ =>
  obtain ⟨n1, h1⟩ := fits_field Try.underlying24 h 0 _ rfl 1 (by kernel_rfl) [v0] rfl
  obtain ⟨x0, e1, w1⟩ := fits_int Try.underlying22 h1
  obtain rfl : v0 = .int .u32 x0 := (List.cons.inj e1).1
  obtain ⟨n2, h2⟩ := fits_field Try.underlying24 h 1 _ rfl 1 (by kernel_rfl) [v1] rfl
  obtain ⟨x1, e2, w2⟩ := fits_int Try.underlying3 h2
  obtain rfl : v1 = .int .i64 x1 := (List.cons.inj e2).1
  obtain ⟨n3, h3⟩ := fits_field Try.underlying24 h 2 _ rfl 1 (by kernel_rfl) [v2] rfl
  obtain ⟨x2, e3, w3⟩ := fits_int Try.underlying3 h3
  obtain rfl : v2 = .int .i64 x2 := (List.cons.inj e3).1
  obtain ⟨n4, h4⟩ := fits_field Try.underlying24 h 3 _ rfl 1 (by kernel_rfl) [v3] rfl
  obtain ⟨x3, e4, w4⟩ := fits_int Try.underlying3 h4
  obtain rfl : v3 = .int .i64 x3 := (List.cons.inj e4).1
  obtain ⟨n5, h5⟩ := fits_field Try.underlying24 h 4 _ rfl 1 (by kernel_rfl) [v4] rfl
  obtain ⟨x4, e5, w5⟩ := fits_int Try.underlying22 h5
  obtain rfl : v4 = .int .u32 x4 := (List.cons.inj e5).1
  exact ⟨x0, x1, x2, x3, x4, rfl, w1, w2, w3, w4, w5⟩
end Go.Proofs.Ytcnlomknmhgpbab.Cells
