/- The law GateLazy, as its row asks for it. -/
import Derived.Test.YtlafkeijikbenaaS06d
namespace Go.Proofs.Ytlafkeijikbenaa.Law06
open Go Go.RowKit
theorem GateLazy_law (v : Int) (text : ByteArray) (n : Int) (W : World) (wv : (Lit.int .i64 v).wf = true) (_ : ∃ m, Go.Proofs.Ytlafkeijikbenaa.Fit.Fits Try.prog W m 9 (Value.string text).cells.toList) (wn : (Lit.int .i64 n).wf = true) :
    Calls Try.prog 10 #[.int .i64 v, .string text, .int .i64 n] W fun e w' => e = .returned (.bool true) ∧ Below W.heap.size W w' := GateLazy_walk v text n W wv wn
end Go.Proofs.Ytlafkeijikbenaa.Law06
