/- The document's check: a contract out of its printed walk. -/
import Derived.Test.YtcnlomknmhgpbaaBrS
import Derived.Test.YtcnlomknmhgpbaaLemT
namespace Go.Proofs.Ytcnlomknmhgpbaa.BrT
open Go Go.RowKit Go.Proofs.Ytcnlomknmhgpbaa.Hp Go.Proofs.Ytcnlomknmhgpbaa.Sl Go.Proofs.Ytcnlomknmhgpbaa.Ap Go.Proofs.Ytcnlomknmhgpbaa.Br Go.Proofs.YtcnlomknmhgpbaaW.PrintWords Go.Proofs.YtcnlomknmhgpbaaW.PrintLast Go.Proofs.YtcnlomknmhgpbaaW.PrintMore Go.Proofs.Ytcnlomknmhgpbaa.Gf Go.Proofs.Ytcnlomknmhgpbaa.Bt Go.Proofs.Ytcnlomknmhgpbaa.Pure Go.Proofs.Ytcnlomknmhgpbaa.PT
set_option linter.unusedVariables false
set_option linter.unusedSimpArgs false
theorem rsum_call (s : Value) (l : List Int) (W : World) (hs : Bytes W s l) (hb : By l) (hl : l.length ≤ 1000000) :
    Calls Try.prog 28 #[s] W fun x W' => x = .returned (.int .u32 ((crc l : Nat) : Int)) ∧ Hp.Kept [] W W' := by
  obtain ⟨p, q, rfl⟩ := BrS.slOf hs
  obtain ⟨K, hK⟩ := rsum_ev (l := l) hb (by omega)
  refine (parapetref02_Sum.calls K p q l _ W (C_of_bytes hs).1 (C_of_bytes hs).2 (hK K (Nat.le_refl _))).mono ?_
  rintro x W' ⟨rfl, hB⟩
  exact ⟨rfl, kept_of_below hB⟩
end Go.Proofs.Ytcnlomknmhgpbaa.BrT
