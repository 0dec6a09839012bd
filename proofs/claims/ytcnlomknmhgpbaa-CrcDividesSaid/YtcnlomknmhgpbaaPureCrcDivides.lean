/- The law CrcDivides, as its printed function has it: it answers true for every input. -/
import Derived.Test.YtcnlomknmhgpbaaLemA
namespace Go.Proofs.Ytcnlomknmhgpbaa.Pure
open Go Go.RowKit Go.Proofs.Ytcnlomknmhgpbaa.PA Go.Proofs.YtcnlomknmhgpbaaW.PrintWords Go.Proofs.YtcnlomknmhgpbaaW.PrintLast Go.Proofs.YtcnlomknmhgpbaaW.PrintMore
open Go.Proofs.Ytcnlomknmhgpbaa.Gf Go.Proofs.Ytcnlomknmhgpbaa.Bt
theorem CrcDivides : parapetlaw02_CrcDivides.Pure := by
  intro l hl _ hw
  have hb := by_of_wf hw
  apply Ev.rounds (g := fun k => parapetlaw02_CrcDivides.f k l)
  unfold parapetlaw02_CrcDivides.f
  refine Ev.bind awake_ev (Ev_ite_pos rfl ?_)
  by_cases c : (l.length : Int) > 4000
  · exact Ev_ite_pos c (Ev.now _)
  refine Ev_ite_neg c (Ev_some ?_)
  have hz : By [0, 0, 0, 0] := by intro x hx; simp at hx; omega
  refine Ev_ite_pos (by simp; omega) (Ev_some (Ev_some (Ev_ite_pos (by simp; omega) (Ev_some ?_))))
  rw [List.nil_append]
  refine Ev.bind (of_ev GD G64 (hb.append hz) (by simp; omega)) (Ev_ite_pos rfl (Ev.bind (bits_ev hb (by omega)) ?_))
  have e : pm G 32 (pol (l ++ [0, 0, 0, 0])) = crc l := by
    have e0 : pol [0, 0, 0, 0] = 0 := by simp [pol]
    have e1 : 8 * ([0, 0, 0, 0] : List Int).length = 32 := rfl
    unfold crc; rw [pol_append, e0, Nat.add_zero, e1]
  rw [e, wrap_u64]
  have := crc_lt l
  rw [show ((crc l : Nat) : Int) % 18446744073709551616 = ((crc l : Nat) : Int) from by omega]
  simp only [beq_self_eq_true]
  exact Ev.now _

end Go.Proofs.Ytcnlomknmhgpbaa.Pure
