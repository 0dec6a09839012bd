/- The law CrcSeals, as its printed function has it: it answers true for every input. -/
import Derived.Test.YtcnlomknmhgpbaaLemE
namespace Go.Proofs.Ytcnlomknmhgpbaa.Pure
open Go Go.RowKit Go.Proofs.Ytcnlomknmhgpbaa.PE Go.Proofs.YtcnlomknmhgpbaaW.PrintWords Go.Proofs.YtcnlomknmhgpbaaW.PrintLast Go.Proofs.YtcnlomknmhgpbaaW.PrintMore
open Go.Proofs.Ytcnlomknmhgpbaa.Gf Go.Proofs.Ytcnlomknmhgpbaa.Bt
theorem rvalid_short {l : List Int} (h4 : ¬ 4 ≤ l.length) : Ev (fun k => parapetref02_Valid.f k l) false := by
  unfold parapetref02_Valid.f
  exact Ev_ite_neg (by omega) (Ev.now _)
theorem valid_short {l : List Int} (h4 : ¬ 4 ≤ l.length) : Ev (fun k => crc_Valid.f k l) false := by
  unfold crc_Valid.f
  exact Ev_ite_neg (by omega) (Ev.now _)
theorem CrcSeals : parapetlaw02_CrcSeals.Pure := by
  intro l _ _ hw
  have hb := by_of_wf hw
  apply Ev.rounds (g := fun k => parapetlaw02_CrcSeals.f k l)
  unfold parapetlaw02_CrcSeals.f
  refine Ev.bind awake_ev (Ev_ite_pos rfl ?_)
  by_cases q : (l.length : Int) > 4000
  · exact Ev_ite_pos q (Ev.now _)
  have hsl := sealed_length l
  refine Ev_ite_neg q (Ev.bind (seal_ev hb (by omega)) ?_)
  rw [generator_f]
  refine Ev_some (Ev.bind (of_ev GD G64 hb (by omega)) (Ev.bind (rseal_ev hb (by omega)) (Ev_ite_pos rfl (Ev.bind (valid_ev (sealed_by hb) (by omega) (by omega)) ?_))))
  rw [show decide (crc (sealed l) = 0) = true from decide_eq_true crc_sealed]
  refine Ev_ite_pos rfl ?_
  by_cases h4 : 4 ≤ l.length
  · refine Ev.bind (valid_ev hb (by omega) h4) (Ev.bind (rvalid_ev hb (by omega) h4) (Ev_ite_pos (by simp) (Ev.bind (valid_ev hb (by omega) h4) (Ev_ite_pos (by omega) ?_))))
    have e : (decide (crc l = 0) == (((pm G 32 (pol l) : Nat) : Int) == 0)) = true := by
      have h1 : (((pm G 32 (pol l) : Nat) : Int) == 0) = decide (crc l = 0) := by
        by_cases z : crc l = 0
        · rw [decide_eq_true z]
          have := pow32_cancel.1 z
          rw [this]; rfl
        · rw [decide_eq_false z]
          have : ¬ pm G 32 (pol l) = 0 := fun h => z (pow32_cancel.2 h)
          exact beq_eq_false_iff_ne.2 (by omega)
      rw [h1]; simp
    dsimp only
    rw [e]
    exact Ev.now _
  · exact Ev.bind (valid_short h4) (Ev.bind (rvalid_short h4) (Ev_ite_pos rfl (Ev.bind (valid_short h4) (Ev_ite_neg (by omega) (Ev.now _)))))

end Go.Proofs.Ytcnlomknmhgpbaa.Pure
