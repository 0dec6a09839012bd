/- The law UnitKinds, as its printed function has it: it answers true for every input. -/
import Derived.Test.YtlafkeijikbenacLemK
namespace Go.Proofs.Ytlafkeijikbenac.Pure
open Go Go.RowKit Go.Proofs.Ytlafkeijikbenac.PK Go.Proofs.YtlafkeijikbenacW.PrintWords Go.Proofs.YtlafkeijikbenacW.PrintLast Go.Proofs.YtlafkeijikbenacW.PrintMore
open Go.Proofs.Ytlafkeijikbenac.Gf Go.Proofs.Ytlafkeijikbenac.Bt
theorem UnitKinds : parapetlaw04_UnitKinds.Pure := by
  intro a _
  apply Ev.rounds (g := fun k => parapetlaw04_UnitKinds.f k a)
  unfold parapetlaw04_UnitKinds.f
  refine Ev.bind awake_ev (Ev_ite_pos rfl ?_)
  have h1 : unit_FromHost.f a = parapetref04_Host.f a := rfl
  have h2 : unit_FromDevice.f a = parapetref04_Device.f a := rfl
  have t1 : ∃ b, parapetref04_Host.f a = some b := by unfold parapetref04_Host.f; split <;> exact ⟨_, rfl⟩
  have t2 : ∃ b, parapetref04_Device.f a = some b := by unfold parapetref04_Device.f; split <;> exact ⟨_, rfl⟩
  obtain ⟨b, e1⟩ := t1
  obtain ⟨c, e2⟩ := t2
  rw [h1, h2, e1, e2]
  refine Ev_some (Ev_some (Ev_ite_pos (by simp) (Ev_some (Ev_some ?_))))
  rw [show (c == c) = true from by simp]
  exact Ev.now _

end Go.Proofs.Ytlafkeijikbenac.Pure
