/- The law PolyMods, as its printed function has it: it answers true for every input. -/
import Derived.Test.YtcnlomknmhgpbacLemP
namespace Go.Proofs.Ytcnlomknmhgpbac.Pure
open Go Go.RowKit Go.Proofs.Ytcnlomknmhgpbac.PP Go.Proofs.YtcnlomknmhgpbacW.PrintWords Go.Proofs.YtcnlomknmhgpbacW.PrintLast Go.Proofs.YtcnlomknmhgpbacW.PrintMore
open Go.Proofs.Ytcnlomknmhgpbac.Gf Go.Proofs.Ytcnlomknmhgpbac.Bt
theorem PolyMods : parapetlaw01_PolyMods.Pure := by
  intro a b c ha hb hc
  obtain ⟨p, rfl, hp⟩ := u64_of_wf ha
  obtain ⟨q, rfl, hq⟩ := u64_of_wf hb
  obtain ⟨m, rfl, hm⟩ := u64_of_wf hc
  apply Ev.rounds (g := fun k => parapetlaw01_PolyMods.f k (p : Int) (q : Int) (m : Int))
  unfold parapetlaw01_PolyMods.f
  refine Ev.bind awake_ev (Ev_ite_pos rfl ?_)
  by_cases z : m = 0
  · subst z
    have e1 : Ev (fun k => poly_MulMod.f k (p : Int) (q : Int) ((0 : Nat) : Int)) (0, 10) := by
      unfold poly_MulMod.f; exact Ev_ite_pos rfl (Ev.now _)
    have e2 : Ev (fun k => parapetref01_MulMod.f k (p : Int) (q : Int) ((0 : Nat) : Int)) (0, 10) := by
      unfold parapetref01_MulMod.f; exact Ev_ite_pos rfl (Ev.now _)
    have e3 : Ev (fun k => poly_PowMod.f k (p : Int) ((0 : Nat) : Int)) (0, 10) := by
      unfold poly_PowMod.f; exact Ev_ite_pos rfl (Ev.now _)
    have e4 : Ev (fun k => parapetref01_PowMod.f k (p : Int) ((0 : Nat) : Int)) (0, 10) :=
      Ev.step (fun k => parapetref01_PowMod.f.eq_2 ..) (Ev_ite_pos rfl (Ev.now _))
    exact Ev.bind e1 (Ev.bind e2 (Ev.bind e3 (Ev.bind e4 (Ev_ite_pos rfl (Ev_ite_pos rfl (Ev_ite_pos rfl (Ev.now _)))))))
  · obtain ⟨d, hd⟩ := exists_deg z
    refine Ev.bind (mul_ev hd hm hp hq) (Ev.bind (rmul_ev hd hm hp hq) (Ev.bind (pow_ev hd hm hp) (Ev.bind (rpow_ev hd hm p hp) ?_)))
    exact Ev_ite_pos rfl (Ev_ite_pos rfl (Ev_ite_pos rfl (Ev.now _)))

end Go.Proofs.Ytcnlomknmhgpbac.Pure
