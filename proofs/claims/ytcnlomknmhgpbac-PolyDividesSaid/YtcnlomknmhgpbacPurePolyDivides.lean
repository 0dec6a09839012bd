/- The law PolyDivides, as its printed function has it: it answers true for every input. -/
import Derived.Test.YtcnlomknmhgpbacLemP
namespace Go.Proofs.Ytcnlomknmhgpbac.Pure
open Go Go.RowKit Go.Proofs.Ytcnlomknmhgpbac.PP Go.Proofs.YtcnlomknmhgpbacW.PrintWords Go.Proofs.YtcnlomknmhgpbacW.PrintLast Go.Proofs.YtcnlomknmhgpbacW.PrintMore
open Go.Proofs.Ytcnlomknmhgpbac.Gf Go.Proofs.Ytcnlomknmhgpbac.Bt
theorem PolyDivides : parapetlaw01_PolyDivides.Pure := by
  intro a b ha hb
  obtain ⟨p, rfl, hp⟩ := u64_of_wf ha
  obtain ⟨q, rfl, hq⟩ := u64_of_wf hb
  apply Ev.rounds (g := fun k => parapetlaw01_PolyDivides.f k (p : Int) (q : Int))
  unfold parapetlaw01_PolyDivides.f
  refine Ev.bind awake_ev (Ev_ite_pos rfl ?_)
  by_cases z : q = 0
  · subst z
    have e1 : Ev (fun k => poly_DivMod.f k (p : Int) ((0 : Nat) : Int)) (0, 0, 10) := by
      unfold poly_DivMod.f; exact Ev_ite_pos rfl (Ev.now _)
    have e2 : Ev (fun k => parapetref01_DivMod.f k (p : Int) ((0 : Nat) : Int)) (0, 0, 10) := by
      unfold parapetref01_DivMod.f; exact Ev_ite_pos rfl (Ev.now _)
    exact Ev.bind e1 (Ev.bind e2 (Ev_ite_pos rfl (Ev_ite_pos rfl (Ev.now _))))
  · obtain ⟨d, hd⟩ := exists_deg z
    obtain ⟨A, h1, _, h3⟩ := div_ev hd hp hq
    obtain ⟨B, g1, g3⟩ := ref_div_ev hd hp hq
    have hAB : A = B := (div_unique hd.1 hd.2 (pm_lt hd.1 hd.2 p) (pm_lt hd.1 hd.2 p) (h1.symm.trans g1)).1
    subst hAB
    exact Ev.bind h3 (Ev.bind g3 (Ev_ite_pos rfl (Ev_ite_pos rfl (Ev.now _))))

end Go.Proofs.Ytcnlomknmhgpbac.Pure
