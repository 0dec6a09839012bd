/- The law PolyBytes, as its printed function has it: it answers true for every input. -/
import Derived.Test.YtcnlomknmhgpbacLemY
namespace Go.Proofs.Ytcnlomknmhgpbac.Pure
open Go Go.RowKit Go.Proofs.Ytcnlomknmhgpbac.PY Go.Proofs.YtcnlomknmhgpbacW.PrintWords Go.Proofs.YtcnlomknmhgpbacW.PrintLast Go.Proofs.YtcnlomknmhgpbacW.PrintMore
open Go.Proofs.Ytcnlomknmhgpbac.Gf Go.Proofs.Ytcnlomknmhgpbac.Bt
theorem PolyBytes : parapetlaw01_PolyBytes.Pure := by
  intro a b c _ _ hwa _ _ hwb hc
  have ba := by_of_wf hwa
  have bb := by_of_wf hwb
  obtain ⟨m, rfl, hm⟩ := u64_of_wf hc
  apply Ev.rounds (g := fun k => parapetlaw01_PolyBytes.f k a b (m : Int))
  unfold parapetlaw01_PolyBytes.f
  refine Ev.bind awake_ev (Ev_ite_pos rfl ?_)
  have tt : Ev (fun k => parapetlaw01_PolyBytes.j0 k a b (m : Int) true) true := Ev.step (fun k => parapetlaw01_PolyBytes.j0.eq_2 ..) (Ev_ite_pos rfl (Ev.now _))
  by_cases c1 : (a.length : Int) > 2000
  · exact Ev_ite_pos c1 tt
  refine Ev_ite_neg c1 ?_
  by_cases c2 : (b.length : Int) > 2000
  · rw [decide_eq_true c2]; exact tt
  rw [decide_eq_false c2]
  refine Ev.step (fun k => parapetlaw01_PolyBytes.j0.eq_2 ..) (Ev_ite_neg (by simp) ?_)
  by_cases z : m = 0
  · subst z
    have e1 : Ev (fun k => poly_Of.f k a ((0 : Nat) : Int)) (0, 10) := by unfold poly_Of.f; exact Ev_ite_pos rfl (Ev.now _)
    have e2 : Ev (fun k => parapetref01_Of.f k a ((0 : Nat) : Int)) (0, 10) := by unfold parapetref01_Of.f; exact Ev_ite_pos rfl (Ev.now _)
    refine Ev.bind e1 (Ev.bind e2 (Ev_ite_pos rfl ?_))
    simp only [bne_self_eq_false]
    exact Ev.step (fun k => parapetlaw01_PolyBytes.j1.eq_2 ..) (Ev_ite_neg (by simp) (Ev_ite_pos rfl (Ev.now _)))
  · obtain ⟨d, hd⟩ := exists_deg z
    have hd64 := hd.lt hm
    have hlt : ∀ x, pm m d x < 2 ^ 64 := fun x => Nat.lt_of_lt_of_le (pm_lt hd.1 hd.2 x) (pow64 (by omega))
    refine Ev.bind (of_ev hd hm ba (by omega)) (Ev.bind (rof_ev hd hm ba (by omega)) (Ev_ite_pos rfl ?_))
    simp only [bne_self_eq_false]
    refine Ev.step (fun k => parapetlaw01_PolyBytes.j1.eq_2 ..) (Ev_ite_neg (by simp) (Ev_ite_neg (by omega) (Ev.bind (of_ev hd hm bb (by omega)) (Ev_some (Ev_ite_pos (by simp; omega) (Ev_some (Ev_ite_pos (by simp; omega) ?_)))))))
    rw [List.nil_append]
    refine Ev.bind (of_ev hd hm (ba.append bb) (by simp; omega)) ?_
    have e : IntKind.u64.wrap (8 * (IntKind.u64.wrap ((b.length : Int)))) = ((8 * b.length : Nat) : Int) := by
      rw [wrap_u64, wrap_u64]; omega
    rw [e]
    refine Ev.bind (pow_ev hd hm (by omega)) (Ev.bind (mul_ev hd hm (hlt _) (hlt _)) ?_)
    have e2 : pm m d (cm (pm m d (pol a)) (pm m d (2 ^ (8 * b.length)))) = pm m d (pol a * 2 ^ (8 * b.length)) := by
      rw [cm_comm, pm_mul hd.1 hd.2, cm_comm, cm_pow, pm_shift hd.1 hd.2]
    have e3 : pm m d (pol (a ++ b)) = pm m d (pol a * 2 ^ (8 * b.length)) ^^^ pm m d (pol b) := by
      rw [pol_append_xor bb, pm_xor hd.1 hd.2]
    simp only [e2, e3]
    rw [xor64 (hlt _) (hlt _)]
    simp only [beq_self_eq_true]
    exact Ev.now _

end Go.Proofs.Ytcnlomknmhgpbac.Pure
