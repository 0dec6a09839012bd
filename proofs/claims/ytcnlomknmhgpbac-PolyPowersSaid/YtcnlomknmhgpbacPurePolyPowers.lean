/- The law PolyPowers, as its printed function has it: it answers true for every input. -/
import Derived.Test.YtcnlomknmhgpbacLemP
namespace Go.Proofs.Ytcnlomknmhgpbac.Pure
open Go Go.RowKit Go.Proofs.Ytcnlomknmhgpbac.PP Go.Proofs.YtcnlomknmhgpbacW.PrintWords Go.Proofs.YtcnlomknmhgpbacW.PrintLast Go.Proofs.YtcnlomknmhgpbacW.PrintMore
open Go.Proofs.Ytcnlomknmhgpbac.Gf Go.Proofs.Ytcnlomknmhgpbac.Bt
theorem PolyPowers : parapetlaw01_PolyPowers.Pure := by
  intro a b c ha hb hc
  obtain ⟨n, rfl, hn⟩ := u64_of_wf ha
  obtain ⟨j, rfl, hj⟩ := u64_of_wf hb
  obtain ⟨m, rfl, hm⟩ := u64_of_wf hc
  apply Ev.rounds (g := fun k => parapetlaw01_PolyPowers.f k (n : Int) (j : Int) (m : Int))
  unfold parapetlaw01_PolyPowers.f
  refine Ev.bind awake_ev (Ev_ite_pos rfl ?_)
  have tt : Ev (fun k => parapetlaw01_PolyPowers.j0 k (n : Int) (j : Int) (m : Int) true) true :=
    Ev.step (fun k => parapetlaw01_PolyPowers.j0.eq_2 ..) (Ev_ite_pos rfl (Ev.now _))
  by_cases z : m = 0
  · subst z; exact Ev_ite_pos rfl tt
  refine Ev_ite_neg (by omega) ?_
  by_cases c1 : (n : Int) > 9223372036854775808
  · exact Ev_ite_pos c1 tt
  refine Ev_ite_neg c1 ?_
  by_cases c2 : (j : Int) ≥ 9223372036854775808
  · rw [decide_eq_true c2]; exact tt
  rw [decide_eq_false c2]
  obtain ⟨d, hd⟩ := exists_deg z
  have hd64 := hd.lt hm
  have hlt : ∀ x, pm m d x < 2 ^ 64 := fun x => Nat.lt_of_lt_of_le (pm_lt hd.1 hd.2 x) (pow64 (by omega))
  refine Ev.step (fun k => parapetlaw01_PolyPowers.j0.eq_2 ..) (Ev_ite_neg (by simp) (Ev.bind (pow_ev hd hm hn) (Ev.bind (pow_ev hd hm hj) ?_)))
  have e1 : IntKind.u64.wrap ((n : Int) + (j : Int)) = ((n + j : Nat) : Int) := by rw [wrap_u64]; omega
  rw [e1]
  refine Ev.bind (pow_ev hd hm (by omega)) (Ev.bind (mul_ev hd hm (hlt _) (hlt _)) ?_)
  have e2 : pm m d (cm (pm m d (2 ^ n)) (pm m d (2 ^ j))) = pm m d (2 ^ (n + j)) := by
    rw [pm_mul hd.1 hd.2, cm_comm, pm_mul hd.1 hd.2, cm_pow, ← Nat.pow_add, Nat.add_comm]
  simp only [e2, beq_self_eq_true]
  exact Ev.now _

end Go.Proofs.Ytcnlomknmhgpbac.Pure
