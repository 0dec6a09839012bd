/- The law PolyRing, as its printed function has it: it answers true for every input. -/
import Derived.Test.YtcnlomknmhgpbacLemP
namespace Go.Proofs.Ytcnlomknmhgpbac.Pure
open Go Go.RowKit Go.Proofs.Ytcnlomknmhgpbac.PP Go.Proofs.YtcnlomknmhgpbacW.PrintWords Go.Proofs.YtcnlomknmhgpbacW.PrintLast Go.Proofs.YtcnlomknmhgpbacW.PrintMore
open Go.Proofs.Ytcnlomknmhgpbac.Gf Go.Proofs.Ytcnlomknmhgpbac.Bt
theorem PolyRing : parapetlaw01_PolyRing.Pure := by
  intro a b c e ha hb hc he
  obtain ⟨p, rfl, hp⟩ := u64_of_wf ha
  obtain ⟨q, rfl, hq⟩ := u64_of_wf hb
  obtain ⟨s, rfl, hs⟩ := u64_of_wf hc
  obtain ⟨m, rfl, hm⟩ := u64_of_wf he
  apply Ev.rounds (g := fun k => parapetlaw01_PolyRing.f k (p : Int) (q : Int) (s : Int) (m : Int))
  unfold parapetlaw01_PolyRing.f
  refine Ev.bind awake_ev (Ev_ite_pos rfl ?_)
  by_cases z : m = 0
  · subst z; exact Ev_ite_pos rfl (Ev.now _)
  · obtain ⟨d, hd⟩ := exists_deg z
    have hd64 := hd.lt hm
    have hlt : ∀ x, pm m d x < 2 ^ 64 := fun x => Nat.lt_of_lt_of_le (pm_lt hd.1 hd.2 x) (pow64 (by omega))
    refine Ev_ite_neg (by omega) (Ev.bind (mul_ev hd hm hp hs) (Ev.bind (mul_ev hd hm hq hs) ?_))
    rw [xor64 hp hq]
    refine Ev.bind (mul_ev hd hm (Nat.xor_lt_two_pow hp hq) hs) (Ev.bind (mul_ev hd hm hs hp) (Ev.bind (mul_ev hd hm (hlt _) hq) (Ev.bind (mul_ev hd hm (hlt _) hp) ?_)))
    refine Ev_ite_pos ?_ (Ev_ite_pos ?_ ?_)
    · show bits .xor .u64 ((pm m d (cm p s) : Nat) : Int) ((pm m d (cm q s) : Nat) : Int) = ((pm m d (cm (p ^^^ q) s) : Nat) : Int)
      rw [xor64 (hlt _) (hlt _), xor_cm, pm_xor hd.1 hd.2]
    · show ((pm m d (cm p s) : Nat) : Int) = ((pm m d (cm s p) : Nat) : Int)
      rw [cm_comm]
    · have e1 : pm m d (cm (pm m d (cm p s)) q) = pm m d (cm (pm m d (cm q s)) p) := by
        rw [pm_mul hd.1 hd.2, pm_mul hd.1 hd.2, cm_comm p s, cm_assoc, cm_comm p q, ← cm_assoc, cm_comm s q]
      simp only [e1, beq_self_eq_true]
      exact Ev.now _

end Go.Proofs.Ytcnlomknmhgpbac.Pure
