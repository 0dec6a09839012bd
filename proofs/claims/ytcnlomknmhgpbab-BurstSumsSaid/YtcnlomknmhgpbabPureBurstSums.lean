/- The law BurstSums, as its printed function has it: it answers true for every input. -/
import Derived.Test.YtcnlomknmhgpbabLemS
namespace Go.Proofs.Ytcnlomknmhgpbab.Pure
open Go Go.RowKit Go.Proofs.Ytcnlomknmhgpbab.PS Go.Proofs.YtcnlomknmhgpbabW.PrintWords Go.Proofs.YtcnlomknmhgpbabW.PrintLast Go.Proofs.YtcnlomknmhgpbabW.PrintMore
open Go.Proofs.Ytcnlomknmhgpbab.Gf Go.Proofs.Ytcnlomknmhgpbab.Bt
theorem sums_j1 {a b c : List Int} (ba : By a) (bb : By b) (bc : By c) (n : Nat) (h1 : n ≤ a.length) (h2 : n ≤ b.length) (h3 : n ≤ c.length) : Ev (fun k => parapetlaw03_BurstSums.j1 k a b c (n : Int)) true := by
  refine Ev.step (fun k => parapetlaw03_BurstSums.j1.eq_2 ..) ?_
  by_cases h : (n : Int) > 4000
  · exact Ev_ite_pos h (Ev.now _)
  refine Ev_ite_neg h (Ev_ite_pos (by omega) (Ev_ite_pos (by omega) (Ev_ite_pos (by omega) ?_)))
  rw [Int.toNat_natCast]
  have la : (a.take n).length = n := by simp; omega
  have lb : (b.take n).length = n := by simp; omega
  have lc : (c.take n).length = n := by simp; omega
  have ha := by_take ba n
  have hb := by_take bb n
  have hc := by_take bc n
  generalize a.take n = x at *
  generalize b.take n = y at *
  generalize c.take n = z at *
  have l1 := xl_length x y (by omega)
  have l2 := xl_length x z (by omega)
  have l3 := xl_length y z (by omega)
  refine Ev.bind (turn_ev (by omega) (by omega)) (Ev_ite_pos (by omega) (Ev.bind (turn_ev (a := xl x y) (b := z) (by omega) (by omega)) (Ev.bind (turn_ev (by omega) (by omega)) (Ev.bind (turn_ev (a := xl x z) (b := y) (by omega) (by omega)) (Ev.bind (turn_ev (by omega) (by omega)) (Ev.bind (turn_ev (a := x) (b := xl y z) (by omega) (by omega)) ?_))))))
  have e1 : xl (xl x y) z = xl x (xl y z) := xl_assoc ha hb hc
  have e2 : xl (xl x z) y = xl x (xl y z) := by rw [xl_assoc ha hc hb, xl_comm hc hb]
  simp only [e1, e2, beq_self_eq_true]
  refine Ev_ite_pos trivial (Ev_ite_pos trivial ?_)
  exact Ev.now _
theorem BurstSums : parapetlaw03_BurstSums.Pure := by
  intro a b c _ _ hwa _ _ hwb _ _ hwc
  have ba := by_of_wf hwa
  have bb := by_of_wf hwb
  have bc := by_of_wf hwc
  apply Ev.rounds (g := fun k => parapetlaw03_BurstSums.f k a b c)
  unfold parapetlaw03_BurstSums.f
  refine Ev.bind awake_ev (Ev_ite_pos rfl ?_)
  have j : ∀ n : Nat, n ≤ a.length → n ≤ b.length → Ev (fun k => parapetlaw03_BurstSums.j0 k a b c (n : Int)) true := by
    intro n h1 h2
    refine Ev.step (fun k => parapetlaw03_BurstSums.j0.eq_2 ..) ?_
    by_cases h : (c.length : Int) < (n : Int)
    · exact Ev_ite_pos h (sums_j1 ba bb bc c.length (by omega) (by omega) (Nat.le_refl _))
    · exact Ev_ite_neg h (sums_j1 ba bb bc n h1 h2 (by omega))
  by_cases h : (b.length : Int) < (a.length : Int)
  · exact Ev_ite_pos h (j b.length (by omega) (Nat.le_refl _))
  · exact Ev_ite_neg h (j a.length (Nat.le_refl _) (by omega))

end Go.Proofs.Ytcnlomknmhgpbab.Pure
