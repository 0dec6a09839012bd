/- The law PolyEven, as its printed function has it: it answers true for every input. -/
import Derived.Test.YtcnlomknmhgpbacLemP
namespace Go.Proofs.Ytcnlomknmhgpbac.Pure
open Go Go.RowKit Go.Proofs.Ytcnlomknmhgpbac.PP Go.Proofs.YtcnlomknmhgpbacW.PrintWords Go.Proofs.YtcnlomknmhgpbacW.PrintLast Go.Proofs.YtcnlomknmhgpbacW.PrintMore
open Go.Proofs.Ytcnlomknmhgpbac.Gf Go.Proofs.Ytcnlomknmhgpbac.Bt
theorem red3 (r b : Nat) (hr : r < 2) (hb : b < 2) : red 3 1 (2 * r ^^^ b) = (b + r) % 2 := by
  have h : ∀ r, r < 2 → ∀ b, b < 2 → red 3 1 (2 * r ^^^ b) = (b + r) % 2 := by decide +kernel
  exact h r hr b hb
theorem pm3 : ∀ (n p : Nat), p < 2 ^ n → pm 3 1 p = wt n p % 2 := by
  intro n
  induction n with
  | zero => intro p hp; obtain rfl : p = 0 := by omega
            rw [pm_zero]; rfl
  | succ n ih =>
    intro p hp
    rw [pm_eq, red3 _ _ (by rw [ih _ (by omega)]; omega) (by omega), ih _ (by omega)]
    show _ = (p % 2 + wt n (p / 2)) % 2
    omega
theorem PolyEven : parapetlaw01_PolyEven.Pure := by
  intro a ha
  obtain ⟨p, rfl, hp⟩ := u64_of_wf ha
  apply Ev.rounds (g := fun k => parapetlaw01_PolyEven.f k (p : Int))
  unfold parapetlaw01_PolyEven.f
  refine Ev.bind awake_ev (Ev_ite_pos rfl ?_)
  have hd : Deg 3 1 := ⟨by decide, by decide⟩
  obtain ⟨A, h1, _, h3⟩ := div_ev (q := 3) hd hp (by omega)
  refine Ev.bind h3 (Ev_ite_pos rfl ?_)
  rw [weight_f hp]
  refine Ev_some ?_
  simp only []
  rw [pm3 64 p hp, Int.tmod_eq_emod_of_nonneg (by omega), show ((wt 64 p % 2 : Nat) : Int) = ((wt 64 p : Nat) : Int) % 2 from by omega]
  simp only [beq_self_eq_true]
  exact Ev.now _

end Go.Proofs.Ytcnlomknmhgpbac.Pure
