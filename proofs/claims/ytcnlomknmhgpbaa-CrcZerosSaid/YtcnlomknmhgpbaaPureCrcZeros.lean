/- The law CrcZeros, as its printed function has it: it answers true for every input. -/
import Derived.Test.YtcnlomknmhgpbaaLemA
namespace Go.Proofs.Ytcnlomknmhgpbaa.Pure
open Go Go.RowKit Go.Proofs.Ytcnlomknmhgpbaa.PA Go.Proofs.YtcnlomknmhgpbaaW.PrintWords Go.Proofs.YtcnlomknmhgpbaaW.PrintLast Go.Proofs.YtcnlomknmhgpbaaW.PrintMore
open Go.Proofs.Ytcnlomknmhgpbaa.Gf Go.Proofs.Ytcnlomknmhgpbaa.Bt
theorem pol_zeros (n : Nat) : pol (List.replicate n 0) = 0 := by
  induction n with
  | zero => rfl
  | succ n ih => rw [List.replicate_succ, pol_cons, ih]; simp
theorem CrcZeros : parapetlaw02_CrcZeros.Pure := by
  intro l n hl _ hw hn
  have hb := by_of_wf hw
  apply Ev.rounds (g := fun k => parapetlaw02_CrcZeros.f k l n)
  unfold parapetlaw02_CrcZeros.f
  refine Ev.bind awake_ev (Ev_ite_pos rfl ?_)
  by_cases c : (l.length : Int) > 4000
  · exact Ev_ite_pos c (Ev.now _)
  refine Ev_ite_neg c ?_
  have hz0 : 0 ≤ Int.tmod (IntKind.u64.wrap n) 64 ∧ Int.tmod (IntKind.u64.wrap n) 64 < 64 := by
    rw [wrap_u64]
    have h0 : 0 ≤ n % 18446744073709551616 := by omega
    rw [Int.tmod_eq_emod_of_nonneg h0]; omega
  generalize Int.tmod (IntKind.u64.wrap n) 64 = z at hz0 ⊢
  rw [wrap64_id (by omega) (by omega)]
  refine Ev_ite_pos hz0.1 (Ev_ite_pos (by omega) (Ev_some ?_))
  refine Ev_ite_pos (by rw [List.length_replicate]; omega) (Ev_some ?_)
  have hz : By (List.replicate z.toNat 0) := by intro x hx; have := List.eq_of_mem_replicate hx; omega
  have hbz := hz.append hb
  have e : crc (List.replicate z.toNat 0 ++ l) = crc l := by
    unfold crc; rw [pol_append, pol_zeros]; simp
  refine Ev.bind (bits_ev hb (by omega)) (Ev.bind (bits_ev hbz (by rw [List.length_append, List.length_replicate]; omega)) ?_)
  rw [e]
  refine Ev_ite_pos rfl (Ev_some ?_)
  refine Ev_ite_pos (by rw [List.length_append, List.length_replicate]; simp; omega) ?_
  have e2 := crc_sealed (l := List.replicate z.toNat 0 ++ l)
  rw [e] at e2
  refine Ev.bind (bits_ev (hbz.append (word4_by _)) (by simp; omega)) ?_
  unfold word4 at e2
  rw [e2]
  exact Ev.now _

end Go.Proofs.Ytcnlomknmhgpbaa.Pure
