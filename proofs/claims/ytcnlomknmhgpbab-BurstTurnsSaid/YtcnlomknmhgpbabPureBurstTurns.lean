/- The law BurstTurns, as its printed function has it: it answers true for every input. -/
import Derived.Test.YtcnlomknmhgpbabLemB
namespace Go.Proofs.Ytcnlomknmhgpbab.Pure
open Go Go.RowKit Go.Proofs.Ytcnlomknmhgpbab.PB Go.Proofs.YtcnlomknmhgpbabW.PrintWords Go.Proofs.YtcnlomknmhgpbabW.PrintLast Go.Proofs.YtcnlomknmhgpbabW.PrintMore
open Go.Proofs.Ytcnlomknmhgpbab.Gf Go.Proofs.Ytcnlomknmhgpbab.Bt
theorem zweight_loop : ∀ (n : Nat) (l : List Int) (pre : List Int), l = List.replicate n 0 → (pre ++ l).length ≤ 140737488355328 → Ev (fun k => burst_Weight.l0 k 0 (pre ++ l) ((pre ++ l).length : Int) (pre.length : Int)) 0 := by
  intro n
  induction n with
  | zero =>
    intro l pre h _
    subst h
    exact Ev.step (fun k => burst_Weight.l0.eq_2 ..) (Ev_ite_neg (by simp) (Ev.now _))
  | succ n ih =>
    intro l pre h hl
    subst h
    rw [List.replicate_succ] at hl ⊢
    have hlt : ((pre.length : Nat) : Int) < ((pre ++ 0 :: List.replicate n 0).length : Int) := by simp; omega
    refine Ev.step (fun k => burst_Weight.l0.eq_2 ..) (Ev_ite_pos hlt (Ev_ite_pos (by omega) (Ev_ite_pos hlt ?_)))
    rw [rd_at]
    have e : bits_OnesCount8.f 0 = some 0 := by decide +kernel
    rw [e]
    refine Ev_some ?_
    have g := ih _ (pre ++ [0]) rfl (by simpa using hl)
    have e3 : ((pre ++ [(0 : Int)]).length : Int) = ((pre.length + 1 : Nat) : Int) := by simp
    rw [List.append_assoc, List.singleton_append, e3] at g
    rw [w_succ (by simp at hl; omega)]
    rw [show wrap64 ((0 : Int) + 0) = 0 from by rw [wrap64_id (by omega) (by omega)]; rfl]
    exact g
theorem BurstTurns : parapetlaw03_BurstTurns.Pure := by
  intro a b _ _ hwa _ _ hwb
  have ba := by_of_wf hwa
  have bb := by_of_wf hwb
  apply Ev.rounds (g := fun k => parapetlaw03_BurstTurns.f k a b)
  unfold parapetlaw03_BurstTurns.f
  refine Ev.bind awake_ev (Ev_ite_pos rfl ?_)
  have tt : Ev (fun k => parapetlaw03_BurstTurns.j0 k a b true) true := Ev.step (fun k => parapetlaw03_BurstTurns.j0.eq_2 ..) (Ev_ite_pos rfl (Ev.now _))
  by_cases c : (a.length : Int) > 4000
  · exact Ev_ite_pos c tt
  refine Ev_ite_neg c ?_
  by_cases c2 : (b.length : Int) > 4000
  · rw [decide_eq_true c2]; exact tt
  rw [decide_eq_false c2]
  refine Ev.step (fun k => parapetlaw03_BurstTurns.j0.eq_2 ..) (Ev_ite_neg (by simp) ?_)
  by_cases h : a.length = b.length
  · refine Ev.bind (turn_ev h (by omega)) (Ev.bind (rturn_ev h (by omega)) (Ev_ite_pos rfl ?_))
    simp only [bne_self_eq_false]
    refine Ev.step (fun k => parapetlaw03_BurstTurns.j1.eq_2 ..) (Ev_ite_neg (by simp) (Ev_ite_pos rfl ?_))
    have hx := xl_length a b h
    refine Ev.bind (turn_ev (a := xl a b) (b := b) (by omega) (by omega)) (Ev.bind (turn_ev rfl (by omega)) (Ev_ite_pos rfl ?_))
    simp only [xl_back ba bb h, xl_self ba]
    refine Ev_ite_pos trivial (Ev_ite_pos trivial ?_)
    have hw : Ev (fun k => burst_Weight.f k (List.replicate a.length 0)) 0 := zweight_loop a.length _ [] rfl (by simp; omega)
    exact Ev.bind hw (Ev.now _)
  · have e1 : Ev (fun k => burst_Turn.f k a b) ([], 31) := by unfold burst_Turn.f; exact Ev_ite_neg (by omega) (Ev.now _)
    have e2 : Ev (fun k => parapetref03_Turn.f k a b) ([], 31) := by unfold parapetref03_Turn.f; exact Ev_ite_neg (by omega) (Ev.now _)
    refine Ev.bind e1 (Ev.bind e2 (Ev_ite_pos rfl ?_))
    simp only [bne_self_eq_false]
    exact Ev.step (fun k => parapetlaw03_BurstTurns.j1.eq_2 ..) (Ev_ite_neg (by simp) (Ev_ite_neg (by simp) (Ev.now _)))

end Go.Proofs.Ytcnlomknmhgpbab.Pure
