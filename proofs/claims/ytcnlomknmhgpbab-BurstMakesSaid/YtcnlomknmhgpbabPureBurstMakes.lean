/- The law BurstMakes, as its printed function has it: it answers true for every input. -/
import Derived.Test.YtcnlomknmhgpbabLemB
namespace Go.Proofs.Ytcnlomknmhgpbab.Pure
open Go Go.RowKit Go.Proofs.Ytcnlomknmhgpbab.PB Go.Proofs.YtcnlomknmhgpbabW.PrintWords Go.Proofs.YtcnlomknmhgpbabW.PrintLast Go.Proofs.YtcnlomknmhgpbabW.PrintMore
open Go.Proofs.Ytcnlomknmhgpbab.Gf Go.Proofs.Ytcnlomknmhgpbab.Bt
theorem rmake_loop {w s at' : Nat} (hw : w < 2 ^ 32) (hs : s ≤ 32) (ha : at' < 1000000) : ∀ (m i : Nat) (l : List Int), i + m = s → at' + s ≤ 8 * l.length →
    Ev (fun k => parapetref03_Make.l0 k (at' : Int) (w : Int) (s : Int) l (i : Int)) (mkl w s at' m i l, 0) := by
  intro m
  induction m with
  | zero =>
    intro i l hi _
    exact Ev.step (fun k => parapetref03_Make.l0.eq_2 ..) (Ev_ite_neg (by omega) (Ev.now _))
  | succ m ih =>
    intro i l hi hl
    have hsi : i < s := by omega
    refine Ev.step (fun k => parapetref03_Make.l0.eq_2 ..) (Ev_ite_pos (by omega) ?_)
    rw [w_sub2 hsi (by omega), w_succ (by omega), w_add (by omega), w_div8 (by omega), t_mod8]
    refine Ev_ite_pos (by omega) ?_
    by_cases c : w.testBit (s - 1 - i) = true
    · refine Ev_ite_neg (by rw [bit32_zero hw (by omega), c]; simp) (Ev_ite_pos (by omega) (Ev_ite_pos (by omega) (Ev_ite_pos (by omega) ?_)))
      rw [Int.toNat_natCast]
      have g := ih (i + 1) (orAt l (at' + i)) (by omega) (by rw [orAt_length]; exact hl)
      show Ev _ (mkl w s at' m (i + 1) (if w.testBit (s - 1 - i) then orAt l (at' + i) else l), 0)
      rw [if_pos c]; exact g
    · refine Ev_ite_pos ((bit32_zero hw (by omega)).2 (by simpa using c)) ?_
      have g := ih (i + 1) l (by omega) hl
      show Ev _ (mkl w s at' m (i + 1) (if w.testBit (s - 1 - i) then orAt l (at' + i) else l), 0)
      rw [if_neg c]; exact g
theorem rmake_ev (n at' : Int) {w : Nat} (hw : w < 2 ^ 32) :
    ((n < 0 ∨ n > 65536) → Ev (fun k => parapetref03_Make.f k n at' (w : Int)) ([], 2)) ∧
    (0 ≤ n → n ≤ 65536 → (w = 0 ∨ at' < 0 ∨ at' > 8 * n - (len w : Nat)) → Ev (fun k => parapetref03_Make.f k n at' (w : Int)) ([], 30)) ∧
    (∀ N A : Nat, n = (N : Int) → at' = (A : Int) → N ≤ 65536 → w ≠ 0 → A + len w ≤ 8 * N → Ev (fun k => parapetref03_Make.f k n at' (w : Int)) (mkl w (len w) A (len w) 0 (List.replicate N 0), 0)) := by
  have hlw := len_le hw
  have eu : IntKind.u64.wrap (w : Int) = (w : Int) := by rw [wrap_u64]; omega
  have hdeg := ref_degree_ev (p := w) (by omega)
  rw [← eu] at hdeg
  have el : wrap64 ((((len w : Nat) : Int) - 1) + 1) = ((len w : Nat) : Int) := by rw [wrap64_id (by omega) (by omega)]; omega
  have no : ∀ x, Ev (fun k => parapetref03_Make.j1 k n at' (w : Int) x true) ([], 30) := fun x => Ev.step (fun _ => parapetref03_Make.j1.eq_2 ..) (Ev_ite_pos rfl (Ev.now _))
  refine ⟨fun h => ?_, fun h0 h1 h => ?_, ?_⟩
  · unfold parapetref03_Make.f
    rcases h with h | h
    · exact Ev_ite_pos h (Ev.step (fun _ => parapetref03_Make.j0.eq_2 ..) (Ev_ite_pos rfl (Ev.now _)))
    · refine Ev_ite_neg (by omega) ?_
      rw [decide_eq_true h]
      exact Ev.step (fun _ => parapetref03_Make.j0.eq_2 ..) (Ev_ite_pos rfl (Ev.now _))
  · have e8 : wrap64 (8 * n) = 8 * n := wrap64_id (by omega) (by omega)
    unfold parapetref03_Make.f
    refine Ev_ite_neg (by omega) ?_
    rw [decide_eq_false (by omega)]
    refine Ev.step (fun _ => parapetref03_Make.j0.eq_2 ..) (Ev_ite_neg (by simp) (Ev.bind hdeg ?_))
    rw [el, e8]
    clear el e8 eu hdeg
    by_cases z : len w = 0
    · exact Ev_ite_pos (by omega) (no _)
    have hw0 : w ≠ 0 := by intro c; subst c; exact z rfl
    refine Ev_ite_neg (by omega) ?_
    by_cases c : at' < 0
    · exact Ev_ite_pos c (no _)
    refine Ev_ite_neg c ?_
    by_cases c2 : at' > 8 * n
    · exact Ev_ite_pos c2 (no _)
    refine Ev_ite_neg c2 ?_
    rw [wrap64_id (n := at' + ((len w : Nat) : Int)) (by omega) (by omega), decide_eq_true (by omega)]
    exact no _
  · rintro N A rfl rfl hN hw0 hA
    have e8 : wrap64 (8 * (N : Int)) = 8 * (N : Int) := wrap64_id (by omega) (by omega)
    have z : len w ≠ 0 := by obtain ⟨m, hm⟩ := len_pos hw0; omega
    unfold parapetref03_Make.f
    refine Ev_ite_neg (by omega) ?_
    rw [decide_eq_false (by omega)]
    refine Ev.step (fun _ => parapetref03_Make.j0.eq_2 ..) (Ev_ite_neg (by simp) (Ev.bind hdeg ?_))
    rw [el, e8]
    clear el e8 eu hdeg
    refine Ev_ite_neg (by omega) (Ev_ite_neg (by omega) (Ev_ite_neg (by omega) ?_))
    rw [wrap64_id (n := (A : Int) + ((len w : Nat) : Int)) (by omega) (by omega), decide_eq_false (by omega)]
    refine Ev.step (fun _ => parapetref03_Make.j1.eq_2 ..) (Ev_ite_neg (by simp) (Ev_ite_pos (by omega) (Ev_ite_pos (by omega) ?_)))
    rw [Int.toNat_natCast]
    exact rmake_loop hw (by omega) (by omega) (len w) 0 (List.replicate N 0) (by omega) (by simp; omega)
theorem BurstMakes : parapetlaw03_BurstMakes.Pure := by
  intro n at' c hn _ hc
  obtain ⟨w, rfl, hw⟩ := u32_of_wf hc
  have hn' := i64_of_wf hn
  apply Ev.rounds (g := fun k => parapetlaw03_BurstMakes.f k n at' (w : Int))
  unfold parapetlaw03_BurstMakes.f
  refine Ev.bind awake_ev (Ev_ite_pos rfl ?_)
  have r := rmake_ev n at' hw
  rcases make_ev n at' hw hn' with ⟨h, e⟩ | ⟨h0, h1, h2, e⟩ | ⟨N, A, h1, h2, h3, h4, h5, e⟩
  · exact Ev.bind e (Ev.bind (r.1 h) (Ev_ite_pos rfl (Ev.now _)))
  · exact Ev.bind e (Ev.bind (r.2.1 h0 h1 h2) (Ev_ite_pos rfl (Ev.now _)))
  · exact Ev.bind e (Ev.bind (r.2.2 N A h1 h2 h3 h4 h5) (Ev_ite_pos rfl (by simp only [beq_self_eq_true]; exact Ev.now _)))

end Go.Proofs.Ytcnlomknmhgpbab.Pure
