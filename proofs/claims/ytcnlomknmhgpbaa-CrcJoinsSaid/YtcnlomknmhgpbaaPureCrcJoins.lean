/- The law CrcJoins, as its printed function has it: it answers true for every input. -/
import Derived.Test.YtcnlomknmhgpbaaLemA
namespace Go.Proofs.Ytcnlomknmhgpbaa.Pure
open Go Go.RowKit Go.Proofs.Ytcnlomknmhgpbaa.PA Go.Proofs.YtcnlomknmhgpbaaW.PrintWords Go.Proofs.YtcnlomknmhgpbaaW.PrintLast Go.Proofs.YtcnlomknmhgpbaaW.PrintMore
open Go.Proofs.Ytcnlomknmhgpbaa.Gf Go.Proofs.Ytcnlomknmhgpbaa.Bt
theorem join_core {A B n : Nat} (hB : B < 2 ^ 32) :
    bits .xor .u32 (((pm G 32 (cm A (pm G 32 (2 ^ (8 * n)))) : Nat) : Int) % 4294967296) (B : Int) = ((pm G 32 (A * 2 ^ (8 * n)) ^^^ B : Nat) : Int) := by
  have h1 : pm G 32 (cm A (pm G 32 (2 ^ (8 * n)))) = pm G 32 (A * 2 ^ (8 * n)) := by
    rw [cm_comm, pm_mul G1 G2, cm_comm, cm_pow]
  have h2 := pm_lt G1 G2 (A * 2 ^ (8 * n))
  rw [h1, show ((pm G 32 (A * 2 ^ (8 * n)) : Nat) : Int) % 4294967296 = ((pm G 32 (A * 2 ^ (8 * n)) : Nat) : Int) from by omega, xor32 h2 hB]
theorem sq (e : Nat) : pm G 32 (cm (pm G 32 (2 ^ e)) (pm G 32 (2 ^ e))) = pm G 32 (2 ^ (2 * e)) := by
  rw [pm_mul G1 G2, cm_comm, pm_mul G1 G2, cm_pow, ← Nat.pow_add]
  congr 2; omega
theorem g64 (x : Nat) : pm G 32 x < 2 ^ 64 := Nat.lt_of_lt_of_le (pm_lt G1 G2 x) (pow64 (by omega))
theorem join_ev {A B n : Nat} (hA : A < 2 ^ 32) (hB : B < 2 ^ 32) (hn : n < 2 ^ 63) :
    Ev (fun k => crc_Join.f k (A : Int) (B : Int) (n : Int)) (((pm G 32 (A * 2 ^ (8 * n)) ^^^ B : Nat) : Int), 0) := by
  have hg : Ev (fun _ : Nat => crc_Generator.f) ((G : Nat) : Int) := Ev.now _
  have hA64 : A < 2 ^ 64 := by omega
  have step : ∀ (i e : Nat) (r : Int × Int), i < 3 → Ev (fun k => crc_Join.l0 k (A : Int) (B : Int) ((pm G 32 (2 ^ (2 * e)) : Nat) : Int) ((i + 1 : Nat) : Int)) r → Ev (fun k => crc_Join.l0 k (A : Int) (B : Int) ((pm G 32 (2 ^ e) : Nat) : Int) (i : Int)) r := by
    intro i e r hi h
    refine Ev.step (fun k => crc_Join.l0.eq_2 ..) (Ev_ite_pos (by omega) (Ev.bind hg (Ev.bind (mul_ev GD G64 (g64 _) (g64 _)) ?_)))
    rw [w_succ (by omega)]
    simp only [sq]
    exact h
  unfold crc_Join.f
  refine Ev_ite_neg (by omega) (Ev.bind hg ?_)
  rw [wrap_u64, show (n : Int) % 18446744073709551616 = (n : Int) from by omega]
  refine Ev.bind (pow_ev GD G64 (by omega)) ?_
  refine step 0 n _ (by omega) (step 1 (2 * n) _ (by omega) (step 2 (2 * (2 * n)) _ (by omega) ?_))
  refine Ev.step (fun k => crc_Join.l0.eq_2 ..) (Ev_ite_neg (by omega) (Ev.bind hg ?_))
  rw [wrap_u64, show (A : Int) % 18446744073709551616 = (A : Int) from by omega]
  refine Ev.bind (mul_ev GD G64 hA64 (g64 _)) ?_
  have := join_core (A := A) (n := n) hB
  rw [show 8 * n = 2 * (2 * (2 * n)) from by omega] at this
  simp only [this]
  rw [show 8 * n = 2 * (2 * (2 * n)) from by omega]
  exact Ev.now _
theorem rjoin_ev {A B n : Nat} (hA : A < 2 ^ 32) (hB : B < 2 ^ 32) (hn : n < 2 ^ 63) :
    Ev (fun k => parapetref02_Join.f k (A : Int) (B : Int) (n : Int)) (((pm G 32 (A * 2 ^ (8 * n)) ^^^ B : Nat) : Int), 0) := by
  have hA64 : A < 2 ^ 64 := by omega
  have eG : (4812730177 : Int) = ((G : Nat) : Int) := rfl
  have step : ∀ (i e : Nat) (r : Int × Int), i < 3 → Ev (fun k => parapetref02_Join.l0 k (A : Int) (B : Int) ((pm G 32 (2 ^ (2 * e)) : Nat) : Int) ((i + 1 : Nat) : Int)) r → Ev (fun k => parapetref02_Join.l0 k (A : Int) (B : Int) ((pm G 32 (2 ^ e) : Nat) : Int) (i : Int)) r := by
    intro i e r hi h
    refine Ev.step (fun k => parapetref02_Join.l0.eq_2 ..) (Ev_ite_pos (by omega) ?_)
    rw [eG]
    refine Ev.bind (rmul_ev GD G64 (g64 _) (g64 _)) ?_
    rw [w_succ (by omega)]
    simp only [sq]
    exact h
  unfold parapetref02_Join.f
  refine Ev_ite_neg (by omega) ?_
  rw [wrap_u64, show (n : Int) % 18446744073709551616 = (n : Int) from by omega, eG]
  refine Ev.bind (rpow_ev GD G64 n (by omega)) ?_
  refine step 0 n _ (by omega) (step 1 (2 * n) _ (by omega) (step 2 (2 * (2 * n)) _ (by omega) ?_))
  refine Ev.step (fun k => parapetref02_Join.l0.eq_2 ..) (Ev_ite_neg (by omega) ?_)
  rw [wrap_u64, show (A : Int) % 18446744073709551616 = (A : Int) from by omega, eG]
  refine Ev.bind (rmul_ev GD G64 hA64 (g64 _)) ?_
  have := join_core (A := A) (n := n) hB
  rw [show 8 * n = 2 * (2 * (2 * n)) from by omega] at this
  simp only [this]
  rw [show 8 * n = 2 * (2 * (2 * n)) from by omega]
  exact Ev.now _
theorem crc_joined {a b : List Int} (hb : By b) : pm G 32 (crc a * 2 ^ (8 * b.length)) ^^^ crc b = crc (a ++ b) := by
  unfold crc
  rw [pm_shift G1 G2, ← pm_xor G1 G2, pol_append_xor hb, xor_shift, Nat.mul_assoc, Nat.mul_assoc, Nat.mul_comm (2 ^ 32)]
theorem CrcJoins : parapetlaw02_CrcJoins.Pure := by
  intro a b x y n ha _ hwa hbl _ hwb hx hy hn
  have ba := by_of_wf hwa
  have bb := by_of_wf hwb
  obtain ⟨X, rfl, hX⟩ := u32_of_wf hx
  obtain ⟨Y, rfl, hY⟩ := u32_of_wf hy
  have hn' := i64_of_wf hn
  apply Ev.rounds (g := fun k => parapetlaw02_CrcJoins.f k a b (X : Int) (Y : Int) n)
  unfold parapetlaw02_CrcJoins.f
  refine Ev.bind awake_ev (Ev_ite_pos rfl ?_)
  have tt : Ev (fun k => parapetlaw02_CrcJoins.j0 k a b (X : Int) (Y : Int) n true) true := Ev.step (fun k => parapetlaw02_CrcJoins.j0.eq_2 ..) (Ev_ite_pos rfl (Ev.now _))
  by_cases c : (a.length : Int) > 4000
  · exact Ev_ite_pos c tt
  refine Ev_ite_neg c ?_
  by_cases c2 : (b.length : Int) > 4000
  · rw [decide_eq_true c2]; exact tt
  rw [decide_eq_false c2]
  refine Ev.step (fun k => parapetlaw02_CrcJoins.j0.eq_2 ..) (Ev_ite_neg (by simp) (Ev.bind (bits_ev ba (by omega)) (Ev.bind (bits_ev bb (by omega)) ?_)))
  refine Ev.bind (join_ev (crc_lt a) (crc_lt b) (by omega)) (Ev_ite_pos rfl (Ev_some (Ev_ite_pos (by simp; omega) (Ev_some (Ev_ite_pos (by simp; omega) ?_)))))
  rw [List.nil_append]
  refine Ev.bind (bits_ev (ba.append bb) (by simp; omega)) ?_
  rw [crc_joined bb]
  simp only [bne_self_eq_false]
  refine Ev.step (fun k => parapetlaw02_CrcJoins.j1.eq_2 ..) (Ev_ite_neg (by simp) ?_)
  by_cases c3 : n < 0
  · have e1 : Ev (fun k => crc_Join.f k (X : Int) (Y : Int) n) (0, 2) := by unfold crc_Join.f; exact Ev_ite_pos c3 (Ev.now _)
    have e2 : Ev (fun k => parapetref02_Join.f k (X : Int) (Y : Int) n) (0, 2) := by unfold parapetref02_Join.f; exact Ev_ite_pos c3 (Ev.now _)
    exact Ev.bind e1 (Ev.bind e2 (Ev_ite_pos rfl (Ev.now _)))
  · obtain ⟨N, rfl⟩ : ∃ N : Nat, n = (N : Int) := ⟨n.toNat, by omega⟩
    exact Ev.bind (join_ev hX hY (by omega)) (Ev.bind (rjoin_ev hX hY (by omega)) (Ev_ite_pos rfl (Ev.now _)))

end Go.Proofs.Ytcnlomknmhgpbaa.Pure
