/- The law PolyWords, as its printed function has it: it answers true for every input. -/
import Derived.Test.YtcnlomknmhgpbacLemP
namespace Go.Proofs.Ytcnlomknmhgpbac.Pure
open Go Go.RowKit Go.Proofs.Ytcnlomknmhgpbac.PP Go.Proofs.YtcnlomknmhgpbacW.PrintWords Go.Proofs.YtcnlomknmhgpbacW.PrintLast Go.Proofs.YtcnlomknmhgpbacW.PrintMore
open Go.Proofs.Ytcnlomknmhgpbac.Gf Go.Proofs.Ytcnlomknmhgpbac.Bt
theorem rweight_loop (x : Nat) (hx : x < 2 ^ 64) : ∀ (n i acc : Nat), i + n = 64 → acc ≤ i → Ev (fun k => parapetref01_Weight.l0 k (x : Int) (acc : Int) (i : Int)) ((acc + wt n (x / 2 ^ i) : Nat) : Int) := by
  intro n
  induction n with
  | zero =>
    intro i acc hi _
    refine Ev.step (fun k => parapetref01_Weight.l0.eq_2 ..) (Ev_ite_neg (by omega) ?_)
    exact Ev.now _
  | succ n ih =>
    intro i acc hi ha
    refine Ev.step (fun k => parapetref01_Weight.l0.eq_2 ..) (Ev_ite_pos (by omega) (Ev_ite_pos (by omega) ?_))
    have e : wrap64 ((i : Int) + 1) = ((i + 1 : Nat) : Int) := by rw [wrap64_id (by omega) (by omega)]; omega
    have hb : (x.testBit i).toNat ≤ 1 := by cases x.testBit i <;> simp
    have hh := halves x i
    rw [e, bit64 hx (by omega), wrap64_id (n := (((x.testBit i).toNat : Nat) : Int)) (by omega) (by omega), wrap64_id (by omega) (by omega), show (acc : Int) + (((x.testBit i).toNat : Nat) : Int) = ((acc + (x.testBit i).toNat : Nat) : Int) from by omega]
    have g := ih (i + 1) (acc + (x.testBit i).toNat) (by omega) (by omega)
    have e2 : acc + wt (n + 1) (x / 2 ^ i) = acc + (x.testBit i).toNat + wt n (x / 2 ^ (i + 1)) := by
      show acc + (x / 2 ^ i % 2 + wt n (x / 2 ^ i / 2)) = _
      rw [hh.1, hh.2]; omega
    rw [e2]; exact g
theorem cm_lt32 {p q i : Nat} (hp : p < 2 ^ 32) (hq : q < 2 ^ 32) : cm p (q % 2 ^ i) < 2 ^ 64 := by
  have h : q % 2 ^ i < 2 ^ (31 + 1) := Nat.lt_of_le_of_lt (Nat.mod_le _ _) hq
  have := cm_lt hp h
  exact Nat.lt_of_lt_of_le this (pow64 (by omega))
theorem pmul_loop (p q : Nat) (hp : p < 2 ^ 32) (hq : q < 2 ^ 32) : ∀ (n i : Nat), i + n = 32 →
    Ev (fun k => poly_Mul.l0 k (p : Int) (q : Int) ((cm p (q % 2 ^ i) : Nat) : Int) (i : Int)) ((cm p q : Nat) : Int) := by
  intro n
  induction n with
  | zero =>
    intro i hi
    obtain rfl : i = 32 := by omega
    refine Ev.step (fun k => poly_Mul.l0.eq_2 ..) (Ev_ite_neg (by omega) ?_)
    rw [Nat.mod_eq_of_lt hq]; exact Ev.now _
  | succ n ih =>
    intro i hi
    have e : wrap64 ((i : Int) + 1) = ((i + 1 : Nat) : Int) := by rw [wrap64_id (by omega) (by omega)]; omega
    refine Ev.step (fun k => poly_Mul.l0.eq_2 ..) (Ev_ite_pos (by omega) (Ev_ite_pos (by omega) ?_))
    rw [e]
    have g := ih (i + 1) (by omega)
    rw [mod_step, cm_xor] at g
    by_cases c : q.testBit i = true
    · refine Ev_ite_neg (by rw [bit32_zero hq (by omega), c]; simp) ?_
      rw [c, Bool.toNat_true, Nat.one_mul, cm_pow] at g
      have hs : p * 2 ^ i < 2 ^ 64 := by
        have : p * 2 ^ i < 2 ^ 32 * 2 ^ i := Nat.mul_lt_mul_of_pos_right hp (Nat.two_pow_pos i)
        rw [← Nat.pow_add] at this
        exact Nat.lt_of_lt_of_le this (pow64 (by omega))
      have hsh : shl .u64 (p : Int) (i : Int) = ((p * 2 ^ i : Nat) : Int) := by rw [shl64 (by omega), Nat.mod_eq_of_lt (by omega)]
      rw [wrap_u64, show ((p : Int)) % 18446744073709551616 = (p : Int) from by omega, hsh, xor64 (cm_lt32 hp hq) hs]
      exact g
    · have c' : q.testBit i = false := by simpa using c
      refine Ev_ite_pos ((bit32_zero hq (by omega)).2 c') ?_
      rw [c'] at g
      simpa [cm_zero] using g
theorem rm_inner (p q : Nat) (hp : p < 2 ^ 32) (hq : q < 2 ^ 32) (i : Nat) (hi : i < 32) (r : Int) (X : Nat) (hX : X < 2 ^ 64)
    (h : Ev (fun k => parapetref01_Mul.l0 k (p : Int) (q : Int) ((X ^^^ (p.testBit i).toNat * (q * 2 ^ i) : Nat) : Int) ((i + 1 : Nat) : Int)) r) :
    ∀ (n j : Nat), j + n = 32 → Ev (fun k => parapetref01_Mul.l1 k (p : Int) (q : Int) ((X ^^^ (p.testBit i).toNat * (q % 2 ^ j * 2 ^ i) : Nat) : Int) (i : Int) (j : Int)) r := by
  intro n
  induction n with
  | zero =>
    intro j hj
    obtain rfl : j = 32 := by omega
    refine Ev.step (fun k => parapetref01_Mul.l1.eq_2 ..) (Ev_ite_neg (by omega) ?_)
    have e : wrap64 ((i : Int) + 1) = ((i + 1 : Nat) : Int) := by rw [wrap64_id (by omega) (by omega)]; omega
    rw [e, Nat.mod_eq_of_lt hq]
    exact h
  | succ n ih =>
    intro j hj
    have g := ih (j + 1) (by omega)
    have e : wrap64 ((j : Int) + 1) = ((j + 1 : Nat) : Int) := by rw [wrap64_id (by omega) (by omega)]; omega
    refine Ev.step (fun k => parapetref01_Mul.l1.eq_2 ..) (Ev_ite_pos (by omega) (Ev_ite_pos (by omega) ?_))
    rw [e]
    by_cases cp : p.testBit i = true
    · refine Ev_ite_neg (by rw [bit32_zero hp (by omega), cp]; simp) (Ev_ite_pos (by omega) ?_)
      rw [cp] at g ⊢
      simp only [Bool.toNat_true, Nat.one_mul] at g ⊢
      rw [mod_step] at g
      by_cases cq : q.testBit j = true
      · refine Ev_ite_neg (by rw [bit32_zero hq (by omega), cq]; simp) ?_
        have e2 : wrap64 ((i : Int) + (j : Int)) = ((i + j : Nat) : Int) := by rw [wrap64_id (by omega) (by omega)]; omega
        rw [e2]
        refine Ev_ite_pos (by omega) ?_
        rw [cq, Bool.toNat_true, Nat.one_mul, xor_shift, ← Nat.pow_add, Nat.add_comm j i, ← Nat.xor_assoc] at g
        have h1 : q % 2 ^ j * 2 ^ i < 2 ^ 64 := by
          have : q % 2 ^ j < 2 ^ j := Nat.mod_lt _ (Nat.two_pow_pos j)
          have : q % 2 ^ j * 2 ^ i < 2 ^ j * 2 ^ i := Nat.mul_lt_mul_of_pos_right this (Nat.two_pow_pos i)
          rw [← Nat.pow_add] at this
          exact Nat.lt_of_lt_of_le this (pow64 (by omega))
        have h2 : 2 ^ (i + j) < 2 ^ 64 := Nat.pow_lt_pow_right (by omega) (by omega)
        have hsh : shl .u64 1 ((i + j : Nat) : Int) = ((2 ^ (i + j) : Nat) : Int) := by rw [show (1 : Int) = ((1 : Nat) : Int) from rfl, shl64 (by omega), Nat.one_mul, Nat.mod_eq_of_lt (by omega)]
        rw [hsh, xor64 (Nat.xor_lt_two_pow hX h1) h2]
        exact g
      · have cq' : q.testBit j = false := by simpa using cq
        refine Ev_ite_pos ((bit32_zero hq (by omega)).2 cq') ?_
        rw [cq'] at g
        simpa using g
    · have cp' : p.testBit i = false := by simpa using cp
      refine Ev_ite_pos ((bit32_zero hp (by omega)).2 cp') ?_
      rw [cp'] at g ⊢
      simpa using g
theorem rm_loop (p q : Nat) (hp : p < 2 ^ 32) (hq : q < 2 ^ 32) : ∀ (n i : Nat), i + n = 32 →
    Ev (fun k => parapetref01_Mul.l0 k (p : Int) (q : Int) ((cm q (p % 2 ^ i) : Nat) : Int) (i : Int)) ((cm p q : Nat) : Int) := by
  intro n
  induction n with
  | zero =>
    intro i hi
    obtain rfl : i = 32 := by omega
    refine Ev.step (fun k => parapetref01_Mul.l0.eq_2 ..) (Ev_ite_neg (by omega) ?_)
    rw [Nat.mod_eq_of_lt hp, cm_comm]; exact Ev.now _
  | succ n ih =>
    intro i hi
    have g := ih (i + 1) (by omega)
    have ek : cm q (p % 2 ^ (i + 1)) = cm q (p % 2 ^ i) ^^^ (p.testBit i).toNat * (q * 2 ^ i) := by
      rw [mod_step, cm_xor]
      congr 1
      cases p.testBit i
      · simp [cm_zero]
      · simp [cm_pow]
    rw [ek] at g
    refine Ev.step (fun k => parapetref01_Mul.l0.eq_2 ..) (Ev_ite_pos (by omega) ?_)
    have r := rm_inner p q hp hq i (by omega) _ (cm q (p % 2 ^ i)) (cm_lt32 hq hp) g 32 0 rfl
    rw [Nat.pow_zero, Nat.mod_one, Nat.zero_mul, Nat.mul_zero, Nat.xor_zero] at r
    exact r
theorem PolyWords : parapetlaw01_PolyWords.Pure := by
  intro a b c ha hb hc
  obtain ⟨x, rfl, hx⟩ := u64_of_wf ha
  obtain ⟨p, rfl, hp⟩ := u32_of_wf hb
  obtain ⟨q, rfl, hq⟩ := u32_of_wf hc
  apply Ev.rounds (g := fun k => parapetlaw01_PolyWords.f k (x : Int) (p : Int) (q : Int))
  unfold parapetlaw01_PolyWords.f
  refine Ev.bind awake_ev (Ev_ite_pos rfl (Ev.bind (degree_ev hx) (Ev.bind (ref_degree_ev hx) (Ev_ite_pos rfl ?_))))
  rw [weight_f hx]
  have hw : Ev (fun k => parapetref01_Weight.f k (x : Int)) ((wt 64 x : Nat) : Int) := by
    have := rweight_loop x hx 64 0 0 rfl (Nat.le_refl _)
    rw [Nat.zero_add, Nat.pow_zero, Nat.div_one] at this
    exact this
  refine Ev_some (Ev.bind hw (Ev_ite_pos rfl ?_))
  have h1 := pmul_loop p q hp hq 32 0 rfl
  rw [Nat.pow_zero, Nat.mod_one, cm_zero] at h1
  have h2 := rm_loop p q hp hq 32 0 rfl
  rw [Nat.pow_zero, Nat.mod_one, cm_zero] at h2
  refine Ev.bind (f := fun k t220 => _) (a := ((cm p q : Nat) : Int)) h1 (Ev.bind (f := fun k t221 => _) (a := ((cm p q : Nat) : Int)) h2 ?_)
  simp only [beq_self_eq_true]
  exact Ev.now _

end Go.Proofs.Ytcnlomknmhgpbac.Pure
