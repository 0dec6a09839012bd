/- The law PolyRest, as its printed function has it: it answers true for every input. -/
import Derived.Test.YtcnlomknmhgpbacLemP
namespace Go.Proofs.Ytcnlomknmhgpbac.Pure
open Go Go.RowKit Go.Proofs.Ytcnlomknmhgpbac.PP Go.Proofs.YtcnlomknmhgpbacW.PrintWords Go.Proofs.YtcnlomknmhgpbacW.PrintLast Go.Proofs.YtcnlomknmhgpbacW.PrintMore
open Go.Proofs.Ytcnlomknmhgpbac.Gf Go.Proofs.Ytcnlomknmhgpbac.Bt
theorem cm_lt {a b d e : Nat} (ha : a < 2 ^ d) (hb : b < 2 ^ (e + 1)) : cm a b < 2 ^ (d + e) := by
  by_cases za : a = 0
  · subst za; rw [zero_cm]; exact Nat.two_pow_pos _
  by_cases zb : b = 0
  · subst zb; rw [cm_zero]; exact Nat.two_pow_pos _
  obtain ⟨x, hx⟩ := exists_deg za
  obtain ⟨y, hy⟩ := exists_deg zb
  have h1 := (cm_top hx.1 hx.2 y b hy.1 hy.2).2
  have hxd : x < d := by
    apply Nat.lt_of_not_le; intro c
    have := Nat.pow_le_pow_right (n := 2) (by omega) c
    have := hx.1; omega
  have hye : y < e + 1 := by
    apply Nat.lt_of_not_le; intro c
    have := Nat.pow_le_pow_right (n := 2) (by omega) c
    have := hy.1; omega
  exact Nat.lt_of_lt_of_le h1 (Nat.pow_le_pow_right (by omega) (by omega))
theorem product_loop (a b : Nat) (hb : b < 2 ^ 64) (hs : ∀ i, b.testBit i = true → a * 2 ^ i < 2 ^ 64) (hc : ∀ i, cm a (b % 2 ^ i) < 2 ^ 64) :
    ∀ (n i : Nat), i + n = 64 → Ev (fun k => parapetlaw01_product.l0 k (a : Int) (b : Int) ((cm a (b % 2 ^ i) : Nat) : Int) false (i : Int)) (((cm a b : Nat) : Int), false) := by
  intro n
  induction n with
  | zero =>
    intro i hi
    obtain rfl : i = 64 := by omega
    refine Ev.step (fun k => parapetlaw01_product.l0.eq_2 ..) (Ev_ite_neg (by omega) ?_)
    rw [Nat.mod_eq_of_lt hb]; exact Ev.now _
  | succ n ih =>
    intro i hi
    have e : wrap64 ((i : Int) + 1) = ((i + 1 : Nat) : Int) := by rw [wrap64_id (by omega) (by omega)]; omega
    refine Ev.step (fun k => parapetlaw01_product.l0.eq_2 ..) (Ev_ite_pos (by omega) (Ev_ite_pos (by omega) ?_))
    rw [e]
    have g := ih (i + 1) (by omega)
    rw [mod_step, cm_xor] at g
    by_cases c : b.testBit i = true
    · refine Ev_ite_neg (by rw [bit64_zero hb (by omega), c]; simp) (Ev_ite_neg (by simp) ?_)
      rw [c, Bool.toNat_true, Nat.one_mul, cm_pow] at g
      have hs' := hs i c
      have hsh : shl .u64 (a : Int) (i : Int) = ((a * 2 ^ i : Nat) : Int) := by rw [shl64 (by omega), Nat.mod_eq_of_lt (by omega)]
      rw [hsh, shr64 (by omega), Nat.mul_div_cancel _ (Nat.two_pow_pos i), xor64 (hc i) hs']
      simpa using g
    · have c' : b.testBit i = false := by simpa using c
      refine Ev_ite_pos ((bit64_zero hb (by omega)).2 c') ?_
      rw [c'] at g
      simpa [cm_zero] using g
theorem PolyRest : parapetlaw01_PolyRest.Pure := by
  intro a b ha hb
  obtain ⟨p, rfl, hp⟩ := u64_of_wf ha
  obtain ⟨q, rfl, hq⟩ := u64_of_wf hb
  apply Ev.rounds (g := fun k => parapetlaw01_PolyRest.f k (p : Int) (q : Int))
  unfold parapetlaw01_PolyRest.f
  refine Ev.bind awake_ev (Ev_ite_pos rfl ?_)
  by_cases z : q = 0
  · subst z
    have e1 : Ev (fun k => poly_DivMod.f k (p : Int) ((0 : Nat) : Int)) (0, 0, 10) := by
      unfold poly_DivMod.f; exact Ev_ite_pos rfl (Ev.now _)
    exact Ev.bind e1 (Ev_ite_pos rfl (Ev_ite_pos rfl (Ev_ite_pos rfl (Ev.now _))))
  · obtain ⟨d, hd⟩ := exists_deg z
    have hd64 := hd.lt hq
    obtain ⟨A, h1, h2, h3⟩ := div_ev hd hp hq
    refine Ev.bind h3 (Ev_ite_neg (by omega) ?_)
    have hR := pm_lt hd.1 hd.2 p
    have hR64 : pm q d p < 2 ^ 64 := Nat.lt_of_lt_of_le hR (pow64 (by omega))
    have hcm : cm q A < 2 ^ 64 := by
      have : cm q A = p ^^^ pm q d p := by
        conv => rhs; lhs; rw [h1]
        rw [Nat.xor_assoc, Nat.xor_self, Nat.xor_zero]
      rw [this]; exact Nat.xor_lt_two_pow hp hR64
    have hA : A = 0 ∨ ∃ t, Deg A t ∧ d + t < 64 := by
      by_cases za : A = 0
      · exact .inl za
      · obtain ⟨t, ht⟩ := exists_deg za
        refine .inr ⟨t, ht, ?_⟩
        have := (cm_top hd.1 hd.2 t A ht.1 ht.2).1
        apply Nat.lt_of_not_le; intro c
        have := Nat.pow_le_pow_right (n := 2) (by omega) c
        omega
    have hprod : Ev (fun k => parapetlaw01_product.f k (A : Int) (q : Int)) (((cm A q : Nat) : Int), false) := by
      have := product_loop A q hq ?_ ?_ 64 0 rfl
      · rw [Nat.pow_zero, Nat.mod_one, cm_zero] at this
        exact this
      · intro i hi
        rcases hA with rfl | ⟨t, ht, hdt⟩
        · simp
        · have hid : i < d + 1 := by
            apply Nat.lt_of_not_le; intro c
            have h5 := Nat.pow_le_pow_right (n := 2) (by omega) c
            have h6 := hd.2
            rw [Nat.testBit_lt_two_pow (by omega)] at hi
            simp at hi
          have : A * 2 ^ i < 2 ^ (t + 1) * 2 ^ i := Nat.mul_lt_mul_of_pos_right ht.2 (Nat.two_pow_pos i)
          rw [← Nat.pow_add] at this
          exact Nat.lt_of_lt_of_le this (pow64 (by omega))
      · intro i
        rcases hA with rfl | ⟨t, ht, hdt⟩
        · rw [zero_cm]; omega
        · have hle : q % 2 ^ i < 2 ^ (d + 1) := Nat.lt_of_le_of_lt (Nat.mod_le _ _) hd.2
          exact Nat.lt_of_lt_of_le (cm_lt ht.2 hle) (pow64 (by omega))
    refine Ev.bind hprod (Ev_ite_pos rfl (Ev_ite_neg (by simp) ?_))
    simp only []
    rw [cm_comm A q, xor64 hcm hR64, ← h1]
    refine Ev_ite_pos rfl (Ev.bind (degree_ev hR64) (Ev.bind (deg_ev hd hq) ?_))
    have := len_le hR
    rw [decide_eq_true (by omega)]
    exact Ev.now _

end Go.Proofs.Ytcnlomknmhgpbac.Pure
