/- The law PolyGcd, as its printed function has it: it answers true for every input. -/
import Derived.Test.YtcnlomknmhgpbacLemP
namespace Go.Proofs.Ytcnlomknmhgpbac.Pure
open Go Go.RowKit Go.Proofs.Ytcnlomknmhgpbac.PP Go.Proofs.YtcnlomknmhgpbacW.PrintWords Go.Proofs.YtcnlomknmhgpbacW.PrintLast Go.Proofs.YtcnlomknmhgpbacW.PrintMore
open Go.Proofs.Ytcnlomknmhgpbac.Gf Go.Proofs.Ytcnlomknmhgpbac.Bt
/-- g divides p -/
def Dv (g p : Nat) : Prop := ∃ a, p = cm g a
theorem Dv.zero (g : Nat) : Dv g 0 := ⟨0, (cm_zero g).symm⟩
theorem Dv.refl (g : Nat) : Dv g g := ⟨1, (cm_one g).symm⟩
theorem Dv.mul {g p : Nat} (h : Dv g p) (a : Nat) : Dv g (cm p a) := by obtain ⟨b, rfl⟩ := h; exact ⟨cm b a, cm_assoc _ _ _⟩
theorem Dv.xor {g p q : Nat} (h : Dv g p) (h' : Dv g q) : Dv g (p ^^^ q) := by obtain ⟨a, rfl⟩ := h; obtain ⟨b, rfl⟩ := h'; exact ⟨a ^^^ b, (cm_xor _ _ _).symm⟩
theorem dv_pm {g d p : Nat} (hd : Deg g d) : pm g d p = 0 ↔ Dv g p := by
  constructor
  · intro h
    have := pm_cong g d p
    rw [h] at this
    obtain ⟨a, ha⟩ := this
    exact ⟨a, by rw [← ha, Nat.xor_zero]⟩
  · rintro ⟨a, ha⟩
    exact pm_unique hd.1 hd.2 (Nat.two_pow_pos d) ⟨a, by rw [Nat.xor_zero, ha]⟩
theorem Dv.antisymm {g h : Nat} (a : Dv g h) (b : Dv h g) : g = h := by
  by_cases z : g = 0
  · subst z; obtain ⟨x, rfl⟩ := a; rw [zero_cm]
  · obtain ⟨d, hd⟩ := exists_deg z
    obtain ⟨x, rfl⟩ := a
    obtain ⟨y, hy⟩ := b
    rw [cm_assoc] at hy
    have e := (div_unique (m := g) (a := 1) (b := cm x y) hd.1 hd.2 (Nat.two_pow_pos d) (Nat.two_pow_pos d) (by rw [Nat.xor_zero, Nat.xor_zero, cm_one]; exact hy)).1
    have hx : x ≠ 0 := by intro c; subst c; rw [zero_cm] at e; omega
    have hy0 : y ≠ 0 := by intro c; subst c; rw [cm_zero] at e; omega
    obtain ⟨s, hs⟩ := exists_deg hx
    obtain ⟨t, ht⟩ := exists_deg hy0
    have h1 := (cm_top hs.1 hs.2 t y ht.1 ht.2).1
    rw [← e] at h1
    have hs0 : s = 0 := by
      by_cases c : s = 0
      · exact c
      · have := Nat.pow_le_pow_right (n := 2) (by omega) (show 1 ≤ s + t from by omega)
        omega
    subst hs0
    have := hs.1; have := hs.2
    obtain rfl : x = 1 := by omega
    rw [cm_one]
/-- what the greatest divisor is -/
def IsGcd (p q g : Nat) : Prop := Dv g p ∧ Dv g q ∧ ∀ d, Dv d p → Dv d q → Dv d g
theorem IsGcd.unique {p q g h : Nat} (a : IsGcd p q g) (b : IsGcd p q h) : g = h := Dv.antisymm (b.2.2 g a.1 a.2.1) (a.2.2 h b.1 b.2.1)
theorem IsGcd.swap {p q g : Nat} (a : IsGcd p q g) : IsGcd q p g := ⟨a.2.1, a.1, fun d x y => a.2.2 d y x⟩
theorem IsGcd.step {p q g d A : Nat} (h : p = cm q A ^^^ pm q d p) (a : IsGcd q (pm q d p) g) : IsGcd p q g := by
  have h' : pm q d p = cm q A ^^^ p := by
    conv => rhs; rw [h]
    rw [← Nat.xor_assoc, Nat.xor_self, Nat.zero_xor]
  refine ⟨?_, a.1, fun e x y => a.2.2 e y ?_⟩
  · rw [h]; exact (a.1.mul A).xor a.2.1
  · rw [h']; exact (y.mul A).xor x
theorem gcd_ev : ∀ (q p : Nat), p < 2 ^ 64 → q < 2 ^ 64 → ∃ g, IsGcd p q g ∧ g < 2 ^ 64 ∧ Ev (fun k => poly_Gcd.l0 k (p : Int) (q : Int)) (g : Int) := by
  intro q
  induction q using Nat.strongRecOn with
  | ind q ih =>
    intro p hp hq
    by_cases z : q = 0
    · subst z
      exact ⟨p, ⟨Dv.refl p, Dv.zero p, fun _ x _ => x⟩, hp, Ev.step (fun k => poly_Gcd.l0.eq_2 ..) (Ev_ite_pos rfl (Ev.now _))⟩
    · obtain ⟨d, hd⟩ := exists_deg z
      obtain ⟨A, h1, _, h3⟩ := div_ev hd hp hq
      have hR := pm_lt hd.1 hd.2 p
      obtain ⟨g, g1, g2, g3⟩ := ih (pm q d p) (Nat.lt_of_lt_of_le hR hd.1) q hq (Nat.lt_trans (Nat.lt_of_lt_of_le hR hd.1) hq)
      exact ⟨g, g1.step h1, g2, Ev.step (fun k => poly_Gcd.l0.eq_2 ..) (Ev_ite_neg (by omega) (Ev.bind h3 g3))⟩
theorem ref_gcd_ev : ∀ (q p : Nat), p < 2 ^ 64 → q < 2 ^ 64 → ∃ g, IsGcd p q g ∧ Ev (fun k => parapetref01_Gcd.f k (p : Int) (q : Int)) (g : Int) := by
  intro q
  induction q using Nat.strongRecOn with
  | ind q ih =>
    intro p hp hq
    by_cases z : q = 0
    · subst z
      exact ⟨p, ⟨Dv.refl p, Dv.zero p, fun _ x _ => x⟩, Ev.step (fun k => parapetref01_Gcd.f.eq_2 ..) (Ev_ite_pos rfl (Ev.now _))⟩
    · obtain ⟨d, hd⟩ := exists_deg z
      obtain ⟨A, h1, h3⟩ := ref_div_ev hd hp hq
      have hR := pm_lt hd.1 hd.2 p
      obtain ⟨g, g1, g3⟩ := ih (pm q d p) (Nat.lt_of_lt_of_le hR hd.1) q hq (Nat.lt_trans (Nat.lt_of_lt_of_le hR hd.1) hq)
      exact ⟨g, g1.step h1, Ev.step (fun k => parapetref01_Gcd.f.eq_2 ..) (Ev_ite_neg (by omega) (Ev.bind h3 (Ev.bind g3 (Ev.now _))))⟩
theorem PolyGcd : parapetlaw01_PolyGcd.Pure := by
  intro a b c ha hb hc
  obtain ⟨p, rfl, hp⟩ := u64_of_wf ha
  obtain ⟨q, rfl, hq⟩ := u64_of_wf hb
  obtain ⟨e, rfl, he⟩ := u64_of_wf hc
  apply Ev.rounds (g := fun k => parapetlaw01_PolyGcd.f k (p : Int) (q : Int) (e : Int))
  unfold parapetlaw01_PolyGcd.f
  refine Ev.bind awake_ev (Ev_ite_pos rfl ?_)
  obtain ⟨g, g1, g2, g3⟩ := gcd_ev q p hp hq
  obtain ⟨h, h1, h3⟩ := ref_gcd_ev q p hp hq
  obtain ⟨i, i1, _, i3⟩ := gcd_ev p q hq hp
  obtain rfl := g1.unique h1
  obtain rfl := g1.unique i1.swap
  refine Ev.bind (f := fun k t145 => _) (a := (g : Int)) g3 (Ev.bind h3 (Ev_ite_pos rfl (Ev.bind (f := fun k t147 => _) (a := (g : Int)) i3 ?_)))
  rw [bne_self_eq_false]
  refine Ev.step (fun k => parapetlaw01_PolyGcd.j0.eq_2 ..) (Ev_ite_neg (by simp) ?_)
  by_cases z : e = 0
  · subst z; exact Ev_ite_pos rfl (Ev.now _)
  · obtain ⟨d, hd⟩ := exists_deg z
    obtain ⟨_, _, _, ea⟩ := div_ev hd hp he
    obtain ⟨_, _, _, eb⟩ := div_ev hd hq he
    obtain ⟨_, _, _, ec⟩ := div_ev hd g2 he
    refine Ev_ite_neg (by omega) (Ev.bind ea (Ev.bind eb (Ev.bind ec ?_)))
    have key : pm e d g = 0 ↔ pm e d p = 0 ∧ pm e d q = 0 := by
      rw [dv_pm hd, dv_pm hd, dv_pm hd]
      constructor
      · intro x
        obtain ⟨y, rfl⟩ := x
        obtain ⟨u, hu⟩ := g1.1
        obtain ⟨v, hv⟩ := g1.2.1
        exact ⟨⟨cm y u, by rw [hu, cm_assoc]⟩, ⟨cm y v, by rw [hv, cm_assoc]⟩⟩
      · intro x; exact g1.2.2 e x.1 x.2
    simp only []
    generalize pm e d g = u at *
    generalize pm e d p = v at *
    generalize pm e d q = w at *
    by_cases hv : v = 0
    · refine Ev_ite_pos (by omega) ?_
      by_cases hw : w = 0
      · have hu := key.2 ⟨hv, hw⟩
        subst hu; subst hv; subst hw
        exact Ev.now _
      · have hu : ¬ u = 0 := fun x => hw (key.1 x).2
        have e1 : ((w : Int) == 0) = false := by simpa using hw
        have e2 : ((u : Int) == 0) = false := by simpa using hu
        rw [e1, e2]; exact Ev.now _
    · refine Ev_ite_neg (by omega) ?_
      have hu : ¬ u = 0 := fun x => hv (key.1 x).1
      have e2 : ((u : Int) == 0) = false := by simpa using hu
      rw [e2]; exact Ev.now _

end Go.Proofs.Ytcnlomknmhgpbac.Pure
