/- The law BurstShape, as its printed function has it: it answers true for every input. -/
import Derived.Test.YtcnlomknmhgpbabLemB
namespace Go.Proofs.Ytcnlomknmhgpbab.Pure
open Go Go.RowKit Go.Proofs.Ytcnlomknmhgpbab.PB Go.Proofs.YtcnlomknmhgpbabW.PrintWords Go.Proofs.YtcnlomknmhgpbabW.PrintLast Go.Proofs.YtcnlomknmhgpbabW.PrintMore
open Go.Proofs.Ytcnlomknmhgpbab.Gf Go.Proofs.Ytcnlomknmhgpbab.Bt
/-- what the loop over the word's bits knows behind the bits from i on -/
def Seen (w i heavy low size : Nat) : Prop := heavy = wt (32 - i) (w / 2 ^ i) ∧ (w / 2 ^ i = 0 ∧ size = 0 ∨ w / 2 ^ i ≠ 0 ∧ size = len w ∧ i ≤ low ∧ odds (w / 2 ^ i) (low - i))
theorem seen_step {w i heavy low size : Nat} (hw : w < 2 ^ 32) (hi : i < 32) (h : Seen w (i + 1) heavy low size) :
    (w.testBit i = false → Seen w i heavy low size) ∧ (w.testBit i = true → Seen w i (heavy + 1) i (if size = 0 then i + 1 else size)) := by
  obtain ⟨h1, h2⟩ := h
  have hh := halves w i
  have hdm := Nat.div_add_mod (w / 2 ^ i) 2
  rw [hh.1, hh.2] at hdm
  have hwt : wt (32 - i) (w / 2 ^ i) = (w.testBit i).toNat + wt (32 - (i + 1)) (w / 2 ^ (i + 1)) := by
    rw [show 32 - i = (32 - (i + 1)) + 1 from by omega]
    show w / 2 ^ i % 2 + wt _ (w / 2 ^ i / 2) = _
    rw [hh.1, hh.2]
  constructor
  · intro c
    rw [c] at hwt hdm
    simp only [Bool.toNat_false, Nat.zero_add, Nat.add_zero] at hwt hdm
    refine ⟨by rw [hwt]; exact h1, ?_⟩
    rcases h2 with ⟨a, b⟩ | ⟨a, b, cc, d⟩
    · exact .inl ⟨by omega, b⟩
    · refine .inr ⟨by omega, b, by omega, ?_⟩
      obtain ⟨u, hu⟩ := d
      refine ⟨u, ?_⟩
      rw [← hdm, hu, show low - i = (low - (i + 1)) + 1 from by omega, Nat.pow_succ, Nat.mul_comm 2, Nat.mul_assoc]
  · intro c
    rw [c] at hwt hdm
    simp only [Bool.toNat_true] at hwt hdm
    refine ⟨by rw [hwt, h1, Nat.add_comm], .inr ⟨by omega, ?_, Nat.le_refl _, ⟨w / 2 ^ (i + 1), by rw [Nat.sub_self, Nat.pow_zero, Nat.mul_one]; exact hdm.symm⟩⟩⟩
    rcases h2 with ⟨a, b⟩ | ⟨a, b, _, _⟩
    · rw [if_pos b]
      have h3 : w / 2 ^ i = 1 := by omega
      have := len_shift (a := w) (s := i) (by omega)
      rw [this, h3]; rfl
    · have : len w ≠ 0 := by
        intro z
        have hw0 : w ≠ 0 := by intro h; subst h; rw [Nat.zero_div] at a; exact a rfl
        obtain ⟨m, hm⟩ := len_pos hw0; omega
      rw [if_neg (by omega)]; exact b
theorem shape_loop {n at' : Int} {w : Nat} {e : List Int} {r : Bool} (hw : w < 2 ^ 32)
    (h : ∀ heavy low size, Seen w 0 heavy low size → Ev (fun k => if (e.length : Int) = n then ((burst_First.f k e).bind fun t145 => (if t145 = at' then ((burst_Weight.f k e).bind fun t146 => (if t146 = ((heavy : Nat) : Int) then ((burst_Span.f k e).bind fun t147 => (if t147 = (wrap64 (((size : Nat) : Int) - ((low : Nat) : Int))) then ((burst_Span.f k e).bind fun t148 => (some (decide (t148 ≤ 32)))) else (some false))) else (some false))) else (some false))) else (some false)) r) :
    ∀ (i heavy low size : Nat), i ≤ 32 → heavy ≤ 32 → Seen w i heavy low size → low ≤ 32 → size ≤ 32 → heavy + i ≤ 32 → Ev (fun k => parapetlaw03_BurstShape.l0 k n at' (w : Int) e (heavy : Int) (low : Int) (size : Int) ((i : Int) - 1)) r := by
  intro i
  induction i with
  | zero =>
    intro heavy low size _ _ hs _ _ _
    exact Ev.step (fun k => parapetlaw03_BurstShape.l0.eq_2 ..) (Ev_ite_neg (by omega) (h heavy low size hs))
  | succ i ih =>
    intro heavy low size hi hh hs hl hsz hhi
    obtain ⟨s0, s1⟩ := seen_step hw (by omega) hs
    have e1 : ((i + 1 : Nat) : Int) - 1 = (i : Int) := by omega
    rw [e1]
    refine Ev.step (fun k => parapetlaw03_BurstShape.l0.eq_2 ..) (Ev_ite_pos (by omega) (Ev_ite_pos (by omega) ?_))
    rw [w_pred (by omega)]
    by_cases c : w.testBit i = true
    · refine Ev_ite_neg (by rw [bit32_zero hw (by omega), c]; simp) ?_
      have s1' := s1 c
      rw [w_succ (i := heavy) (by omega), w_succ (i := i) (by omega)]
      by_cases z : size = 0
      · rw [if_pos z] at s1'
        exact Ev_ite_pos (by omega) (ih (heavy + 1) i (i + 1) (by omega) (by omega) s1' (by omega) (by omega) (by omega))
      · rw [if_neg z] at s1'
        exact Ev_ite_neg (by omega) (ih (heavy + 1) i size (by omega) (by omega) s1' (by omega) (by omega) (by omega))
    · have c' : w.testBit i = false := by simpa using c
      exact Ev_ite_pos ((bit32_zero hw (by omega)).2 c') (ih heavy low size (by omega) hh (s0 c') hl hsz (by omega))
theorem wt_shift (t : Nat) : ∀ (n x : Nat), wt (t + n) (x * 2 ^ t) = wt n x := by
  intro n x
  rw [wt_add, Nat.mul_div_cancel _ (Nat.two_pow_pos t), ← wt_mod, Nat.mul_mod_left, wt_zero, Nat.zero_add]
theorem wt_more (x : Nat) : ∀ (n m : Nat), x < 2 ^ n → wt (n + m) x = wt n x := by
  intro n m h
  rw [wt_add, Nat.div_eq_of_lt h, wt_zero, Nat.add_zero]
theorem wt_same {x a b : Nat} (ha : x < 2 ^ a) (hb : x < 2 ^ b) : wt a x = wt b x := by
  rcases Nat.le_total a b with h | h
  · obtain ⟨m, rfl⟩ := Nat.exists_eq_add_of_le h
    rw [wt_more x a m ha]
  · obtain ⟨m, rfl⟩ := Nat.exists_eq_add_of_le h
    rw [wt_more x b m hb]
theorem BurstShape : parapetlaw03_BurstShape.Pure := by
  intro n at' c hn _ hc
  obtain ⟨w, rfl, hw⟩ := u32_of_wf hc
  have hn' := i64_of_wf hn
  apply Ev.rounds (g := fun k => parapetlaw03_BurstShape.f k n at' (w : Int))
  unfold parapetlaw03_BurstShape.f
  refine Ev.bind awake_ev (Ev_ite_pos rfl ?_)
  rcases make_ev n at' hw hn' with ⟨_, e⟩ | ⟨_, _, _, e⟩ | ⟨N, A, rfl, rfl, h3, h4, h5, e⟩
  · exact Ev.bind e (Ev_ite_neg (by simp) (Ev.now _))
  · exact Ev.bind e (Ev_ite_neg (by simp) (Ev.now _))
  · refine Ev.bind e (Ev_ite_pos rfl ?_)
    have hlen := mkl_length w (len w) A (len w) 0 (List.replicate N 0)
    rw [List.length_replicate] at hlen
    obtain ⟨t, ht⟩ : ∃ t, A + len w + t = 8 * N := ⟨8 * N - A - len w, by omega⟩
    have hr := mkl_pol w (len w) A t (len w) 0 (List.replicate N 0) (by omega) (by rw [List.length_replicate]; exact ht) ⟨by
      intro x hx; have := List.eq_of_mem_replicate hx; omega, by rw [pol_zeros, Nat.sub_zero, Nat.div_eq_of_lt (lt_of_len (Nat.le_refl _)), Nat.zero_mul]⟩
    simp only
    generalize mkl w (len w) A (len w) 0 (List.replicate N 0) = l at hr hlen ⊢
    obtain ⟨hb, hp⟩ := hr
    have hlw := len_le hw
    have hlenp : len (pol l) = t + len w := by
      rw [hp]
      have := len_shift (a := w * 2 ^ t) (s := t) (by rw [Nat.mul_div_cancel _ (Nat.two_pow_pos t)]; exact h4)
      rw [Nat.mul_div_cancel _ (Nat.two_pow_pos t)] at this
      exact this
    have hz : pol l ≠ 0 := by rw [hp]; exact Nat.mul_ne_zero h4 (Nat.ne_of_gt (Nat.two_pow_pos t))
    have hmain : ∀ heavy low size, Seen w 0 heavy low size → Ev (fun k => if (l.length : Int) = (N : Int) then ((burst_First.f k l).bind fun t145 => (if t145 = (A : Int) then ((burst_Weight.f k l).bind fun t146 => (if t146 = ((heavy : Nat) : Int) then ((burst_Span.f k l).bind fun t147 => (if t147 = (wrap64 (((size : Nat) : Int) - ((low : Nat) : Int))) then ((burst_Span.f k l).bind fun t148 => (some (decide (t148 ≤ 32)))) else (some false))) else (some false))) else (some false))) else (some false)) true := by
      intro heavy low size hs
      obtain ⟨s1, s2⟩ := hs
      rw [Nat.pow_zero, Nat.div_one] at s1 s2
      rcases s2 with ⟨a, _⟩ | ⟨_, s3, _, s4⟩
      · exact absurd a h4
      · rw [Nat.sub_zero] at s4 s1
        have ho : odds (pol l) (t + low) := by
          obtain ⟨u, hu⟩ := s4
          exact ⟨u, by rw [hp]; conv => lhs; rw [hu]
                       rw [Nat.mul_assoc, ← Nat.pow_add, Nat.add_comm low]⟩
        have hf := first_ev hb (by omega)
        rw [if_neg hz, hlenp] at hf
        have hwt := weight_ev hb (by omega)
        have ewt : wt (8 * l.length) (pol l) = heavy := by
          rw [hp, s1, hlen, show 8 * N = t + (8 * N - t) from by omega, wt_shift]
          exact wt_same (Nat.lt_of_lt_of_le (lt_of_len (Nat.le_refl _)) (Nat.pow_le_pow_right (by omega) (by omega))) hw
        rw [ewt] at hwt
        have hsp := span_ev hb (by omega) ho hz
        rw [hlenp] at hsp
        have hlow : low ≤ len w := by
          obtain ⟨u, hu⟩ := s4
          have h6 := lt_of_len (Nat.le_refl (len w))
          conv at h6 => lhs; rw [hu]
          have h2 : 2 ^ low ≤ (2 * u + 1) * 2 ^ low := Nat.le_mul_of_pos_left _ (by omega)
          exact Nat.le_of_lt ((Nat.pow_lt_pow_iff_right (by omega)).1 (Nat.lt_of_le_of_lt h2 h6))
        refine Ev_ite_pos (by omega) (Ev.bind hf (Ev_ite_pos (by clear hsp hwt hf e; omega) (Ev.bind hwt (Ev_ite_pos rfl (Ev.bind hsp (Ev_ite_pos ?_ (Ev.bind hsp ?_)))))))
        · clear hsp hwt hf e
          rw [wrap64_id (by omega) (by omega)]; omega
        · rw [decide_eq_true (by clear hsp hwt hf e; omega)]; exact Ev.now _
    have start : Seen w 32 0 32 0 := ⟨by rw [Nat.div_eq_of_lt hw]; rfl, .inl ⟨Nat.div_eq_of_lt hw, rfl⟩⟩
    exact shape_loop hw hmain 32 0 32 0 (by omega) (by omega) start (by omega) (by omega) (by omega)

end Go.Proofs.Ytcnlomknmhgpbab.Pure
