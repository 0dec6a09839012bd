/- The law CrcOdd, as its printed function has it: it answers true for every input. -/
import Derived.Test.YtcnlomknmhgpbaaLemA
namespace Go.Proofs.Ytcnlomknmhgpbaa.Pure
open Go Go.RowKit Go.Proofs.Ytcnlomknmhgpbaa.PA Go.Proofs.YtcnlomknmhgpbaaW.PrintWords Go.Proofs.YtcnlomknmhgpbaaW.PrintLast Go.Proofs.YtcnlomknmhgpbaaW.PrintMore
open Go.Proofs.Ytcnlomknmhgpbaa.Gf Go.Proofs.Ytcnlomknmhgpbaa.Bt
theorem par_shift (x n : Nat) : pm 3 1 (x * 2 ^ n) = pm 3 1 x := by
  have h1 : (2 : Nat) ^ 1 ≤ 3 := by decide
  have h2 : (3 : Nat) < 2 ^ (1 + 1) := by decide
  induction n with
  | zero => simp
  | succ n ih =>
    have hlt := pm_lt h1 h2 (x * 2 ^ n)
    have e : pm 3 1 (x * 2 ^ (n + 1)) = red 3 1 (2 * pm 3 1 (x * 2 ^ n) ^^^ 0) := by
      rw [← pm_bit _ _ _ _ (by omega), Nat.pow_succ, ← Nat.mul_assoc, Nat.mul_comm 2, Nat.add_zero]
    rw [e, ih] at *
    have h : ∀ r, r < 2 → red 3 1 (2 * r ^^^ 0) = r := by decide +kernel
    exact h _ hlt
theorem par_pow (n : Nat) : pm 3 1 (2 ^ n) = 1 := by
  have := par_shift 1 n
  have h1 : pm 3 1 1 = 1 := pm_small (by decide) (by decide) (by decide)
  rw [Nat.one_mul, h1] at this
  exact this
theorem par_G : pm 3 1 G = 0 := by
  have h : pm 3 1 G = wt 33 G % 2 := pm3 33 G G2
  rw [h]; decide
theorem par_cm (a : Nat) : pm 3 1 (cm G a) = 0 := by
  rw [← pm_mul (by decide) (by decide), par_G, zero_cm, pm_zero]
theorem odd_seen {x : Nat} (h : pm 3 1 x = 1) : pm G 32 (x * 2 ^ 32) ≠ 0 := by
  intro e
  have h1 := pm_cong G 32 (x * 2 ^ 32)
  rw [e] at h1
  obtain ⟨a, ha⟩ := h1
  rw [Nat.xor_zero] at ha
  have h2 := par_shift x 32
  rw [ha, par_cm, h] at h2
  cases h2
/-- l' is l but for bits whose number is odd, or even -/
def Parity (l l' : List Int) (n : Nat) : Prop := ∃ x, pol l' = pol l ^^^ x ∧ pm 3 1 x = n % 2
theorem turned_loop (s : List Int) (n : Nat) (hn : 8 * n < 1000000) : ∀ (ps pre l : List Int), (∀ p ∈ ps, 0 ≤ p ∧ p < 8 * (n : Int)) → (pre ++ ps).length ≤ 1000000 → l.length = n → By l → Parity s l pre.length →
    ∃ l', l'.length = n ∧ By l' ∧ Parity s l' (pre ++ ps).length ∧ Ev (fun k => parapethand_Turned.l0 k (pre ++ ps) l (pre.length : Int)) l' := by
  intro ps
  induction ps with
  | nil =>
    intro pre l _ _ hl hb hp
    exact ⟨l, hl, hb, by simpa using hp, Ev.step (fun k => parapethand_Turned.l0.eq_2 ..) (Ev_ite_neg (by simp) (Ev.now _))⟩
  | cons p ps ih =>
    intro pre l hps hlen hl hb hp
    obtain ⟨q, rfl, hq⟩ : ∃ q : Nat, p = (q : Int) ∧ q < 8 * n := by
      have := hps p (List.mem_cons_self ..)
      exact ⟨p.toNat, by omega, by omega⟩
    have hf := flip_both l q hb (by omega)
    obtain ⟨l', g1, g2, g3, g4⟩ := ih (pre ++ [(q : Int)]) (flip l q) (fun x hx => hps x (List.mem_cons_of_mem _ hx)) (by simpa using hlen) (by rw [flip_length]; exact hl) hf.1 (by
      obtain ⟨x, h1, h2⟩ := hp
      refine ⟨x ^^^ 2 ^ (8 * l.length - 1 - q), by rw [hf.2, h1, Nat.xor_assoc], ?_⟩
      rw [pm_xor (by decide) (by decide), h2, par_pow, List.length_append, List.length_singleton]
      rcases Nat.mod_two_eq_zero_or_one pre.length with h3 | h3
      · rw [h3, show (pre.length + 1) % 2 = 1 from by omega]; decide
      · rw [h3, show (pre.length + 1) % 2 = 0 from by omega]; decide)
    rw [List.append_assoc, List.singleton_append] at g3 g4
    refine ⟨l', g1, g2, g3, ?_⟩
    clear g1 g2 g3 hp hf ih hb
    have hlt : ((pre.length : Nat) : Int) < ((pre ++ (q : Int) :: ps).length : Int) := by simp; omega
    refine Ev.step (fun k => parapethand_Turned.l0.eq_2 ..) (Ev_ite_pos hlt (Ev_ite_pos (by omega) ?_))
    rw [rd_at, w_div8 (by omega), t_mod8]
    refine Ev_ite_pos (by omega) (Ev_ite_pos (by omega) (Ev_ite_pos (by omega) ?_))
    rw [Int.toNat_natCast, w_succ (by simp at hlen; omega)]
    have e : ((pre ++ [(q : Int)]).length : Int) = ((pre.length + 1 : Nat) : Int) := by simp
    rw [e] at g4
    exact g4
/-- a fact that arithmetic is not to see -/
structure Hd (p : Prop) : Prop where
  out : p
theorem u_id {N : Nat} (h : N < 1000000) : IntKind.u64.wrap (N : Int) = (N : Int) := by rw [wrap_u64]; omega
theorem place_ne {N : Nat} (h0 : 0 < N) (h : N < 1000000) : ¬ IntKind.u64.wrap (N : Int) = 0 := by rw [u_id h]; omega
theorem place_at {N : Nat} (h0 : 0 < N) (h : N < 1000000) (x : Int) : ∃ q : Nat, wrap64 (Int.tmod (IntKind.u64.wrap x) (IntKind.u64.wrap (N : Int))) = (q : Int) ∧ q < N := by
  obtain ⟨a, ha⟩ := u_nat x
  exact ⟨a % N, by rw [ha, u_id h, w_mod h0 (by omega)], Nat.mod_lt _ h0⟩
theorem places_loop (N : Nat) (h0 : 0 < N) (hN : N < 1000000) (src : List Int) (hsrc : src.length ≤ 4000) : ∀ (n i : Nat) (seen : List Bool) (out : List Int), i + n = src.length → seen.length = N → out.length ≤ i → (∀ p ∈ out, 0 ≤ p ∧ p < (N : Int)) →
    ∃ r, (∀ p ∈ r, 0 ≤ p ∧ p < (N : Int)) ∧ r.length ≤ src.length ∧ Ev (fun k => parapethand_Places.l0 k src (N : Int) seen out (i : Int)) r := by
  intro n
  induction n with
  | zero =>
    intro i seen out hi hs ho hp
    refine ⟨out, hp, by omega, Ev.step (fun k => parapethand_Places.l0.eq_2 ..) (Ev_ite_neg (by omega) (Ev.now _))⟩
  | succ n ih =>
    intro i seen out hi hs ho hp
    obtain ⟨q, hq0, hm⟩ := place_at h0 (by omega) (rd src (i : Int))
    have hq := Hd.mk hq0
    clear hq0
    by_cases c : rdOf false seen ((q : Nat) : Int) = true
    · obtain ⟨r, r1, r2, r3⟩ := ih (i + 1) seen out (by omega) hs (by omega) hp
      refine ⟨r, r1, r2, ?_⟩
      refine Ev.step (fun k => parapethand_Places.l0.eq_2 ..) (Ev_ite_pos (by omega) (Ev_ite_pos (by omega) (Ev_ite_neg (place_ne h0 (by omega)) ?_)))
      rw [hq.out, w_succ (by omega)]
      exact Ev_ite_pos (by omega) (Ev_ite_pos (by omega) (Ev_ite_pos c r3))
    · obtain ⟨r, r1, r2, r3⟩ := ih (i + 1) (seen.set q true) (out ++ [((q : Nat) : Int)]) (by omega) (by rw [List.length_set]; exact hs) (by rw [List.length_append, List.length_singleton]; omega) (by
        intro p hp'
        rcases List.mem_append.1 hp' with h | h
        · exact hp p h
        · rw [List.mem_singleton.1 h]; omega)
      refine ⟨r, r1, r2, ?_⟩
      refine Ev.step (fun k => parapethand_Places.l0.eq_2 ..) (Ev_ite_pos (by omega) (Ev_ite_pos (by omega) (Ev_ite_neg (place_ne h0 (by omega)) ?_)))
      rw [hq.out, w_succ (by omega)]
      refine Ev_ite_pos (by omega) (Ev_ite_pos (by omega) (Ev_ite_neg c (Ev_ite_pos (by omega) ?_)))
      rw [Int.toNat_natCast]
      exact r3
theorem places_ev {N : Nat} (h0 : 0 < N) (hN : N < 1000000) {src : List Int} (hsrc : src.length ≤ 4000) :
    ∃ r, (∀ p ∈ r, 0 ≤ p ∧ p < (N : Int)) ∧ r.length ≤ src.length ∧ Ev (fun k => parapethand_Places.f k src (N : Int)) r := by
  obtain ⟨r, r1, r2, r3⟩ := places_loop N h0 hN src hsrc src.length 0 (List.replicate N false) [] (by omega) (by simp) (by simp) (by simp)
  refine ⟨r, r1, r2, ?_⟩
  unfold parapethand_Places.f
  refine Ev_ite_neg (by omega) (Ev_ite_pos (by omega) (Ev_ite_pos (by omega) ?_))
  rw [Int.toNat_natCast]
  exact r3
theorem turned_ev {s ps : List Int} (hb : By s) (hl : s.length ≤ 5000) (hp : ∀ p ∈ ps, 0 ≤ p ∧ p < 8 * (s.length : Int)) (hps : ps.length ≤ 4000) :
    ∃ l', l'.length = s.length ∧ By l' ∧ Parity s l' ps.length ∧ Ev (fun k => parapethand_Turned.f k s ps) l' := by
  obtain ⟨l', g1, g2, g3, g4⟩ := turned_loop s s.length (by omega) ps [] s hp (by simp; omega) rfl hb ⟨0, by simp, by rw [pm_zero]; rfl⟩
  refine ⟨l', g1, g2, g3, ?_⟩
  unfold parapethand_Turned.f
  exact Ev_some (Ev_ite_pos (by simp; omega) g4)
theorem CrcOdd : parapetlaw02_CrcOdd.Pure := by
  intro l pl hl _ hw _ _ _
  have hb := by_of_wf hw
  apply Ev.rounds (g := fun k => parapetlaw02_CrcOdd.f k l pl)
  unfold parapetlaw02_CrcOdd.f
  refine Ev.bind awake_ev (Ev_ite_pos rfl ?_)
  have tt : Ev (fun k => parapetlaw02_CrcOdd.j0 k l pl true) true := Ev.step (fun k => parapetlaw02_CrcOdd.j0.eq_2 ..) (Ev_ite_pos rfl (Ev.now _))
  by_cases c : (l.length : Int) > 4000
  · exact Ev_ite_pos c tt
  refine Ev_ite_neg c ?_
  by_cases c2 : (pl.length : Int) > 4000
  · rw [decide_eq_true c2]; exact tt
  rw [decide_eq_false c2]
  have hsl := sealed_length l
  have hsb := sealed_by hb
  have hc := crc_sealed (l := l)
  refine Ev.step (fun k => parapetlaw02_CrcOdd.j0.eq_2 ..) (Ev_ite_neg (by simp) (Ev.bind (seal_ev hb (by omega)) ?_))
  have e : wrap64 (8 * ((sealed l).length : Int)) = ((8 * (sealed l).length : Nat) : Int) := by rw [wrap64_id (by omega) (by omega)]; omega
  rw [e]
  obtain ⟨ps, p1, p2, p3⟩ := places_ev (N := 8 * (sealed l).length) (by omega) (by omega) (src := pl) (by omega)
  obtain ⟨l', g1, g2, g3, g4⟩ := turned_ev (ps := ps) hsb (by omega) (fun p hp => by have := p1 p hp; omega) (by omega)
  refine Ev.bind p3 (Ev.bind g4 (Ev.bind (valid_ev g2 (by omega) (by omega)) ?_))
  obtain ⟨x, x1, x2⟩ := g3
  have hx := crc_xor x1 hc
  by_cases z : ps.length % 2 = 0
  · have t2 : (((ps.length : Nat) : Int) % 2 == 0) = true := by simp; omega
    rw [t2]
    by_cases c3 : (decide (crc l' = 0) == ((ps.length : Int) == 0)) = true
    · exact Ev_ite_pos c3 (Ev.now _)
    · exact Ev_ite_neg c3 (Ev.now _)
  · have ho := odd_seen (x := x) (by rw [x2]; omega)
    rw [← hx] at ho
    rw [decide_eq_false ho, show ((ps.length : Int) == 0) = false from by simp; intro h; subst h; simp at z]
    exact Ev_ite_pos rfl (Ev.now _)

end Go.Proofs.Ytcnlomknmhgpbaa.Pure
