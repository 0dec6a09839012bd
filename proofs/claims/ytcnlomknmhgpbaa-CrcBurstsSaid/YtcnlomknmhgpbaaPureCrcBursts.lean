/- The law CrcBursts, as its printed function has it: it answers true for every input. -/
import Derived.Test.YtcnlomknmhgpbaaLemA
namespace Go.Proofs.Ytcnlomknmhgpbaa.Pure
open Go Go.RowKit Go.Proofs.Ytcnlomknmhgpbaa.PA Go.Proofs.YtcnlomknmhgpbaaW.PrintWords Go.Proofs.YtcnlomknmhgpbaaW.PrintLast Go.Proofs.YtcnlomknmhgpbaaW.PrintMore
open Go.Proofs.Ytcnlomknmhgpbaa.Gf Go.Proofs.Ytcnlomknmhgpbaa.Bt
theorem size_loop (b : List Int) (at' : Int) (w : Nat) (hw : w < 2 ^ 32) (r : List Int × Bool) 
    (h : Ev (fun k => if ((len w : Nat) : Int) = 0 then (parapethand_Burst.j1 k b at' (w : Int) ((len w : Nat) : Int) (wrap64 ((wrap64 ((wrap64 (8 * (b.length : Int))) - ((len w : Nat) : Int))) + 1)) true) else (parapethand_Burst.j1 k b at' (w : Int) ((len w : Nat) : Int) (wrap64 ((wrap64 ((wrap64 (8 * (b.length : Int))) - ((len w : Nat) : Int))) + 1)) (decide ((wrap64 ((wrap64 ((wrap64 (8 * (b.length : Int))) - ((len w : Nat) : Int))) + 1)) < 1)))) r) :
    ∀ (n i : Nat), i + n = 32 → Ev (fun k => parapethand_Burst.l0 k b at' (w : Int) ((len (w % 2 ^ i) : Nat) : Int) (i : Int)) r := by
  intro n
  induction n with
  | zero =>
    intro i hi
    obtain rfl : i = 32 := by omega
    refine Ev.step (fun k => parapethand_Burst.l0.eq_2 ..) (Ev_ite_neg (by omega) ?_)
    rw [Nat.mod_eq_of_lt hw]
    exact h
  | succ n ih =>
    intro i hi
    have e : wrap64 ((i : Int) + 1) = ((i + 1 : Nat) : Int) := by rw [wrap64_id (by omega) (by omega)]; omega
    refine Ev.step (fun k => parapethand_Burst.l0.eq_2 ..) (Ev_ite_pos (by omega) (Ev_ite_pos (by omega) ?_))
    rw [e]
    have g := ih (i + 1) (by omega)
    have hm : w % 2 ^ (i + 1) = (w.testBit i).toNat * 2 ^ i + w % 2 ^ i := by
      have hh := (halves w i).1
      rw [Nat.pow_succ, Nat.mod_mul, hh, Nat.mul_comm]; omega
    have hlt : w % 2 ^ i < 2 ^ i := Nat.mod_lt _ (Nat.two_pow_pos i)
    by_cases c : w.testBit i = true
    · refine Ev_ite_neg (by rw [bit32_zero hw (by omega), c]; simp) ?_
      rw [c] at hm
      simp only [Bool.toNat_true, Nat.one_mul] at hm
      have : len (w % 2 ^ (i + 1)) = i + 1 := len_iff.2 ⟨by omega, Nat.mod_lt _ (Nat.two_pow_pos _)⟩
      rw [this] at g
      exact g
    · have c' : w.testBit i = false := by simpa using c
      refine Ev_ite_pos ((bit32_zero hw (by omega)).2 c') ?_
      rw [c'] at hm
      simp only [Bool.toNat_false, Nat.zero_mul, Nat.zero_add] at hm
      rw [hm] at g
      exact g
/-- a fact that arithmetic is not to see -/
structure Hd (p : Prop) : Prop where
  out : p
/-- l is b but for the bits of x -/
def Parted (b l : List Int) (x : Nat) : Prop := pol l = pol b ^^^ x
theorem burst_loop (w n s f t : Nat) (hw : w < 2 ^ 32) (hs : len w = s) (ht : f + s + t = 8 * n) (hn : 8 * n < 1000000) (b : List Int) :
    ∀ (m i : Nat) (l : List Int), i + m = s → l.length = n → By l → Parted b l ((w / 2 ^ (s - i)) * 2 ^ (t + (s - i))) →
    ∃ l', l'.length = n ∧ By l' ∧ Parted b l' (w * 2 ^ t) ∧ Ev (fun k => parapethand_Burst.l1 k (w : Int) (s : Int) (f : Int) l (i : Int)) (l', true) := by
  have hs32 : s ≤ 32 := by rw [← hs]; exact len_le hw
  intro m
  induction m with
  | zero =>
    intro i l hi hl hb hp
    obtain rfl : i = s := by omega
    refine ⟨l, hl, hb, ?_, Ev.step (fun k => parapethand_Burst.l1.eq_2 ..) (Ev_ite_neg (by omega) (Ev.now _))⟩
    rw [Nat.sub_self, Nat.pow_zero, Nat.div_one, Nat.add_zero] at hp
    exact hp
  | succ m ih =>
    intro i l hi hl hb hp
    have hsi : i < s := by omega
    have hfi : f + i < 8 * n := by omega
    have him : i + 1 + m = s := by omega
    clear hi
    have key : (w / 2 ^ (s - (i + 1))) * 2 ^ (t + (s - (i + 1))) = (w / 2 ^ (s - i)) * 2 ^ (t + (s - i)) ^^^ (w.testBit (s - 1 - i)).toNat * 2 ^ (t + (s - 1 - i)) := by
      have hh := halves w (s - 1 - i)
      have q1 : s - 1 - i + 1 = s - i := by clear hh; omega
      have q2 : s - (i + 1) = s - 1 - i := by clear hh; omega
      have q3 : t + (s - i) = 1 + (t + (s - 1 - i)) := by clear hh; omega
      rw [q1] at hh
      rw [q2, q3, Nat.pow_add 2 1, ← Nat.mul_assoc, ← xor_shift, Nat.pow_one, ← hh.2, ← hh.1, Nat.xor_comm, Nat.mul_comm _ 2]
      rw [← split_bit (w / 2 ^ (s - 1 - i))]
    have Key := Hd.mk key
    clear key
    by_cases c : w.testBit (s - 1 - i) = true
    · have hf := flip_both l (f + i) hb (by omega)
      have Hf2 := Hd.mk hf.2
      have hf1 := hf.1
      clear hf
      obtain ⟨l', g1, g2, g3, g4⟩ := ih (i + 1) (flip l (f + i)) him (by rw [flip_length]; exact hl) hf1 (by
        unfold Parted at hp ⊢
        rw [Hf2.out, hp, Key.out, c, Bool.toNat_true, Nat.one_mul, Nat.xor_assoc, hl]
        have q : 8 * n - 1 - (f + i) = t + (s - 1 - i) := by clear Hf2 hp Key; omega
        rw [q])
      refine ⟨l', g1, g2, g3, ?_⟩
      clear g1 g2 g3 hf1 Hf2 hp Key
      refine Ev.step (fun k => parapethand_Burst.l1.eq_2 ..) (Ev_ite_pos (by omega) ?_)
      rw [w_sub2 hsi (by omega), w_add (by omega), w_div8 (by omega), t_mod8, w_succ (by omega)]
      refine Ev_ite_pos (by omega) (Ev_ite_neg (by rw [bit32_zero hw (by omega), c]; simp) (Ev_ite_pos (by omega) (Ev_ite_pos (by omega) (Ev_ite_pos (by omega) ?_))))
      rw [Int.toNat_natCast]
      exact g4
    · have c' : w.testBit (s - 1 - i) = false := by simpa using c
      obtain ⟨l', g1, g2, g3, g4⟩ := ih (i + 1) l him hl hb (by
        unfold Parted at hp ⊢
        rw [hp, Key.out, c', Bool.toNat_false, Nat.zero_mul, Nat.xor_zero])
      refine ⟨l', g1, g2, g3, ?_⟩
      clear g1 g2 g3 hp Key
      refine Ev.step (fun k => parapethand_Burst.l1.eq_2 ..) (Ev_ite_pos (by omega) ?_)
      rw [w_sub2 hsi (by omega), w_succ (by omega)]
      exact Ev_ite_pos (by omega) (Ev_ite_pos ((bit32_zero hw (by omega)).2 c') g4)
theorem w_room {n s : Nat} (hn : n ≤ 5000) (hs : s ≤ 32) : wrap64 ((wrap64 ((wrap64 (8 * (n : Int))) - (s : Int))) + 1) = 8 * (n : Int) - (s : Int) + 1 := by
  rw [wrap64_id (n := 8 * (n : Int)) (by omega) (by omega), wrap64_id (n := 8 * (n : Int) - (s : Int)) (by omega) (by omega), wrap64_id (by omega) (by omega)]
theorem u_room {n s : Nat} (hn : n ≤ 5000) (hs : s ≤ 8 * n) : IntKind.u64.wrap (8 * (n : Int) - (s : Int) + 1) = ((8 * n + 1 - s : Nat) : Int) := by rw [wrap_u64]; omega
theorem burst_start {b : List Int} (hl : b.length ≤ 5000) {at' : Int} {w : Nat} (hw : w < 2 ^ 32) (r : List Int × Bool)
    (h : Ev (fun k => if ((len w : Nat) : Int) = 0 then (parapethand_Burst.j1 k b at' (w : Int) ((len w : Nat) : Int) (8 * (b.length : Int) - ((len w : Nat) : Int) + 1) true) else (parapethand_Burst.j1 k b at' (w : Int) ((len w : Nat) : Int) (8 * (b.length : Int) - ((len w : Nat) : Int) + 1) (decide ((8 * (b.length : Int) - ((len w : Nat) : Int) + 1) < 1)))) r) :
    Ev (fun k => parapethand_Burst.f k b at' (w : Int)) r := by
  have := size_loop b at' w hw r (by rw [w_room hl (len_le hw)]; exact h) 32 0 rfl
  rw [Nat.pow_zero, Nat.mod_one, len_zero] at this
  exact this
theorem burst_no {b : List Int} {at' x : Int} {w : Nat} : Ev (fun k => parapethand_Burst.j1 k b at' (w : Int) ((len w : Nat) : Int) x true) ([], false) :=
  Ev.step (fun _ => parapethand_Burst.j1.eq_2 ..) (Ev_ite_pos rfl (Ev.now _))
/-- what the burst makes: nothing, or a list that the word's bits part from the bytes -/
theorem burst_ev {b : List Int} (hb : By b) (hl : b.length ≤ 5000) {at' : Int} {w : Nat} (hw : w < 2 ^ 32) :
    Ev (fun k => parapethand_Burst.f k b at' (w : Int)) ([], false) ∨
    ∃ l' t, w ≠ 0 ∧ l'.length = b.length ∧ By l' ∧ Parted b l' (w * 2 ^ t) ∧ Ev (fun k => parapethand_Burst.f k b at' (w : Int)) (l', true) := by
  have hlw := len_le hw
  by_cases z : len w = 0
  · exact .inl (burst_start hl hw _ (Ev_ite_pos (by omega) burst_no))
  by_cases c : 8 * b.length < len w
  · exact .inl (burst_start hl hw _ (Ev_ite_neg (by omega) (by rw [decide_eq_true (by omega)]; exact burst_no)))
  · refine .inr ?_
    have hw0 : w ≠ 0 := by intro h; subst h; exact z rfl
    obtain ⟨a, ha⟩ := u_nat at'
    have hr : 0 < 8 * b.length + 1 - len w := by omega
    have hr2 : 8 * b.length + 1 - len w < 4611686018427387904 := by omega
    have hfs : a % (8 * b.length + 1 - len w) + len w ≤ 8 * b.length := by
      have := Nat.mod_lt a hr
      omega
    obtain ⟨f, hfe⟩ : ∃ f, a % (8 * b.length + 1 - len w) = f := ⟨_, rfl⟩
    have hwm := w_mod (a := a) hr hr2
    rw [hfe] at hfs hwm
    have Hwm := Hd.mk hwm
    have Ha := Hd.mk ha
    clear hwm ha hfe
    obtain ⟨l', g1, g2, g3, g4⟩ := burst_loop w b.length (len w) f (8 * b.length - f - len w) hw rfl (by omega) (by omega) b (len w) 0 b (by omega) rfl hb (by
      unfold Parted
      rw [Nat.sub_zero, Nat.div_eq_of_lt (lt_of_len (Nat.le_refl _)), Nat.zero_mul, Nat.xor_zero])
    refine ⟨l', _, hw0, g1, g2, g3, burst_start hl hw _ (Ev_ite_neg (by omega) ?_)⟩
    rw [decide_eq_false (by omega)]
    refine Ev.step (fun k => parapethand_Burst.j1.eq_2 ..) (Ev_ite_neg (by simp) ?_)
    rw [u_room hl (by omega), Ha.out]
    refine Ev_ite_neg (by omega) (Ev_some (Ev_ite_pos (by simp; omega) ?_))
    rw [Hwm.out]
    exact g4
theorem CrcBursts : parapetlaw02_CrcBursts.Pure := by
  intro l a c hl _ hw _ hc
  have hb := by_of_wf hw
  obtain ⟨w, rfl, hww⟩ := u32_of_wf hc
  apply Ev.rounds (g := fun k => parapetlaw02_CrcBursts.f k l a (w : Int))
  unfold parapetlaw02_CrcBursts.f
  refine Ev.bind awake_ev (Ev_ite_pos rfl ?_)
  by_cases c : (l.length : Int) > 4000
  · exact Ev_ite_pos c (Ev.now _)
  refine Ev_ite_neg c (Ev.bind (seal_ev hb (by omega)) ?_)
  have hsl := sealed_length l
  rcases burst_ev (at' := a) (sealed_by hb) (by omega) hww with h | ⟨l', t, h0, h1, h2, h3, h4⟩
  · exact Ev.bind h (Ev_ite_neg (by simp) (Ev.now _))
  · refine Ev.bind h4 (Ev_ite_pos rfl (Ev.bind (valid_ev (l := l') h2 (by omega) (by omega)) ?_))
    have e : ¬ crc l' = 0 := by
      rw [crc_xor h3 crc_sealed, Nat.mul_assoc, ← Nat.pow_add]
      exact burst_seen h0 hww
    rw [decide_eq_false e]
    exact Ev.now _

end Go.Proofs.Ytcnlomknmhgpbaa.Pure
