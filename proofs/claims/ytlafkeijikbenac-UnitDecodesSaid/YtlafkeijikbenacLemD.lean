/- Lemmas on the printed functions: what each comes to, over plain numbers and lists. -/
import Derived.Test.YtlafkeijikbenacPDx1
import Derived.Test.YtlafkeijikbenacPDx2
import Derived.Test.YtlafkeijikbenacPDx3
import Derived.Test.YtlafkeijikbenacPDx4
import Derived.Test.YtlafkeijikbenacPDx5
import Derived.Test.YtlafkeijikbenacPDx6
import Derived.Test.YtlafkeijikbenacPDx7
import Derived.Test.YtlafkeijikbenacPDx8
import Derived.Test.YtlafkeijikbenacPDx9
import Derived.Test.YtlafkeijikbenacBt
namespace Go.Proofs.Ytlafkeijikbenac.Pure
open Go Go.RowKit Go.Proofs.Ytlafkeijikbenac.PD Go.Proofs.YtlafkeijikbenacW.PrintWords Go.Proofs.YtlafkeijikbenacW.PrintLast Go.Proofs.YtlafkeijikbenacW.PrintMore
open Go.Proofs.Ytlafkeijikbenac.Gf Go.Proofs.Ytlafkeijikbenac.Bt

theorem step_round {s : Nat} (h : s < 2 ^ 32) : (if ((s : Int) / 2147483648) = 0 then (((s : Int) * 2) % 4294967296) else (Go.bits .xor .u32 (((s : Int) * 2) % 4294967296) 517762881)) = ((pm G 32 (2 * s) : Nat) : Int) := by
  have h2 : 2 * s < 2 ^ (32 + 1) := by omega
  rw [pm_red G1 G2 h2]
  unfold red
  rw [testBit_top h2]
  by_cases c : s < 2147483648
  · rw [if_pos (by omega), if_neg (by simp; omega)]; omega
  · rw [if_neg (by omega), if_pos (by simp; omega)]
    have e1 : ((s : Int) * 2) % 4294967296 = ((2 * s - 2 ^ 32 : Nat) : Int) := by omega
    rw [e1, show (517762881 : Int) = ((517762881 : Nat) : Int) from rfl, xor32 (by omega) (by omega)]
    have e2 : 2 * s = 1 * 2 ^ 32 ^^^ (2 * s - 2 ^ 32) := by rw [← add_eq_xor (by omega)]; omega
    have e3 : G = 1 * 2 ^ 32 ^^^ 517762881 := by rw [← add_eq_xor (by omega)]; rfl
    conv => rhs; rw [e2, e3, xor4, Nat.xor_self, Nat.zero_xor]
theorem step_loop : ∀ (n i s : Nat), i + n = 8 → s < 2 ^ 32 → Ev (fun k => crc_step.l0 k (s : Int) (i : Int)) ((pm G 32 (s * 2 ^ n) : Nat) : Int) := by
  intro n
  induction n with
  | zero =>
    intro i s hi hs
    refine Ev.step (fun k => crc_step.l0.eq_2 ..) ?_
    refine Ev_ite_neg (by omega) ?_
    rw [Nat.pow_zero, Nat.mul_one, pm_small G1 G2 hs]
    exact Ev.now _
  | succ n ih =>
    intro i s hi hs
    refine Ev.step (fun k => crc_step.l0.eq_2 ..) ?_
    refine Ev_ite_pos (by omega) ?_
    have e : wrap64 ((i : Int) + 1) = ((i + 1 : Nat) : Int) := by rw [wrap64_id (by omega) (by omega)]; omega
    rw [e]
    have g := ih (i + 1) (pm G 32 (2 * s)) (by omega) (pm_lt G1 G2 _)
    rw [pm_shift G1 G2, Nat.mul_comm 2 s, Nat.mul_assoc, ← Nat.pow_succ', ← Nat.mul_comm 2 s, ← step_round hs] at g
    by_cases c : ((s : Int) / 2147483648) = 0
    · refine Ev_ite_pos c ?_
      rw [if_pos c] at g; exact g
    · refine Ev_ite_neg c ?_
      rw [if_neg c] at g; exact g
theorem step_ev {s : Nat} {c : Int} (hs : s < 2 ^ 32) (h0 : 0 ≤ c) (h1 : c < 256) : Ev (fun k => crc_step.f k (s : Int) c) ((stp s c.toNat : Nat) : Int) := by
  unfold crc_step.f
  have e : (((c) % 4294967296) * 16777216) % 4294967296 = ((c.toNat * 2 ^ 24 : Nat) : Int) := by omega
  rw [e, xor32 hs (by omega)]
  exact step_loop 8 0 _ rfl (Nat.xor_lt_two_pow hs (by omega))
theorem bits_loop : ∀ (l pre : List Int) (s : Nat), By l → (pre ++ l).length ≤ 140737488355328 → s < 2 ^ 32 →
    Ev (fun k => crc_Bits.l0 k (s : Int) (pre ++ l) ((pre ++ l).length : Int) (pre.length : Int)) ((crcFrom s l : Nat) : Int) := by
  intro l
  induction l with
  | nil =>
    intro pre s _ _ hs
    refine Ev.step (fun k => crc_Bits.l0.eq_2 ..) ?_
    refine Ev_ite_neg (by simp) ?_
    rw [crcFrom_nil hs]; exact Ev.now _
  | cons c l ih =>
    intro pre s hb hl hs
    have hc := hb.head
    refine Ev.step (fun k => crc_Bits.l0.eq_2 ..) ?_
    have hlt : ((pre.length : Nat) : Int) < ((pre ++ c :: l).length : Int) := by simp; omega
    refine Ev_ite_pos hlt (Ev_ite_pos (by omega) (Ev_ite_pos hlt ?_))
    rw [rd_at]
    refine Ev.bind (step_ev hs hc.1 hc.2) ?_
    rw [crcFrom_cons s c hb.tail]
    have g := ih (pre ++ [c]) (stp s c.toNat) hb.tail (by simpa using hl) (pm_lt G1 G2 _)
    have e : wrap64 ((pre.length : Int) + 1) = ((pre ++ [c]).length : Int) := by
      rw [wrap64_id (by omega) (by simp at hl; omega)]; simp
    rw [e]
    simpa using g
theorem bits_ev {l : List Int} (hb : By l) (hl : l.length ≤ 140737488355328) : Ev (fun k => crc_Bits.f k l) ((crc l : Nat) : Int) := by
  have := bits_loop l [] 0 hb hl (by omega)
  rw [crcFrom_zero] at this
  exact this

/-- how many bits a number has -/
def len (a : Nat) : Nat := if a = 0 then 0 else a.log2 + 1
theorem len_iff {a n : Nat} : len a = n + 1 ↔ 2 ^ n ≤ a ∧ a < 2 ^ (n + 1) := by
  unfold len
  by_cases h : a = 0
  · subst h
    have := Nat.two_pow_pos n
    simp
  · rw [if_neg h]
    have h1 := Nat.log2_self_le h
    have h2 := @Nat.lt_log2_self a
    constructor
    · intro e
      have : a.log2 = n := by omega
      subst this; exact ⟨h1, h2⟩
    · intro ⟨u, v⟩
      have e1 : a.log2 < n + 1 := (Nat.log2_lt h).2 v
      have e2 : n ≤ a.log2 := (Nat.le_log2 h).2 u
      omega
/-- m's degree is d -/
def Deg (m d : Nat) : Prop := 2 ^ d ≤ m ∧ m < 2 ^ (d + 1)
theorem Deg.len {m d : Nat} (h : Deg m d) : len m = d + 1 := len_iff.2 h
theorem Deg.lt {m d : Nat} (h : Deg m d) (hm : m < 2 ^ 64) : d < 64 := by
  have h1 := h.1
  apply Nat.lt_of_not_le
  intro c
  have := Nat.pow_le_pow_right (n := 2) (by omega) c
  omega
theorem pow64 {n : Nat} (h : n ≤ 64) : 2 ^ n ≤ 2 ^ 64 := Nat.pow_le_pow_right (by omega) h
theorem halves (b i : Nat) : b / 2 ^ i % 2 = (b.testBit i).toNat ∧ b / 2 ^ i / 2 = b / 2 ^ (i + 1) := by
  constructor
  · rw [Nat.testBit_eq_decide_div_mod_eq]
    rcases Nat.mod_two_eq_zero_or_one (b / 2 ^ i) with h | h <;> simp [h]
  · rw [Nat.pow_succ, Nat.div_div_eq_div_mul]

theorem pm_bit (m d x b : Nat) (hb : b < 2) : pm m d (2 * x + b) = red m d (2 * pm m d x ^^^ b) := by
  rw [pm_eq, show (2 * x + b) / 2 = x from by omega, show (2 * x + b) % 2 = b from by omega]

theorem ref_degree_loop (p : Nat) (hp : p < 2 ^ 64) : ∀ (n i : Nat), i + n = 64 →
    Ev (fun k => parapetref01_Degree.l0 k (p : Int) (((len (p % 2 ^ i) : Nat) : Int) - 1) (i : Int)) (((len p : Nat) : Int) - 1) := by
  intro n
  induction n with
  | zero =>
    intro i hi
    obtain rfl : i = 64 := by omega
    refine Ev.step (fun k => parapetref01_Degree.l0.eq_2 ..) (Ev_ite_neg (by omega) ?_)
    rw [Nat.mod_eq_of_lt hp]; exact Ev.now _
  | succ n ih =>
    intro i hi
    refine Ev.step (fun k => parapetref01_Degree.l0.eq_2 ..) (Ev_ite_pos (by omega) (Ev_ite_pos (by omega) ?_))
    have e : wrap64 ((i : Int) + 1) = ((i + 1 : Nat) : Int) := by rw [wrap64_id (by omega) (by omega)]; omega
    rw [e]
    have g := ih (i + 1) (by omega)
    have hm : p % 2 ^ (i + 1) = (p.testBit i).toNat * 2 ^ i + p % 2 ^ i := by
      have hh := (halves p i).1
      rw [Nat.pow_succ, Nat.mod_mul, hh, Nat.mul_comm]; omega
    have hlt : p % 2 ^ i < 2 ^ i := Nat.mod_lt _ (Nat.two_pow_pos i)
    by_cases c : p.testBit i = true
    · refine Ev_ite_neg (by rw [bit64_zero hp (by omega), c]; simp) ?_
      rw [c] at hm
      simp only [Bool.toNat_true, Nat.one_mul] at hm
      have : len (p % 2 ^ (i + 1)) = i + 1 := len_iff.2 ⟨by omega, Nat.mod_lt _ (Nat.two_pow_pos _)⟩
      rw [this, show (((i + 1 : Nat) : Int) - 1) = (i : Int) from by omega] at g
      exact g
    · have c' : p.testBit i = false := by simpa using c
      refine Ev_ite_pos ((bit64_zero hp (by omega)).2 c') ?_
      rw [c'] at hm
      simp only [Bool.toNat_false, Nat.zero_mul, Nat.zero_add] at hm
      rw [hm] at g
      exact g
theorem ref_degree_ev {p : Nat} (hp : p < 2 ^ 64) : Ev (fun k => parapetref01_Degree.f k (p : Int)) (((len p : Nat) : Int) - 1) := by
  have := ref_degree_loop p hp 64 0 rfl
  rwa [Nat.pow_zero, Nat.mod_one] at this
theorem ref_deg_ev {m d : Nat} (hd : Deg m d) (hm : m < 2 ^ 64) : Ev (fun k => parapetref01_Degree.f k (m : Int)) (d : Int) := by
  have := ref_degree_ev hm
  rw [hd.len, show (((d + 1 : Nat) : Int) - 1) = (d : Int) from by omega] at this
  exact this

/-- the number of coefficients, the first one the highest -/
def bpol (l : List Bool) : Nat := l.foldl (fun a c => a * 2 + c.toNat) 0
theorem bpol_acc (l : List Bool) : ∀ a, l.foldl (fun a c => a * 2 + c.toNat) a = a * 2 ^ l.length + bpol l := by
  unfold bpol
  induction l with
  | nil => intro a; simp
  | cons c l ih =>
    intro a
    simp only [List.foldl_cons, List.length_cons]
    rw [ih, ih (0 * 2 + c.toNat), Nat.pow_succ, Nat.zero_mul, Nat.zero_add, Nat.add_mul, Nat.add_assoc, Nat.mul_assoc, Nat.mul_comm 2 (2 ^ l.length)]
theorem bpol_nil : bpol [] = 0 := rfl
theorem bpol_cons (c : Bool) (l : List Bool) : bpol (c :: l) = c.toNat * 2 ^ l.length + bpol l := by
  have := bpol_acc l (0 * 2 + c.toNat)
  unfold bpol at this ⊢
  rw [List.foldl_cons, this]; simp
theorem bpol_append (a b : List Bool) : bpol (a ++ b) = bpol a * 2 ^ b.length + bpol b := by
  induction a with
  | nil => simp [bpol_nil]
  | cons c a ih =>
    rw [List.cons_append, bpol_cons, ih, bpol_cons, List.length_append, Nat.pow_add, Nat.add_mul, Nat.mul_assoc, Nat.add_assoc]
theorem bpol_snoc (a : List Bool) (c : Bool) : bpol (a ++ [c]) = 2 * bpol a + c.toNat := by
  rw [bpol_append, bpol_cons, bpol_nil]; simp; omega
theorem rdOf_at (pre : List Bool) (c : Bool) (l : List Bool) : rdOf false (pre ++ c :: l) (pre.length : Int) = c := by
  unfold rdOf; simp
theorem rbits_loop {m d : Nat} (hd : Deg m d) (hm : m < 2 ^ 64) (hd1 : 1 ≤ d) : ∀ (l pre : List Bool), (pre ++ l).length ≤ 9223372036854775806 →
    Ev (fun k => parapetref01_Bits.l0 k (pre ++ l) (m : Int) (d : Int) ((pm m d (bpol pre) : Nat) : Int) (pre.length : Int)) ((pm m d (bpol (pre ++ l)) : Nat) : Int) := by
  have hd64 := hd.lt hm
  intro l
  induction l with
  | nil =>
    intro pre _
    refine Ev.step (fun k => parapetref01_Bits.l0.eq_2 ..) (Ev_ite_neg (by simp) ?_)
    rw [List.append_nil]; exact Ev.now _
  | cons c l ih =>
    intro pre hl
    have hlt : ((pre.length : Nat) : Int) < ((pre ++ c :: l).length : Int) := by simp; omega
    have hlt' := pm_lt hd.1 hd.2 (bpol pre)
    have hout2 : 2 * pm m d (bpol pre) < 2 ^ (d + 1) := by rw [Nat.pow_succ]; omega
    have h2 : 2 * pm m d (bpol pre) < 2 ^ 64 := Nat.lt_of_lt_of_le hout2 (pow64 (by omega))
    have h1 : pm m d (bpol pre) < 2 ^ 64 := by omega
    have g := ih (pre ++ [c]) (by simpa using hl)
    have e : wrap64 ((pre.length : Int) + 1) = ((pre ++ [c]).length : Int) := by
      simp only [List.length_append, List.length_cons] at hl
      rw [wrap64_id (by omega) (by omega)]; simp
    have e1 : wrap64 ((d : Int) - 1) = ((d - 1 : Nat) : Int) := by rw [wrap64_id (by omega) (by omega)]; omega
    have e2 : IntKind.u64.wrap (((pm m d (bpol pre) : Nat) : Int) * 2) = ((2 * pm m d (bpol pre) : Nat) : Int) := by rw [wrap_u64]; omega
    rw [bpol_snoc, pm_bit _ _ _ _ (by cases c <;> simp), List.append_assoc, List.singleton_append] at g
    have hbit : (2 * pm m d (bpol pre) ^^^ c.toNat).testBit d = (pm m d (bpol pre)).testBit (d - 1) := by
      obtain ⟨d', rfl⟩ : ∃ d', d = d' + 1 := ⟨d - 1, by omega⟩
      rw [Nat.testBit_xor, Nat.testBit_succ, Nat.mul_div_cancel_left _ (by omega), Nat.add_sub_cancel]
      have : c.toNat.testBit (d' + 1) = false := by
        apply Nat.testBit_lt_two_pow
        have := Nat.pow_le_pow_right (n := 2) (by omega) (show 1 ≤ d' + 1 from by omega)
        cases c <;> simp <;> omega
      rw [this, Bool.xor_false]
    unfold red at g
    rw [hbit] at g
    refine Ev.step (fun k => parapetref01_Bits.l0.eq_2 ..) (Ev_ite_pos hlt ?_)
    rw [e1]
    refine Ev_ite_pos (by omega) (Ev_ite_pos (by omega) ?_)
    rw [rdOf_at, e, e2, show (1 : Int) = ((1 : Nat) : Int) from rfl, xor64 h2 (by omega), xor64 (Nat.xor_lt_two_pow h2 (by omega)) hm, xor64 h2 hm]
    by_cases tb : (pm m d (bpol pre)).testBit (d - 1) = true
    · have tn : ¬ (Go.bits .and .u64 (shr .u64 ((pm m d (bpol pre) : Nat) : Int) ((d - 1 : Nat) : Int)) ((1 : Nat) : Int) = 0) := by
        rw [show ((1 : Nat) : Int) = 1 from rfl, bit64_zero h1 (by omega), tb]; simp
      rw [if_pos tb] at g
      cases c
      · refine Ev_ite_neg (by simp) (Ev_ite_neg tn ?_)
        simpa using g
      · refine Ev_ite_pos rfl (Ev_ite_neg tn ?_)
        simpa using g
    · have tb' : (pm m d (bpol pre)).testBit (d - 1) = false := by simpa using tb
      have tn : (Go.bits .and .u64 (shr .u64 ((pm m d (bpol pre) : Nat) : Int) ((d - 1 : Nat) : Int)) ((1 : Nat) : Int) = 0) := by
        rw [show ((1 : Nat) : Int) = 1 from rfl, bit64_zero h1 (by omega), tb']
      rw [if_neg tb] at g
      cases c
      · refine Ev_ite_neg (by simp) (Ev_ite_pos tn ?_)
        simpa using g
      · refine Ev_ite_pos rfl (Ev_ite_pos tn ?_)
        simpa using g
theorem rbits_ev {m d : Nat} (hd : Deg m d) (hm : m < 2 ^ 64) {l : List Bool} (hl : l.length ≤ 9223372036854775806) :
    Ev (fun k => parapetref01_Bits.f k l (m : Int)) ((pm m d (bpol l) : Nat) : Int) := by
  unfold parapetref01_Bits.f
  refine Ev.bind (ref_deg_ev hd hm) ?_
  by_cases h : d = 0
  · subst h
    refine Ev_ite_pos rfl ?_
    have := pm_lt hd.1 hd.2 (bpol l)
    rw [show pm m 0 (bpol l) = 0 from by omega]
    exact Ev.now _
  · refine Ev_ite_neg (by omega) ?_
    have := rbits_loop hd hm (by omega) l [] hl
    rw [bpol_nil, pm_zero] at this
    exact this

theorem rof_inner {m : Nat} (pre : List Int) (n : Nat) (l : List Int) (hn : n < 256) (hl : (pre ++ (n : Int) :: l).length ≤ 10000000) (r : Int × Int) (P : Nat)
    (h : ∀ bs : List Bool, bs.length = 8 * (pre.length + 1) → bpol bs = P * 256 + n → Ev (fun k => parapetref01_Of.l0 k (pre ++ (n : Int) :: l) (m : Int) bs ((pre.length + 1 : Nat) : Int)) r) :
    ∀ (j : Nat) (bs : List Bool), j ≤ 8 → bs.length + j = 8 * (pre.length + 1) → bpol bs = P * 2 ^ (8 - j) + n / 2 ^ j →
    Ev (fun k => parapetref01_Of.l1 k (pre ++ (n : Int) :: l) (m : Int) bs (pre.length : Int) ((j : Int) - 1)) r := by
  have hlen : (pre ++ (n : Int) :: l).length = pre.length + (l.length + 1) := by simp
  intro j
  induction j with
  | zero =>
    intro bs _ hb hp
    refine Ev.step (fun k => parapetref01_Of.l1.eq_2 ..) (Ev_ite_neg (by omega) ?_)
    rw [w_succ (by omega)]
    exact h bs (by omega) (by rw [hp, Nat.pow_zero, Nat.div_one])
  | succ j ih =>
    intro bs hj hb hp
    have e1 : ((j + 1 : Nat) : Int) - 1 = (j : Int) := by omega
    rw [e1]
    refine Ev.step (fun k => parapetref01_Of.l1.eq_2 ..) (Ev_ite_pos (by omega) (Ev_ite_pos (by omega) (Ev_ite_pos (by omega) (Ev_ite_pos (by omega) (Ev_ite_pos (by omega) ?_)))))
    rw [rd_at, bit8 hn (by omega), w_pred (by omega)]
    have eb : (((((n.testBit j).toNat : Nat) : Int)) != 0) = n.testBit j := by cases n.testBit j <;> rfl
    rw [eb]
    refine ih _ (by omega) (by rw [List.length_append, List.length_singleton]; omega) ?_
    rw [bpol_snoc, hp]
    have hh := halves n j
    have e5 : P * 2 ^ (8 - j) = 2 * (P * 2 ^ (8 - (j + 1))) := by
      rw [show 8 - j = (8 - (j + 1)) + 1 from by omega, Nat.pow_succ, ← Nat.mul_assoc, Nat.mul_comm 2]
    rw [e5, ← hh.2]
    clear h ih hp eb
    generalize P * 2 ^ (8 - (j + 1)) = u at *
    generalize n / 2 ^ j = v at *
    omega
theorem rof_loop {m d : Nat} (hd : Deg m d) (hm : m < 2 ^ 64) : ∀ (l pre : List Int) (bs : List Bool), By l → (pre ++ l).length ≤ 10000000 → bs.length = 8 * pre.length → bpol bs = pol pre →
    Ev (fun k => parapetref01_Of.l0 k (pre ++ l) (m : Int) bs (pre.length : Int)) (((pm m d (pol (pre ++ l)) : Nat) : Int), 0) := by
  intro l
  induction l with
  | nil =>
    intro pre bs _ hl hb hp
    rw [List.append_nil] at hl ⊢
    refine Ev.step (fun k => parapetref01_Of.l0.eq_2 ..) (Ev_ite_neg (by omega) (Ev.bind (rbits_ev hd hm (by omega)) ?_))
    rw [hp]; exact Ev.now _
  | cons c l ih =>
    intro pre bs hb hl hbs hp
    have hc := hb.head
    obtain ⟨n, rfl⟩ : ∃ n : Nat, c = (n : Int) := ⟨c.toNat, by omega⟩
    have hlen : (pre ++ (n : Int) :: l).length = pre.length + (l.length + 1) := by simp
    have e3 : (pre ++ [(n : Int)]).length = pre.length + 1 := by simp
    refine Ev.step (fun k => parapetref01_Of.l0.eq_2 ..) (Ev_ite_pos (by omega) ?_)
    refine rof_inner pre n l (by omega) hl _ (pol pre) (fun bs' h1 h2 => ?_) 8 bs (Nat.le_refl _) (by omega) (by rw [hp, Nat.div_eq_of_lt (by omega)]; simp)
    have g := ih (pre ++ [(n : Int)]) bs' hb.tail (by simpa using hl) (by rw [e3]; exact h1) (by rw [h2, pol_append, pol_cons]; simp [pol_nil])
    rw [List.append_assoc, List.singleton_append, e3] at g
    exact g
theorem rof_ev {m d : Nat} (hd : Deg m d) (hm : m < 2 ^ 64) {l : List Int} (hb : By l) (hl : l.length ≤ 10000000) :
    Ev (fun k => parapetref01_Of.f k l (m : Int)) (((pm m d (pol l) : Nat) : Int), 0) := by
  have hm0 : m ≠ 0 := by
    have h5 := hd.1
    have h6 := Nat.two_pow_pos d
    omega
  unfold parapetref01_Of.f
  have e : wrap64 (8 * (l.length : Int)) = ((8 * l.length : Nat) : Int) := by rw [wrap64_id (by omega) (by omega)]; omega
  rw [e]
  exact Ev_ite_neg (by omega) (Ev_ite_pos (by omega) (Ev_ite_pos (by omega) (rof_loop hd hm l [] [] hb hl rfl rfl)))

theorem G64 : G < 2 ^ 64 := by unfold G; omega
theorem GD : Deg G 32 := ⟨G1, G2⟩


/-- the four bytes of a word -/
def word4 (s : Int) : List Int := [(s / 16777216) % 256, (s / 65536) % 256, (s / 256) % 256, s % 256]
theorem word4_by (s : Int) : By (word4 s) := by
  intro x hx; simp [word4] at hx; omega
theorem word4_pol {s : Nat} (h : s < 2 ^ 32) : pol (word4 (s : Int)) = s := by
  simp [word4, pol]; omega
def sealed (l : List Int) : List Int := l ++ word4 (crc l : Int)
theorem sealed_by {l : List Int} (h : By l) : By (sealed l) := h.append (word4_by _)
theorem sealed_length (l : List Int) : (sealed l).length = l.length + 4 := by simp [sealed, word4]
theorem clone_f {l : List Int} (hl : l.length < 140737488355328) : slices_Clone_byte_byte.f l = some l := by
  unfold slices_Clone_byte_byte.f
  rw [Option.bind_some, if_pos (by simpa using hl), List.nil_append]
theorem valid_ev {l : List Int} (hb : By l) (hl : l.length ≤ 140737488355328) (h4 : 4 ≤ l.length) : Ev (fun k => crc_Valid.f k l) (decide (crc l = 0)) := by
  unfold crc_Valid.f
  refine Ev_ite_pos (by omega) (Ev.bind (bits_ev hb hl) ?_)
  have : (((crc l : Nat) : Int) == 0) = decide (crc l = 0) := by
    by_cases h : crc l = 0
    · rw [h]; rfl
    · rw [decide_eq_false h]; simpa using h
  rw [this]; exact Ev.now _

theorem or32 {a b : Nat} (ha : a < 2 ^ 32) (hb : b < 2 ^ 32) : bits .or .u32 (a : Int) (b : Int) = ((a ||| b : Nat) : Int) := u32_or_nat a b (by omega) (by omega)
theorem or_add {i a b : Nat} (h : b < 2 ^ i) : a * 2 ^ i ||| b = a * 2 ^ i + b := by rw [Nat.mul_comm a, Nat.two_pow_add_eq_or_of_lt h]
def num4 (a b c d : Nat) : Nat := a * 16777216 + b * 65536 + c * 256 + d
theorem num_or {a b c d : Nat} (ha : a < 256) (hb : b < 256) (hc : c < 256) (hd : d < 256) :
    Go.bits .or .u32 (Go.bits .or .u32 (Go.bits .or .u32 ((((a : Int) % 4294967296) * 16777216) % 4294967296) ((((b : Int) % 4294967296) * 65536) % 4294967296)) ((((c : Int) % 4294967296) * 256) % 4294967296)) ((d : Int) % 4294967296) = ((num4 a b c d : Nat) : Int) := by
  rw [show (((a : Int) % 4294967296) * 16777216) % 4294967296 = ((a * 2 ^ 24 : Nat) : Int) from by omega, show (((b : Int) % 4294967296) * 65536) % 4294967296 = ((b * 2 ^ 16 : Nat) : Int) from by omega,
    show (((c : Int) % 4294967296) * 256) % 4294967296 = ((c * 2 ^ 8 : Nat) : Int) from by omega, show ((d : Int) % 4294967296) = (d : Int) from by omega]
  rw [or32 (by omega) (by omega), or_add (by omega), or32 (by omega) (by omega), show a * 2 ^ 24 + b * 2 ^ 16 = (a * 2 ^ 8 + b) * 2 ^ 16 from by omega, or_add (by omega), or32 (by omega) (by omega),
    show (a * 2 ^ 8 + b) * 2 ^ 16 + c * 2 ^ 8 = ((a * 2 ^ 8 + b) * 2 ^ 8 + c) * 2 ^ 8 from by omega, or_add (by omega)]
  unfold num4; omega
def w4 (s : Int) : List Int := [(s / 16777216) % 256, (s / 65536) % 256, (s / 256) % 256, s % 256]
theorem w4_num {a b c d : Nat} (ha : a < 256) (hb : b < 256) (hc : c < 256) (hd : d < 256) : w4 ((num4 a b c d : Nat) : Int) = [(a : Int), (b : Int), (c : Int), (d : Int)] := by
  unfold w4 num4
  congr 1
  · omega
  congr 1
  · omega
  congr 1
  · omega
  congr 1
  omega
set_option linter.unusedVariables false
set_option linter.unusedSimpArgs false
theorem awake_ev : Ev (fun k => parapetlaw04_Awake.f k) true := Ev.of parapetlaw04_Awake.mono (k := 60) (by decide +kernel)
/-- what a kind's unit may be -/
def form (a : Int) : Int × Int × Int × Bool × Bool :=
  if a = 1 then (0, 0, 1, false, true) else if a = 2 then (1, 0, 1, false, true) else if a = 17 then (1, 0, 1, false, true)
  else if a = 3 then (1, 0, 0, false, true) else if a = 18 then (1, 0, 0, false, true) else if a = 19 then (1, 0, 0, false, true)
  else if a = 4 then (1, 1, 2, true, true) else if a = 20 then (1, 1, 2, true, true)
  else if a = 5 then (1, 1, 0, false, true) else if a = 21 then (1, 1, 0, false, true)
  else if a = 22 then (2, 0, 0, false, true) else (0, 0, 0, false, false)
theorem kinds (a : Int) : (a = 1 ∨ a = 2 ∨ a = 17 ∨ a = 3 ∨ a = 18 ∨ a = 19 ∨ a = 4 ∨ a = 20 ∨ a = 5 ∨ a = 21 ∨ a = 22) ∨ (a ≠ 1 ∧ a ≠ 2 ∧ a ≠ 17 ∧ a ≠ 3 ∧ a ≠ 18 ∧ a ≠ 19 ∧ a ≠ 4 ∧ a ≠ 20 ∧ a ≠ 5 ∧ a ≠ 21 ∧ a ≠ 22) := by omega
theorem form_ev (a : Int) : Ev (fun k => unit_formOf.f k a) (form a) := by
  refine Ev.of (unit_formOf.mono a) (k := 9) ?_
  rcases kinds a with (h | h | h | h | h | h | h | h | h | h | h) | ⟨h1, h2, h3, h4, h5, h6, h7, h8, h9, h10, h11⟩
  all_goals first
    | (subst h; rfl)
    | (simp [unit_formOf.f, unit_formOf.j0, unit_formOf.j1, unit_formOf.j2, unit_formOf.j3, form, *])
def lenOk (p n : Int) : Bool := if p = 1 then n == 4 else if p = 2 then (if n ≥ 1 then decide (n ≤ 8) else false) else n == 0
def fitOk (w x : Int) : Bool := if w = 2 then true else ((w == 1) == decide (x > 0))
theorem length_f (a b p : Int) (c : Bool) (n : Int) : unit_length.f a b p c n = some (lenOk p n) := by
  unfold unit_length.f lenOk
  split
  · rfl
  · split
    · split <;> rfl
    · rfl
theorem fits_f (w x : Int) : unit_fits.f w x = some (fitOk w x) := by
  unfold unit_fits.f fitOk
  split <;> rfl
/-- the first thing that is wrong with a unit -/
def lawF (f : Int × Int × Int × Bool × Bool) (b c d e n : Int) : Int :=
  if f.2.2.2.2 = true then (if b = 0 then 44 else (if lenOk f.2.2.1 n = true then (if fitOk f.1 c = true then (if fitOk f.2.1 d = true then (if e < 0 then 48 else (if e > 15 then 48 else (if f.2.2.2.1 = true then 0 else (if e = 0 then 0 else 48)))) else 47) else 46) else 45)) else 43
def law (a b c d e n : Int) : Int := lawF (form a) b c d e n
theorem some_ite (c : Prop) [Decidable c] (x y : Int) : (if c then some x else some y) = some (if c then x else y) := by split <;> rfl
theorem lawful_ev (a b c d e : Int) (l : List Int) : Ev (fun k => unit_Lawful.f k a b c d e l) (law a b c d e (l.length : Int)) := by
  unfold unit_Lawful.f law
  refine Ev.bind (form_ev a) ?_
  obtain ⟨s, m, p, fl, is⟩ := form a
  simp only [length_f, fits_f, Option.bind_some]
  refine ⟨0, fun k _ => ?_⟩
  show (if is = true then (if b = 0 then some 44 else (if lenOk p l.length = true then (if fitOk s c = true then (if fitOk m d = true then (if e < 0 then some 48 else (if e > 15 then some 48 else (if fl = true then some 0 else (if e = 0 then some 0 else some 48)))) else some 47) else some 46) else some 45)) else some 43) = _
  simp only [lawF, some_ite]
theorem get_f {a b c d : Nat} (l : List Int) (ha : a < 256) (hb : b < 256) (hc : c < 256) (hd : d < 256) : unit_get.f ((a : Int) :: (b : Int) :: (c : Int) :: (d : Int) :: l) = some ((num4 a b c d : Nat) : Int) := by
  unfold unit_get.f
  simp only [List.length_cons]
  rw [if_pos (by omega), if_pos (by omega), if_pos (by omega), if_pos (by omega)]
  have e0 : rd ((a : Int) :: (b : Int) :: (c : Int) :: (d : Int) :: l) 0 = (a : Int) := rfl
  have e1 : rd ((a : Int) :: (b : Int) :: (c : Int) :: (d : Int) :: l) 1 = (b : Int) := rfl
  have e2 : rd ((a : Int) :: (b : Int) :: (c : Int) :: (d : Int) :: l) 2 = (c : Int) := rfl
  have e3 : rd ((a : Int) :: (b : Int) :: (c : Int) :: (d : Int) :: l) 3 = (d : Int) := rfl
  rw [e0, e1, e2, e3, num_or ha hb hc hd]
abbrev Got := Int × Int × Int × Int × Int × List Int × Int
def dec (a b c d e n : Int) (data : List Int) : Got :=
  if n = (data.length : Int) then (if law a b c d e (data.length : Int) = 0 then (a, b, c, d, e, data, 0) else (0, 0, 0, 0, 0, [], law a b c d e (data.length : Int)))
  else (0, 0, 0, 0, 0, [], if law a b c d e 0 = 43 then 43 else if law a b c d e 0 = 44 then 44 else 45)
theorem decode_short {L : List Int} (h : L.length < 19) : Ev (fun k => unit_Decode.f k L) (0, 0, 0, 0, 0, [], 40) := by
  unfold unit_Decode.f
  exact Ev_ite_pos (by omega) (Ev.now _)
theorem decode_long {L : List Int} (h : 27 < L.length) : Ev (fun k => unit_Decode.f k L) (0, 0, 0, 0, 0, [], 41) := by
  unfold unit_Decode.f
  exact Ev_ite_neg (by omega) (Ev_ite_pos (by omega) (Ev.now _))
theorem decode_bad {L : List Int} (hb : By L) (h1 : 19 ≤ L.length) (h2 : L.length ≤ 27) (h : crc L ≠ 0) : Ev (fun k => unit_Decode.f k L) (0, 0, 0, 0, 0, [], 42) := by
  unfold unit_Decode.f
  refine Ev_ite_neg (by omega) (Ev_ite_neg (by omega) (Ev.bind (valid_ev hb (by omega) (by omega)) ?_))
  rw [decide_eq_false h]
  exact Ev_ite_neg (by simp) (Ev.now _)
theorem decode_ev {x0 x1 x2 x3 x4 x5 x6 x7 x8 x9 x10 x11 x12 x13 x14 : Nat} (g0 : x0 < 256) (g1 : x1 < 256) (g2 : x2 < 256) (g3 : x3 < 256) (g4 : x4 < 256) (g5 : x5 < 256) (g6 : x6 < 256) (g7 : x7 < 256) (g8 : x8 < 256) (g9 : x9 < 256) (g10 : x10 < 256) (g11 : x11 < 256) (g12 : x12 < 256) (g13 : x13 < 256) (g14 : x14 < 256)
    {data tl : List Int} (hd : data.length ≤ 8) (ht : tl.length = 4) {L : List Int} (hb : By L) (hL : L = (x0 : Int) :: (x1 : Int) :: (x2 : Int) :: (x3 : Int) :: (x4 : Int) :: (x5 : Int) :: (x6 : Int) :: (x7 : Int) :: (x8 : Int) :: (x9 : Int) :: (x10 : Int) :: (x11 : Int) :: (x12 : Int) :: (x13 : Int) :: (x14 : Int) :: (data ++ tl)) (hc : crc L = 0) :
    Ev (fun k => unit_Decode.f k L) (dec x0 (num4 x1 x2 x3 x4 : Nat) (num4 x5 x6 x7 x8 : Nat) (num4 x9 x10 x11 x12 : Nat) x13 x14 data) := by
  have hlen : L.length = 19 + data.length := by rw [hL]; simp [ht]; omega
  have n1 : unit_get.f (L.drop 1) = some ((num4 x1 x2 x3 x4 : Nat) : Int) := by rw [hL]; exact get_f _ g1 g2 g3 g4
  have n5 : unit_get.f (L.drop 5) = some ((num4 x5 x6 x7 x8 : Nat) : Int) := by rw [hL]; exact get_f _ g5 g6 g7 g8
  have n9 : unit_get.f (L.drop 9) = some ((num4 x9 x10 x11 x12 : Nat) : Int) := by rw [hL]; exact get_f _ g9 g10 g11 g12
  have r0 : rd L 0 = (x0 : Int) := by rw [hL]; rfl
  have r13 : rd L 13 = (x13 : Int) := by rw [hL]; rfl
  have r14 : rd L 14 = (x14 : Int) := by rw [hL]; rfl
  have ew : wrap64 ((L.length : Int) - 4) = ((15 + data.length : Nat) : Int) := by rw [wrap64_id (by omega) (by omega)]; omega
  have dd : (L.take (15 + data.length)).drop 15 = data := by
    rw [hL, show 15 + data.length = data.length + 15 from by omega]
    simp
  generalize num4 x1 x2 x3 x4 = B at *
  generalize num4 x5 x6 x7 x8 = C at *
  generalize num4 x9 x10 x11 x12 = D at *
  clear hL g1 g2 g3 g4 g5 g6 g7 g8 g9 g10 g11 g12
  unfold unit_Decode.f
  rw [ew, n1, n5, n9, r0, r13, r14, Int.toNat_natCast, dd, wrap64_id (n := (x0 : Int)) (by omega) (by omega), wrap64_id (n := (x13 : Int)) (by omega) (by omega), wrap64_id (n := (x14 : Int)) (by omega) (by omega), clone_f (by omega)]
  refine Ev_ite_neg (by omega) (Ev_ite_neg (by omega) (Ev.bind (valid_ev hb (by omega) (by omega)) ?_))
  rw [decide_eq_true hc]
  refine Ev_ite_pos rfl (Ev_ite_pos (by omega) (Ev_ite_pos (by omega) (Ev_ite_pos (by omega) (Ev_ite_pos (by omega) (Ev_some (Ev_ite_pos (by omega) (Ev_some (Ev_ite_pos (by omega) (Ev_some (Ev_ite_pos (by omega) (Ev_ite_pos (by omega) ?_)))))))))))
  have r14' : wrap64 (rd L 14) = (x14 : Int) := by rw [r14, wrap64_id (by omega) (by omega)]
  by_cases q : (x14 : Int) = (data.length : Int)
  · refine Ev_ite_pos q (Ev_some (Ev.step (fun _ => unit_Decode.j0.eq_2 ..) (Ev.bind (lawful_ev _ _ _ _ _ _) (Ev_ite_pos (by omega) ?_))))
    rw [r14']
    refine Ev_ite_pos q (Ev.step (fun _ => unit_Decode.j1.eq_2 ..) (Ev_ite_neg (by simp) ?_))
    by_cases z : law (x0 : Int) (B : Int) (C : Int) (D : Int) (x13 : Int) (data.length : Int) = 0
    · rw [show dec (x0 : Int) (B : Int) (C : Int) (D : Int) (x13 : Int) (x14 : Int) data = ((x0 : Int), (B : Int), (C : Int), (D : Int), (x13 : Int), data, 0) from by unfold dec; rw [if_pos q, if_pos z]]
      exact Ev_ite_pos z (Ev.now _)
    · rw [show dec (x0 : Int) (B : Int) (C : Int) (D : Int) (x13 : Int) (x14 : Int) data = (0, 0, 0, 0, 0, [], law (x0 : Int) (B : Int) (C : Int) (D : Int) (x13 : Int) (data.length : Int)) from by unfold dec; rw [if_pos q, if_neg z]]
      exact Ev_ite_neg z (Ev.now _)
  · unfold dec
    rw [if_neg q]
    refine Ev_ite_neg q (Ev.step (fun _ => unit_Decode.j0.eq_2 ..) (Ev.bind (lawful_ev _ _ _ _ _ _) (Ev_ite_pos (by omega) ?_)))
    rw [r14']
    refine Ev_ite_neg q ?_
    rw [List.length_nil, Int.natCast_zero]
    generalize law (x0 : Int) (B : Int) (C : Int) (D : Int) (x13 : Int) 0 = v
    by_cases z : v = 43
    · rw [if_pos z]
      refine Ev_ite_pos z (Ev.step (fun _ => unit_Decode.j1.eq_2 ..) (Ev_ite_neg (by simp) (Ev_ite_neg (by omega) ?_)))
      rw [z]; exact Ev.now _
    · rw [if_neg z]
      refine Ev_ite_neg z (Ev.step (fun _ => unit_Decode.j1.eq_2 ..) ?_)
      by_cases y : v = 44
      · rw [if_pos y, y]
        exact Ev_ite_neg (by simp) (Ev_ite_neg (by omega) (Ev.now _))
      · rw [if_neg y]
        exact Ev_ite_pos (by simpa using y) (Ev_ite_neg (by omega) (Ev.now _))

theorem rsum_ev {l : List Int} (hb : By l) (hl : l.length ≤ 9000000) : Ev (fun k => parapetref02_Sum.f k l) (crc l : Int) := by
  unfold parapetref02_Sum.f
  have e : wrap64 ((l.length : Int) + 4) = ((l.length + 4 : Nat) : Int) := by rw [wrap64_id (by omega) (by omega)]; omega
  rw [e]
  refine Ev_ite_pos (by omega) (Ev_ite_pos (by omega) (Ev_some (Ev_ite_pos (by simp; omega) (Ev_some (Ev_some (Ev_ite_pos (by simp; omega) ?_))))))
  have h0 : By [0, 0, 0, 0] := by intro x hx; simp at hx; omega
  have hz : By ([] ++ l ++ [0, 0, 0, 0]) := by rw [List.nil_append]; exact hb.append h0
  have g := rof_ev GD G64 hz (by simp; omega)
  refine Ev.bind g ?_
  have hp : pol ([] ++ l ++ [0, 0, 0, 0]) = pol l * 2 ^ 32 := by
    have h1 : pol [0, 0, 0, 0] = 0 := by simp [pol]
    rw [List.nil_append, pol_append, h1, Nat.add_zero]
    simp only [List.length_cons, List.length_nil]
  have e2 : ((pm G 32 (pol ([] ++ l ++ [0, 0, 0, 0])) : Nat) : Int) % 4294967296 = (crc l : Int) := by
    rw [hp]
    have := crc_lt l
    unfold crc at *
    omega
  show Ev _ _
  dsimp only
  rw [e2]
  exact Ev.now _
theorem rword_f (s : Int) : parapetref02_Word.f s = some (word4 s) := rfl
theorem rseal_ev {l : List Int} (hb : By l) (hl : l.length ≤ 9000000) : Ev (fun k => parapetref02_Seal.f k l) (sealed l) := by
  unfold parapetref02_Seal.f
  refine Ev_some (Ev_ite_pos (by simp; omega) (Ev_some (Ev.bind (rsum_ev hb hl) ?_)))
  rw [rword_f]
  exact Ev_some (Ev_ite_pos (by simp [word4]; omega) (Ev.now _))

theorem byte_inj {x y : Int} (hx : 0 ≤ x ∧ x < 256) (hy : 0 ≤ y ∧ y < 256) (h : UInt8.ofNat x.toNat = UInt8.ofNat y.toNat) : x = y := by
  have g := congrArg UInt8.toNat h
  rw [UInt8.toNat_ofNat', UInt8.toNat_ofNat'] at g
  omega
theorem bytes_inj : ∀ {a b : List Int}, By a → By b → (a.map fun n => UInt8.ofNat n.toNat) = (b.map fun n => UInt8.ofNat n.toNat) → a = b
  | [], [], _, _, _ => rfl
  | [], _ :: _, _, _, h => by cases h
  | _ :: _, [], _, _, h => by cases h
  | x :: a, y :: b, ha, hb, h => by
    rw [List.map_cons, List.map_cons] at h
    injection h with h1 h2
    rw [byte_inj ha.head hb.head h1, bytes_inj ha.tail hb.tail h2]
theorem str_eq {a b : List Int} (ha : By a) (hb : By b) : ((strOfNums a).toList == (strOfNums b).toList) = decide (a = b) := by
  by_cases h : a = b
  · rw [decide_eq_true h, h]; exact beq_iff_eq.2 rfl
  · rw [decide_eq_false h]
    refine beq_eq_false_iff_ne.2 (fun e => h (bytes_inj ha hb ?_))
    rw [ByteArray.toList_eq, ByteArray.toList_eq] at e
    exact e

/-- 'x' goes out of what an odd polynomial divides -/
theorem odd_cancel {m : Nat} (hm : m % 2 = 1) : ∀ (e x : Nat), Cong m (x * 2 ^ e) 0 → Cong m x 0 := by
  intro e
  induction e with
  | zero => intro x h; simpa using h
  | succ e ih =>
    intro x h
    apply ih
    rw [Nat.pow_succ, ← Nat.mul_assoc] at h
    generalize x * 2 ^ e = y at h ⊢
    obtain ⟨a, ha⟩ := h
    rw [Nat.xor_zero] at ha
    have h2 : (cm m a) % 2 = a % 2 := by
      rw [cm_comm, cm_eq, if_pos hm, xor_mod2]; omega
    have ha2 : a = 2 * (a / 2) := by omega
    rw [ha2, cm_dbl] at ha
    exact ⟨a / 2, by rw [Nat.xor_zero]; omega⟩
theorem pow32_cancel {x : Nat} : pm G 32 (x * 2 ^ 32) = 0 ↔ pm G 32 x = 0 := by
  constructor
  · intro h
    have h1 := pm_cong G 32 (x * 2 ^ 32)
    rw [h] at h1
    have h2 := odd_cancel (m := G) (by unfold G; omega) 32 x h1
    have h3 := pm_eq_of_cong G1 G2 h2
    rw [h3, pm_zero]
  · intro h
    rw [← pm_shift G1 G2, h, Nat.zero_mul, pm_zero]
theorem xor_eq_zero' {a b : Nat} : a ^^^ b = 0 ↔ b = a := by
  constructor
  · intro h; exact (xor_zero h).symm
  · intro h; rw [h]; exact Nat.xor_self a
theorem four_eq {b : List Int} (hb : By b) (hl : b.length = 4) {s : Nat} (hs : s < 2 ^ 32) : pol b = s ↔ b = word4 (s : Int) := by
  constructor
  · intro h
    match b, hl, hb with
    | [x, y, z, v], _, hb =>
      have h0 := hb x (by simp)
      have h1 := hb y (by simp)
      have h2 := hb z (by simp)
      have h3 := hb v (by simp)
      obtain ⟨x, rfl⟩ := Int.eq_ofNat_of_zero_le h0.1
      obtain ⟨y, rfl⟩ := Int.eq_ofNat_of_zero_le h1.1
      obtain ⟨z, rfl⟩ := Int.eq_ofNat_of_zero_le h2.1
      obtain ⟨v, rfl⟩ := Int.eq_ofNat_of_zero_le h3.1
      have hp : s = num4 x y z v := by
        rw [← h]
        simp [pol, num4]
        omega
      rw [hp]
      exact (w4_num (by omega) (by omega) (by omega) (by omega)).symm
  · intro h
    rw [h, word4_pol hs]
theorem valid_split {a b : List Int} (hb : By b) (hl : b.length = 4) : crc (a ++ b) = 0 ↔ b = word4 (crc a : Int) := by
  rw [← four_eq hb hl (crc_lt a)]
  have h4 : pol b < 2 ^ 32 := by have := pol_lt hb; rw [hl] at this; exact this
  unfold crc
  rw [pow32_cancel, pol_append_xor hb, hl, show 8 * 4 = 32 from rfl, pm_xor G1 G2, pm_small G1 G2 h4, xor_eq_zero']
theorem rvalid_ev {l : List Int} (hb : By l) (hl : l.length ≤ 9000000) (h4 : 4 ≤ l.length) : Ev (fun k => parapetref02_Valid.f k l) (decide (crc l = 0)) := by
  unfold parapetref02_Valid.f
  have e : wrap64 ((l.length : Int) - 4) = ((l.length - 4 : Nat) : Int) := by rw [wrap64_id (by omega) (by omega)]; omega
  rw [e, Int.toNat_natCast]
  have ha : By (l.take (l.length - 4)) := fun x hx => hb x (List.mem_of_mem_take hx)
  have hd : By (l.drop (l.length - 4)) := fun x hx => hb x (List.mem_of_mem_drop hx)
  refine Ev_ite_pos (by omega) (Ev_ite_pos (by omega) (Ev_ite_pos (by omega) (Ev.bind (rsum_ev ha (by rw [List.length_take]; omega)) ?_)))
  rw [rword_f]
  refine Ev_some ?_
  have e2 : ((strOfNums (l.drop (l.length - 4))).toList == (strOfNums (word4 (crc (l.take (l.length - 4)) : Int))).toList) = decide (crc l = 0) := by
    rw [str_eq hd (word4_by _)]
    have := valid_split (a := l.take (l.length - 4)) hd (by rw [List.length_drop]; omega)
    rw [List.take_append_drop] at this
    exact decide_eq_decide.2 this.symm
  rw [e2]
  exact Ev.now _


theorem pos_ne {c : Int} (h : 0 ≤ c) : (0 < c) = (¬ c = 0) := by simp only [eq_iff_iff]; omega
theorem nonpos_eq {c : Int} (h : 0 ≤ c) : (c ≤ 0) = (c = 0) := by simp only [eq_iff_iff]; omega
set_option maxHeartbeats 1000000 in
theorem rl1 (b c d e : Int) (l : List Int) (hc : 0 ≤ c) (hd : 0 ≤ d) : parapetref04_Lawful.f 9 1 b c d e l = some (law 1 b c d e (l.length : Int)) := by
  obtain ⟨n, hn⟩ : ∃ n, (l.length : Int) = n := ⟨_, rfl⟩
  simp [parapetref04_Lawful.f, parapetref04_Lawful.j0, parapetref04_Lawful.j1, parapetref04_Lawful.j2, parapetref04_Lawful.j3, parapetref04_Lawful.j4, parapetref04_Host.f, parapetref04_Device.f, parapetref04_data.f, parapetref04_data.j0, law, lawF, form, lenOk, fitOk, hn, pos_ne hc, pos_ne hd, nonpos_eq hc, nonpos_eq hd]
  (repeat' (first | rfl | split)) <;> first | rfl | (exfalso; omega) | (simp_all; done)
set_option maxHeartbeats 1000000 in
theorem rl2 (b c d e : Int) (l : List Int) (hc : 0 ≤ c) (hd : 0 ≤ d) : parapetref04_Lawful.f 9 2 b c d e l = some (law 2 b c d e (l.length : Int)) := by
  obtain ⟨n, hn⟩ : ∃ n, (l.length : Int) = n := ⟨_, rfl⟩
  simp [parapetref04_Lawful.f, parapetref04_Lawful.j0, parapetref04_Lawful.j1, parapetref04_Lawful.j2, parapetref04_Lawful.j3, parapetref04_Lawful.j4, parapetref04_Host.f, parapetref04_Device.f, parapetref04_data.f, parapetref04_data.j0, law, lawF, form, lenOk, fitOk, hn, pos_ne hc, pos_ne hd, nonpos_eq hc, nonpos_eq hd]
  (repeat' (first | rfl | split)) <;> first | rfl | (exfalso; omega) | (simp_all; done)
set_option maxHeartbeats 1000000 in
theorem rl17 (b c d e : Int) (l : List Int) (hc : 0 ≤ c) (hd : 0 ≤ d) : parapetref04_Lawful.f 9 17 b c d e l = some (law 17 b c d e (l.length : Int)) := by
  obtain ⟨n, hn⟩ : ∃ n, (l.length : Int) = n := ⟨_, rfl⟩
  simp [parapetref04_Lawful.f, parapetref04_Lawful.j0, parapetref04_Lawful.j1, parapetref04_Lawful.j2, parapetref04_Lawful.j3, parapetref04_Lawful.j4, parapetref04_Host.f, parapetref04_Device.f, parapetref04_data.f, parapetref04_data.j0, law, lawF, form, lenOk, fitOk, hn, pos_ne hc, pos_ne hd, nonpos_eq hc, nonpos_eq hd]
  (repeat' (first | rfl | split)) <;> first | rfl | (exfalso; omega) | (simp_all; done)
set_option maxHeartbeats 1000000 in
theorem rl3 (b c d e : Int) (l : List Int) (hc : 0 ≤ c) (hd : 0 ≤ d) : parapetref04_Lawful.f 9 3 b c d e l = some (law 3 b c d e (l.length : Int)) := by
  obtain ⟨n, hn⟩ : ∃ n, (l.length : Int) = n := ⟨_, rfl⟩
  simp [parapetref04_Lawful.f, parapetref04_Lawful.j0, parapetref04_Lawful.j1, parapetref04_Lawful.j2, parapetref04_Lawful.j3, parapetref04_Lawful.j4, parapetref04_Host.f, parapetref04_Device.f, parapetref04_data.f, parapetref04_data.j0, law, lawF, form, lenOk, fitOk, hn, pos_ne hc, pos_ne hd, nonpos_eq hc, nonpos_eq hd]
  (repeat' (first | rfl | split)) <;> first | rfl | (exfalso; omega) | (simp_all; done)
set_option maxHeartbeats 1000000 in
theorem rl18 (b c d e : Int) (l : List Int) (hc : 0 ≤ c) (hd : 0 ≤ d) : parapetref04_Lawful.f 9 18 b c d e l = some (law 18 b c d e (l.length : Int)) := by
  obtain ⟨n, hn⟩ : ∃ n, (l.length : Int) = n := ⟨_, rfl⟩
  simp [parapetref04_Lawful.f, parapetref04_Lawful.j0, parapetref04_Lawful.j1, parapetref04_Lawful.j2, parapetref04_Lawful.j3, parapetref04_Lawful.j4, parapetref04_Host.f, parapetref04_Device.f, parapetref04_data.f, parapetref04_data.j0, law, lawF, form, lenOk, fitOk, hn, pos_ne hc, pos_ne hd, nonpos_eq hc, nonpos_eq hd]
  (repeat' (first | rfl | split)) <;> first | rfl | (exfalso; omega) | (simp_all; done)
set_option maxHeartbeats 1000000 in
theorem rl19 (b c d e : Int) (l : List Int) (hc : 0 ≤ c) (hd : 0 ≤ d) : parapetref04_Lawful.f 9 19 b c d e l = some (law 19 b c d e (l.length : Int)) := by
  obtain ⟨n, hn⟩ : ∃ n, (l.length : Int) = n := ⟨_, rfl⟩
  simp [parapetref04_Lawful.f, parapetref04_Lawful.j0, parapetref04_Lawful.j1, parapetref04_Lawful.j2, parapetref04_Lawful.j3, parapetref04_Lawful.j4, parapetref04_Host.f, parapetref04_Device.f, parapetref04_data.f, parapetref04_data.j0, law, lawF, form, lenOk, fitOk, hn, pos_ne hc, pos_ne hd, nonpos_eq hc, nonpos_eq hd]
  (repeat' (first | rfl | split)) <;> first | rfl | (exfalso; omega) | (simp_all; done)
set_option maxHeartbeats 1000000 in
theorem rl4 (b c d e : Int) (l : List Int) (hc : 0 ≤ c) (hd : 0 ≤ d) : parapetref04_Lawful.f 9 4 b c d e l = some (law 4 b c d e (l.length : Int)) := by
  obtain ⟨n, hn⟩ : ∃ n, (l.length : Int) = n := ⟨_, rfl⟩
  simp [parapetref04_Lawful.f, parapetref04_Lawful.j0, parapetref04_Lawful.j1, parapetref04_Lawful.j2, parapetref04_Lawful.j3, parapetref04_Lawful.j4, parapetref04_Host.f, parapetref04_Device.f, parapetref04_data.f, parapetref04_data.j0, law, lawF, form, lenOk, fitOk, hn, pos_ne hc, pos_ne hd, nonpos_eq hc, nonpos_eq hd]
  (repeat' (first | rfl | split)) <;> first | rfl | (exfalso; omega) | (simp_all; done)
set_option maxHeartbeats 1000000 in
theorem rl20 (b c d e : Int) (l : List Int) (hc : 0 ≤ c) (hd : 0 ≤ d) : parapetref04_Lawful.f 9 20 b c d e l = some (law 20 b c d e (l.length : Int)) := by
  obtain ⟨n, hn⟩ : ∃ n, (l.length : Int) = n := ⟨_, rfl⟩
  simp [parapetref04_Lawful.f, parapetref04_Lawful.j0, parapetref04_Lawful.j1, parapetref04_Lawful.j2, parapetref04_Lawful.j3, parapetref04_Lawful.j4, parapetref04_Host.f, parapetref04_Device.f, parapetref04_data.f, parapetref04_data.j0, law, lawF, form, lenOk, fitOk, hn, pos_ne hc, pos_ne hd, nonpos_eq hc, nonpos_eq hd]
  (repeat' (first | rfl | split)) <;> first | rfl | (exfalso; omega) | (simp_all; done)
set_option maxHeartbeats 1000000 in
theorem rl5 (b c d e : Int) (l : List Int) (hc : 0 ≤ c) (hd : 0 ≤ d) : parapetref04_Lawful.f 9 5 b c d e l = some (law 5 b c d e (l.length : Int)) := by
  obtain ⟨n, hn⟩ : ∃ n, (l.length : Int) = n := ⟨_, rfl⟩
  simp [parapetref04_Lawful.f, parapetref04_Lawful.j0, parapetref04_Lawful.j1, parapetref04_Lawful.j2, parapetref04_Lawful.j3, parapetref04_Lawful.j4, parapetref04_Host.f, parapetref04_Device.f, parapetref04_data.f, parapetref04_data.j0, law, lawF, form, lenOk, fitOk, hn, pos_ne hc, pos_ne hd, nonpos_eq hc, nonpos_eq hd]
  (repeat' (first | rfl | split)) <;> first | rfl | (exfalso; omega) | (simp_all; done)
set_option maxHeartbeats 1000000 in
theorem rl21 (b c d e : Int) (l : List Int) (hc : 0 ≤ c) (hd : 0 ≤ d) : parapetref04_Lawful.f 9 21 b c d e l = some (law 21 b c d e (l.length : Int)) := by
  obtain ⟨n, hn⟩ : ∃ n, (l.length : Int) = n := ⟨_, rfl⟩
  simp [parapetref04_Lawful.f, parapetref04_Lawful.j0, parapetref04_Lawful.j1, parapetref04_Lawful.j2, parapetref04_Lawful.j3, parapetref04_Lawful.j4, parapetref04_Host.f, parapetref04_Device.f, parapetref04_data.f, parapetref04_data.j0, law, lawF, form, lenOk, fitOk, hn, pos_ne hc, pos_ne hd, nonpos_eq hc, nonpos_eq hd]
  (repeat' (first | rfl | split)) <;> first | rfl | (exfalso; omega) | (simp_all; done)
set_option maxHeartbeats 1000000 in
theorem rl22 (b c d e : Int) (l : List Int) (hc : 0 ≤ c) (hd : 0 ≤ d) : parapetref04_Lawful.f 9 22 b c d e l = some (law 22 b c d e (l.length : Int)) := by
  obtain ⟨n, hn⟩ : ∃ n, (l.length : Int) = n := ⟨_, rfl⟩
  simp [parapetref04_Lawful.f, parapetref04_Lawful.j0, parapetref04_Lawful.j1, parapetref04_Lawful.j2, parapetref04_Lawful.j3, parapetref04_Lawful.j4, parapetref04_Host.f, parapetref04_Device.f, parapetref04_data.f, parapetref04_data.j0, law, lawF, form, lenOk, fitOk, hn, pos_ne hc, pos_ne hd, nonpos_eq hc, nonpos_eq hd]
  (repeat' (first | rfl | split)) <;> first | rfl | (exfalso; omega) | (simp_all; done)
theorem rl0 {a : Int} (b c d e : Int) (l : List Int) (h : a ≠ 1 ∧ a ≠ 2 ∧ a ≠ 17 ∧ a ≠ 3 ∧ a ≠ 18 ∧ a ≠ 19 ∧ a ≠ 4 ∧ a ≠ 20 ∧ a ≠ 5 ∧ a ≠ 21 ∧ a ≠ 22) : parapetref04_Lawful.f 9 a b c d e l = some (law a b c d e (l.length : Int)) := by
  have f0 : law a b c d e (l.length : Int) = 43 := by
    obtain ⟨h1, h2, h3, h4, h5, h6, h7, h8, h9, h10, h11⟩ := h
    simp [law, lawF, form, *]
  have q1 : parapetref04_Host.f a = some false := by
    unfold parapetref04_Host.f
    split
    · rw [decide_eq_false (by omega)]
    · rfl
  have q2 : parapetref04_Device.f a = some false := by
    unfold parapetref04_Device.f
    split
    · rw [decide_eq_false (by omega)]
    · rfl
  rw [f0]
  obtain ⟨h1, h2, h3, h4, h5, h6, h7, h8, h9, h10, h11⟩ := h
  simp [parapetref04_Lawful.f, parapetref04_Lawful.j0, parapetref04_Lawful.j1, parapetref04_Lawful.j2, *]
theorem rlawful_ev (a b c d e : Int) (l : List Int) (hc : 0 ≤ c) (hd : 0 ≤ d) : Ev (fun k => parapetref04_Lawful.f k a b c d e l) (law a b c d e (l.length : Int)) := by
  refine Ev.of (parapetref04_Lawful.mono a b c d e l) (k := 9) ?_
  rcases kinds a with (h | h | h | h | h | h | h | h | h | h | h) | h
  · subst h; exact rl1 b c d e l hc hd
  · subst h; exact rl2 b c d e l hc hd
  · subst h; exact rl17 b c d e l hc hd
  · subst h; exact rl3 b c d e l hc hd
  · subst h; exact rl18 b c d e l hc hd
  · subst h; exact rl19 b c d e l hc hd
  · subst h; exact rl4 b c d e l hc hd
  · subst h; exact rl20 b c d e l hc hd
  · subst h; exact rl5 b c d e l hc hd
  · subst h; exact rl21 b c d e l hc hd
  · subst h; exact rl22 b c d e l hc hd
  · exact rl0 b c d e l h

theorem ucb {L : List Int} {k : Nat} (hb : By L) (h : L.length = k + 1) : ∃ (x : Nat) (t : List Int), L = (x : Int) :: t ∧ x < 256 ∧ By t ∧ t.length = k := by
  cases L with
  | nil => simp at h
  | cons a t =>
    have ha := hb.head
    exact ⟨a.toNat, t, by rw [Int.toNat_of_nonneg ha.1], by omega, hb.tail, by simpa using h⟩
theorem split15 {l : List Int} (hb : By l) (h : 15 ≤ l.length) : ∃ (x0 x1 x2 x3 x4 x5 x6 x7 x8 x9 x10 x11 x12 x13 x14 : Nat) (data : List Int),
    (x0 < 256 ∧ x1 < 256 ∧ x2 < 256 ∧ x3 < 256 ∧ x4 < 256 ∧ x5 < 256 ∧ x6 < 256 ∧ x7 < 256 ∧ x8 < 256 ∧ x9 < 256 ∧ x10 < 256 ∧ x11 < 256 ∧ x12 < 256 ∧ x13 < 256 ∧ x14 < 256) ∧ By data ∧ l.length = 15 + data.length ∧
    l = (x0 : Int) :: (x1 : Int) :: (x2 : Int) :: (x3 : Int) :: (x4 : Int) :: (x5 : Int) :: (x6 : Int) :: (x7 : Int) :: (x8 : Int) :: (x9 : Int) :: (x10 : Int) :: (x11 : Int) :: (x12 : Int) :: (x13 : Int) :: (x14 : Int) :: data := by
  obtain ⟨n, hn⟩ : ∃ n, l.length = n + 15 := ⟨l.length - 15, by omega⟩
  obtain ⟨x0, t0, rfl, g0, b0, l0⟩ := ucb hb hn
  obtain ⟨x1, t1, rfl, g1, b1, l1⟩ := ucb b0 l0
  obtain ⟨x2, t2, rfl, g2, b2, l2⟩ := ucb b1 l1
  obtain ⟨x3, t3, rfl, g3, b3, l3⟩ := ucb b2 l2
  obtain ⟨x4, t4, rfl, g4, b4, l4⟩ := ucb b3 l3
  obtain ⟨x5, t5, rfl, g5, b5, l5⟩ := ucb b4 l4
  obtain ⟨x6, t6, rfl, g6, b6, l6⟩ := ucb b5 l5
  obtain ⟨x7, t7, rfl, g7, b7, l7⟩ := ucb b6 l6
  obtain ⟨x8, t8, rfl, g8, b8, l8⟩ := ucb b7 l7
  obtain ⟨x9, t9, rfl, g9, b9, l9⟩ := ucb b8 l8
  obtain ⟨x10, t10, rfl, g10, b10, l10⟩ := ucb b9 l9
  obtain ⟨x11, t11, rfl, g11, b11, l11⟩ := ucb b10 l10
  obtain ⟨x12, t12, rfl, g12, b12, l12⟩ := ucb b11 l11
  obtain ⟨x13, t13, rfl, g13, b13, l13⟩ := ucb b12 l12
  obtain ⟨x14, t14, rfl, g14, b14, l14⟩ := ucb b13 l13
  refine ⟨x0, x1, x2, x3, x4, x5, x6, x7, x8, x9, x10, x11, x12, x13, x14, t14, ⟨g0, g1, g2, g3, g4, g5, g6, g7, g8, g9, g10, g11, g12, g13, g14⟩, b14, ?_, rfl⟩
  simp; omega

theorem lawF_43 (f : Int × Int × Int × Bool × Bool) (b c d e n : Int) : (lawF f b c d e n = 43 ↔ f.2.2.2.2 = false) ∧ (lawF f b c d e n = 44 ↔ f.2.2.2.2 = true ∧ b = 0) := by
  unfold lawF
  by_cases h1 : f.2.2.2.2 = true
  · rw [if_pos h1]
    by_cases h2 : b = 0
    · rw [if_pos h2]; simp [h1, h2]
    · rw [if_neg h2]
      constructor
      · constructor
        · intro h; exfalso; revert h; repeat' split
          all_goals decide
        · intro h; rw [h1] at h; cases h
      · constructor
        · intro h; exfalso; revert h; repeat' split
          all_goals decide
        · intro h; exact absurd h.2 h2
  · rw [if_neg h1]
    simp at h1
    simp [h1]
theorem law_43 (a b c d e n m : Int) : (law a b c d e n = 43 ↔ law a b c d e m = 43) ∧ (law a b c d e n = 44 ↔ law a b c d e m = 44) := by
  unfold law
  have h1 := lawF_43 (form a) b c d e n
  have h2 := lawF_43 (form a) b c d e m
  exact ⟨h1.1.trans h2.1.symm, h1.2.trans h2.2.symm⟩
theorem rget_f {a b c d : Nat} (l : List Int) (ha : a < 256) (hb : b < 256) (hc : c < 256) (hd : d < 256) : parapetref04_Word.f ((a : Int) :: (b : Int) :: (c : Int) :: (d : Int) :: l) = some ((num4 a b c d : Nat) : Int) := get_f l ha hb hc hd
theorem rdecode_short {L : List Int} (h : L.length < 19) : Ev (fun k => parapetref04_Decode.f k L) (0, 0, 0, 0, 0, [], 40) := by
  unfold parapetref04_Decode.f
  exact Ev_ite_pos (by omega) (Ev.now _)
theorem rdecode_long {L : List Int} (h : 27 < L.length) : Ev (fun k => parapetref04_Decode.f k L) (0, 0, 0, 0, 0, [], 41) := by
  unfold parapetref04_Decode.f
  exact Ev_ite_neg (by omega) (Ev_ite_pos (by omega) (Ev.now _))
theorem rdecode_bad {L : List Int} (hb : By L) (h1 : 19 ≤ L.length) (h2 : L.length ≤ 27) (h : crc L ≠ 0) : Ev (fun k => parapetref04_Decode.f k L) (0, 0, 0, 0, 0, [], 42) := by
  unfold parapetref04_Decode.f
  refine Ev_ite_neg (by omega) (Ev_ite_neg (by omega) (Ev.bind (rvalid_ev hb (by omega) (by omega)) ?_))
  rw [decide_eq_false h]
  exact Ev_ite_neg (by simp) (Ev.now _)
theorem rdec_end {t : Int} (x : Bool) (a b c d e : Int) (l : List Int) : Ev (fun k => parapetref04_Decode.j0 k t x a b c d e l) (if x = true then (0, 0, 0, 0, 0, [], 45) else if t = 0 then (a, b, c, d, e, l, 0) else (0, 0, 0, 0, 0, [], t)) := by
  refine Ev.step (fun _ => parapetref04_Decode.j0.eq_2 ..) ?_
  cases x with
  | true => exact Ev_ite_pos rfl (Ev_ite_neg (by decide) (Ev.now _))
  | false =>
    refine Ev_ite_neg (by simp) ?_
    simp only [Bool.false_eq_true, if_false]
    by_cases z : t = 0
    · have e : (if t = 0 then (a, b, c, d, e, l, (0 : Int)) else (0, 0, 0, 0, 0, [], t)) = (a, b, c, d, e, l, 0) := if_pos z
      rw [e]; exact Ev_ite_pos z (Ev.now _)
    · have e : (if t = 0 then (a, b, c, d, e, l, (0 : Int)) else (0, 0, 0, 0, 0, [], t)) = (0, 0, 0, 0, 0, [], t) := if_neg z
      rw [e]; exact Ev_ite_neg z (Ev.now _)
theorem num4_lt {a b c d : Nat} (ha : a < 256) (hb : b < 256) (hc : c < 256) (hd : d < 256) : num4 a b c d < 4294967296 := by unfold num4; omega
theorem rdecode_ev {x0 x1 x2 x3 x4 x5 x6 x7 x8 x9 x10 x11 x12 x13 x14 : Nat} (g0 : x0 < 256) (g1 : x1 < 256) (g2 : x2 < 256) (g3 : x3 < 256) (g4 : x4 < 256) (g5 : x5 < 256) (g6 : x6 < 256) (g7 : x7 < 256) (g8 : x8 < 256) (g9 : x9 < 256) (g10 : x10 < 256) (g11 : x11 < 256) (g12 : x12 < 256) (g13 : x13 < 256) (g14 : x14 < 256)
    {data tl : List Int} (hd : data.length ≤ 8) (ht : tl.length = 4) {L : List Int} (hb : By L) (hL : L = (x0 : Int) :: (x1 : Int) :: (x2 : Int) :: (x3 : Int) :: (x4 : Int) :: (x5 : Int) :: (x6 : Int) :: (x7 : Int) :: (x8 : Int) :: (x9 : Int) :: (x10 : Int) :: (x11 : Int) :: (x12 : Int) :: (x13 : Int) :: (x14 : Int) :: (data ++ tl)) (hc : crc L = 0) :
    Ev (fun k => parapetref04_Decode.f k L) (dec x0 (num4 x1 x2 x3 x4 : Nat) (num4 x5 x6 x7 x8 : Nat) (num4 x9 x10 x11 x12 : Nat) x13 x14 data) := by
  have hlen : L.length = 19 + data.length := by rw [hL]; simp [ht]; omega
  have n1 : parapetref04_Word.f ((L.take 5).drop 1) = some ((num4 x1 x2 x3 x4 : Nat) : Int) := by rw [hL]; exact rget_f _ g1 g2 g3 g4
  have n5 : parapetref04_Word.f ((L.take 9).drop 5) = some ((num4 x5 x6 x7 x8 : Nat) : Int) := by rw [hL]; exact rget_f _ g5 g6 g7 g8
  have n9 : parapetref04_Word.f ((L.take 13).drop 9) = some ((num4 x9 x10 x11 x12 : Nat) : Int) := by rw [hL]; exact rget_f _ g9 g10 g11 g12
  have r0 : rd L 0 = (x0 : Int) := by rw [hL]; rfl
  have r13 : rd L 13 = (x13 : Int) := by rw [hL]; rfl
  have r14 : rd L 14 = (x14 : Int) := by rw [hL]; rfl
  have ew : wrap64 ((L.length : Int) - 4) = ((15 + data.length : Nat) : Int) := by rw [wrap64_id (by omega) (by omega)]; omega
  have dd : (L.take (15 + data.length)).drop 15 = data := by
    rw [hL, show 15 + data.length = data.length + 15 from by omega]
    simp
  have hB := num4_lt g1 g2 g3 g4
  have hC := num4_lt g5 g6 g7 g8
  have hD := num4_lt g9 g10 g11 g12
  generalize num4 x1 x2 x3 x4 = B at *
  generalize num4 x5 x6 x7 x8 = C at *
  generalize num4 x9 x10 x11 x12 = D at *
  clear hL g1 g2 g3 g4 g5 g6 g7 g8 g9 g10 g11 g12
  unfold parapetref04_Decode.f
  rw [ew, n1, n5, n9, r0, r13, r14, Int.toNat_natCast, dd, wrap64_id (n := (x0 : Int)) (by omega) (by omega), wrap64_id (n := (x13 : Int)) (by omega) (by omega), wrap64_id (n := (x14 : Int)) (by omega) (by omega)]
  refine Ev_ite_neg (by omega) (Ev_ite_neg (by omega) (Ev.bind (rvalid_ev hb (by omega) (by omega)) ?_))
  rw [decide_eq_true hc]
  refine Ev_ite_pos rfl (Ev_ite_pos (by omega) (Ev_ite_pos (by omega) (Ev_ite_pos (by omega) (Ev_some (Ev_ite_pos (by omega) (Ev_ite_pos (by omega) (Ev_some (Ev_ite_pos (by omega) (Ev_ite_pos (by omega) (Ev_some (Ev_ite_pos (by omega) (Ev_some (Ev_ite_pos (by omega) (Ev_ite_pos (by omega) (Ev_ite_pos (by simp; omega) (Ev_some ?_))))))))))))))))
  rw [List.nil_append]
  refine Ev.bind (rlawful_ev _ _ _ _ _ _ (by omega) (by omega)) ?_
  have q43 := law_43 (x0 : Int) (B : Int) (C : Int) (D : Int) (x13 : Int) (data.length : Int) 0
  have hdec : ∀ r, (if law (x0 : Int) (B : Int) (C : Int) (D : Int) (x13 : Int) (data.length : Int) = 43 then ((0, 0, 0, 0, 0, [], 43) : Got) else if law (x0 : Int) (B : Int) (C : Int) (D : Int) (x13 : Int) (data.length : Int) = 44 then (0, 0, 0, 0, 0, [], 44) else if ((x14 : Int) != (data.length : Int)) = true then (0, 0, 0, 0, 0, [], 45) else if law (x0 : Int) (B : Int) (C : Int) (D : Int) (x13 : Int) (data.length : Int) = 0 then ((x0 : Int), (B : Int), (C : Int), (D : Int), (x13 : Int), data, 0) else (0, 0, 0, 0, 0, [], law (x0 : Int) (B : Int) (C : Int) (D : Int) (x13 : Int) (data.length : Int))) = r → dec (x0 : Int) (B : Int) (C : Int) (D : Int) (x13 : Int) (x14 : Int) data = r := by
    intro r hr
    rw [← hr]
    unfold dec
    by_cases q : (x14 : Int) = (data.length : Int)
    · rw [if_pos q]
      have e : ((x14 : Int) != (data.length : Int)) = false := by simp [q]
      rw [e]
      by_cases z : law (x0 : Int) (B : Int) (C : Int) (D : Int) (x13 : Int) (data.length : Int) = 0
      · rw [if_pos z, z]; simp
      · rw [if_neg z]
        by_cases z3 : law (x0 : Int) (B : Int) (C : Int) (D : Int) (x13 : Int) (data.length : Int) = 43
        · rw [z3]; simp
        by_cases z4 : law (x0 : Int) (B : Int) (C : Int) (D : Int) (x13 : Int) (data.length : Int) = 44
        · rw [z4]; simp
        · rw [if_neg z3, if_neg z4]; simp [z]
    · rw [if_neg q]
      have e : ((x14 : Int) != (data.length : Int)) = true := by simpa using q
      rw [e]
      by_cases z3 : law (x0 : Int) (B : Int) (C : Int) (D : Int) (x13 : Int) (data.length : Int) = 43
      · rw [if_pos z3, if_pos (q43.1.1 z3)]
      · rw [if_neg z3, if_neg (fun h => z3 (q43.1.2 h))]
        by_cases z4 : law (x0 : Int) (B : Int) (C : Int) (D : Int) (x13 : Int) (data.length : Int) = 44
        · rw [if_pos z4, if_pos (q43.2.1 z4)]
        · rw [if_neg z4, if_neg (fun h => z4 (q43.2.2 h))]; simp
  rw [hdec _ rfl]
  generalize law (x0 : Int) (B : Int) (C : Int) (D : Int) (x13 : Int) (data.length : Int) = lw at *
  by_cases z3 : lw = 43
  · subst z3
    refine Ev_ite_pos rfl ?_
    exact rdec_end false _ _ _ _ _ _
  by_cases z4 : lw = 44
  · subst z4
    refine Ev_ite_neg (by decide) (Ev_ite_pos rfl ?_)
    exact rdec_end false _ _ _ _ _ _
  · rw [if_neg z3, if_neg z4]
    exact Ev_ite_neg z3 (Ev_ite_neg z4 (Ev_ite_pos (by omega) (rdec_end _ _ _ _ _ _ _)))
/-- Both decode alike. -/
theorem both_decode {L : List Int} (hb : By L) : ∃ r : Got, Ev (fun k => unit_Decode.f k L) r ∧ Ev (fun k => parapetref04_Decode.f k L) r := by
  by_cases c1 : L.length < 19
  · exact ⟨_, decode_short c1, rdecode_short c1⟩
  by_cases c2 : 27 < L.length
  · exact ⟨_, decode_long c2, rdecode_long c2⟩
  by_cases c3 : crc L = 0
  case neg => exact ⟨_, decode_bad hb (by omega) (by omega) c3, rdecode_bad hb (by omega) (by omega) c3⟩
  obtain ⟨x0, x1, x2, x3, x4, x5, x6, x7, x8, x9, x10, x11, x12, x13, x14, data, ⟨g0, g1, g2, g3, g4, g5, g6, g7, g8, g9, g10, g11, g12, g13, g14⟩, bd, ld, hl⟩ := split15 hb (by omega)
  have hs : data = data.take (data.length - 4) ++ data.drop (data.length - 4) := (List.take_append_drop _ _).symm
  have h1 : (data.take (data.length - 4)).length ≤ 8 := by rw [List.length_take]; omega
  have h2 : (data.drop (data.length - 4)).length = 4 := by rw [List.length_drop]; omega
  rw [hs] at hl
  exact ⟨_, decode_ev g0 g1 g2 g3 g4 g5 g6 g7 g8 g9 g10 g11 g12 g13 g14 h1 h2 hb hl c3, rdecode_ev g0 g1 g2 g3 g4 g5 g6 g7 g8 g9 g10 g11 g12 g13 g14 h1 h2 hb hl c3⟩

theorem same_yes (a b c d e : Int) (l : List Int) : parapetref04_Same.f a b c d e l a b c d e l = some true := by
  unfold parapetref04_Same.f
  rw [if_pos rfl, if_pos rfl, if_pos rfl, if_pos rfl, if_pos rfl]
  simp

end Go.Proofs.Ytlafkeijikbenac.Pure
