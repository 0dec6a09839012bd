/- Lemmas on the printed functions: what each comes to, over plain numbers and lists. -/
import Derived.Test.YtlafkeijikbenacPVx1
import Derived.Test.YtlafkeijikbenacPVx2
import Derived.Test.YtlafkeijikbenacPVx3
import Derived.Test.YtlafkeijikbenacPVx4
import Derived.Test.YtlafkeijikbenacPVx5
import Derived.Test.YtlafkeijikbenacPVx6
import Derived.Test.YtlafkeijikbenacPVx7
import Derived.Test.YtlafkeijikbenacPVx8
import Derived.Test.YtlafkeijikbenacBt
namespace Go.Proofs.Ytlafkeijikbenac.Pure
open Go Go.RowKit Go.Proofs.Ytlafkeijikbenac.PV Go.Proofs.YtlafkeijikbenacW.PrintWords Go.Proofs.YtlafkeijikbenacW.PrintLast Go.Proofs.YtlafkeijikbenacW.PrintMore
set_option linter.unusedSimpArgs false
set_option linter.unusedVariables false
open Go.Proofs.Ytlafkeijikbenac.Gf Go.Proofs.Ytlafkeijikbenac.Bt
theorem step_round {s : Nat} (h : s < 2 ^ 32) : (if ((s : Int) / 2147483648) = 0 then (((s : Int) * 2) % 4294967296) else (Go.bits .xor .u32 (((s : Int) * 2) % 4294967296) 517762881)) = ((pm G 32 (2 * s) : Nat) : Int) := by
  have h2 : 2 * s < 2 ^ (32 + 1) := by omega
  rw [pm_red G1 G2 h2]
  unfold red
  rw [testBit_top h2]
  by_cases c : s < 2147483648
  · rw [if_pos (by omega), if_neg (by simp; omega)]; omega
  · rw [if_neg (by omega), if_pos (by simp; omega)]
    have e1 : ((s : Int) * 2) % 4294967296 = ((2 * s - 2 ^ 32 : Nat) : Int) := by omega
    rw [e1, show (517762881 : Int) = ((517762881 : Nat) : Int) from rfl, xor32 (by omega) (by omega)]
    have e2 : 2 * s = 1 * 2 ^ 32 ^^^ (2 * s - 2 ^ 32) := by rw [← add_eq_xor (by omega)]; omega
    have e3 : G = 1 * 2 ^ 32 ^^^ 517762881 := by rw [← add_eq_xor (by omega)]; rfl
    conv => rhs; rw [e2, e3, xor4, Nat.xor_self, Nat.zero_xor]
theorem step_loop : ∀ (n i s : Nat), i + n = 8 → s < 2 ^ 32 → Ev (fun k => crc_step.l0 k (s : Int) (i : Int)) ((pm G 32 (s * 2 ^ n) : Nat) : Int) := by
  intro n
  induction n with
  | zero =>
    intro i s hi hs
    refine Ev.step (fun k => crc_step.l0.eq_2 ..) ?_
    refine Ev_ite_neg (by omega) ?_
    rw [Nat.pow_zero, Nat.mul_one, pm_small G1 G2 hs]
    exact Ev.now _
  | succ n ih =>
    intro i s hi hs
    refine Ev.step (fun k => crc_step.l0.eq_2 ..) ?_
    refine Ev_ite_pos (by omega) ?_
    have e : wrap64 ((i : Int) + 1) = ((i + 1 : Nat) : Int) := by rw [wrap64_id (by omega) (by omega)]; omega
    rw [e]
    have g := ih (i + 1) (pm G 32 (2 * s)) (by omega) (pm_lt G1 G2 _)
    rw [pm_shift G1 G2, Nat.mul_comm 2 s, Nat.mul_assoc, ← Nat.pow_succ', ← Nat.mul_comm 2 s, ← step_round hs] at g
    by_cases c : ((s : Int) / 2147483648) = 0
    · refine Ev_ite_pos c ?_
      rw [if_pos c] at g; exact g
    · refine Ev_ite_neg c ?_
      rw [if_neg c] at g; exact g
theorem step_ev {s : Nat} {c : Int} (hs : s < 2 ^ 32) (h0 : 0 ≤ c) (h1 : c < 256) : Ev (fun k => crc_step.f k (s : Int) c) ((stp s c.toNat : Nat) : Int) := by
  unfold crc_step.f
  have e : (((c) % 4294967296) * 16777216) % 4294967296 = ((c.toNat * 2 ^ 24 : Nat) : Int) := by omega
  rw [e, xor32 hs (by omega)]
  exact step_loop 8 0 _ rfl (Nat.xor_lt_two_pow hs (by omega))
theorem bits_loop : ∀ (l pre : List Int) (s : Nat), By l → (pre ++ l).length ≤ 140737488355328 → s < 2 ^ 32 →
    Ev (fun k => crc_Bits.l0 k (s : Int) (pre ++ l) ((pre ++ l).length : Int) (pre.length : Int)) ((crcFrom s l : Nat) : Int) := by
  intro l
  induction l with
  | nil =>
    intro pre s _ _ hs
    refine Ev.step (fun k => crc_Bits.l0.eq_2 ..) ?_
    refine Ev_ite_neg (by simp) ?_
    rw [crcFrom_nil hs]; exact Ev.now _
  | cons c l ih =>
    intro pre s hb hl hs
    have hc := hb.head
    refine Ev.step (fun k => crc_Bits.l0.eq_2 ..) ?_
    have hlt : ((pre.length : Nat) : Int) < ((pre ++ c :: l).length : Int) := by simp; omega
    refine Ev_ite_pos hlt (Ev_ite_pos (by omega) (Ev_ite_pos hlt ?_))
    rw [rd_at]
    refine Ev.bind (step_ev hs hc.1 hc.2) ?_
    rw [crcFrom_cons s c hb.tail]
    have g := ih (pre ++ [c]) (stp s c.toNat) hb.tail (by simpa using hl) (pm_lt G1 G2 _)
    have e : wrap64 ((pre.length : Int) + 1) = ((pre ++ [c]).length : Int) := by
      rw [wrap64_id (by omega) (by simp at hl; omega)]; simp
    rw [e]
    simpa using g
theorem bits_ev {l : List Int} (hb : By l) (hl : l.length ≤ 140737488355328) : Ev (fun k => crc_Bits.f k l) ((crc l : Nat) : Int) := by
  have := bits_loop l [] 0 hb hl (by omega)
  rw [crcFrom_zero] at this
  exact this
def len (a : Nat) : Nat := if a = 0 then 0 else a.log2 + 1
theorem len_zero : len 0 = 0 := rfl
theorem len_iff {a n : Nat} : len a = n + 1 ↔ 2 ^ n ≤ a ∧ a < 2 ^ (n + 1) := by
  unfold len
  by_cases h : a = 0
  · subst h
    have := Nat.two_pow_pos n
    simp
  · rw [if_neg h]
    have h1 := Nat.log2_self_le h
    have h2 := @Nat.lt_log2_self a
    constructor
    · intro e
      have : a.log2 = n := by omega
      subst this; exact ⟨h1, h2⟩
    · intro ⟨u, v⟩
      have e1 : a.log2 < n + 1 := (Nat.log2_lt h).2 v
      have e2 : n ≤ a.log2 := (Nat.le_log2 h).2 u
      omega
theorem len_pos {a : Nat} (h : a ≠ 0) : ∃ n, len a = n + 1 := ⟨a.log2, by simp [len, h]⟩
theorem len_le {a n : Nat} (h : a < 2 ^ n) : len a ≤ n := by
  by_cases z : a = 0
  · subst z; simp [len]
  · obtain ⟨m, hm⟩ := len_pos z
    rw [hm]
    have := (len_iff.1 hm).1
    apply Nat.lt_of_not_le
    intro c
    have := Nat.pow_le_pow_right (n := 2) (by omega) c
    have := Nat.pow_le_pow_right (n := 2) (by omega) (show n ≤ m + 1 - 1 from by omega)
    rw [Nat.add_sub_cancel] at this
    omega
theorem lt_of_len {a n : Nat} (h : len a ≤ n) : a < 2 ^ n := by
  by_cases z : a = 0
  · subst z; exact Nat.two_pow_pos n
  · obtain ⟨m, hm⟩ := len_pos z
    have := (len_iff.1 hm).2
    exact Nat.lt_of_lt_of_le this (Nat.pow_le_pow_right (by omega) (by omega))
def Deg (m d : Nat) : Prop := 2 ^ d ≤ m ∧ m < 2 ^ (d + 1)
theorem Deg.len {m d : Nat} (h : Deg m d) : len m = d + 1 := len_iff.2 h
theorem Deg.lt {m d : Nat} (h : Deg m d) (hm : m < 2 ^ 64) : d < 64 := by
  have h1 := h.1
  apply Nat.lt_of_not_le
  intro c
  have := Nat.pow_le_pow_right (n := 2) (by omega) c
  omega
theorem pow64 {n : Nat} (h : n ≤ 64) : 2 ^ n ≤ 2 ^ 64 := Nat.pow_le_pow_right (by omega) h
theorem halves (b i : Nat) : b / 2 ^ i % 2 = (b.testBit i).toNat ∧ b / 2 ^ i / 2 = b / 2 ^ (i + 1) := by
  constructor
  · rw [Nat.testBit_eq_decide_div_mod_eq]
    rcases Nat.mod_two_eq_zero_or_one (b / 2 ^ i) with h | h <;> simp [h]
  · rw [Nat.pow_succ, Nat.div_div_eq_div_mul]
theorem pm_bit (m d x b : Nat) (hb : b < 2) : pm m d (2 * x + b) = red m d (2 * pm m d x ^^^ b) := by
  rw [pm_eq, show (2 * x + b) / 2 = x from by omega, show (2 * x + b) % 2 = b from by omega]
theorem ref_degree_loop (p : Nat) (hp : p < 2 ^ 64) : ∀ (n i : Nat), i + n = 64 →
    Ev (fun k => parapetref01_Degree.l0 k (p : Int) (((len (p % 2 ^ i) : Nat) : Int) - 1) (i : Int)) (((len p : Nat) : Int) - 1) := by
  intro n
  induction n with
  | zero =>
    intro i hi
    obtain rfl : i = 64 := by omega
    refine Ev.step (fun k => parapetref01_Degree.l0.eq_2 ..) (Ev_ite_neg (by omega) ?_)
    rw [Nat.mod_eq_of_lt hp]; exact Ev.now _
  | succ n ih =>
    intro i hi
    refine Ev.step (fun k => parapetref01_Degree.l0.eq_2 ..) (Ev_ite_pos (by omega) (Ev_ite_pos (by omega) ?_))
    have e : wrap64 ((i : Int) + 1) = ((i + 1 : Nat) : Int) := by rw [wrap64_id (by omega) (by omega)]; omega
    rw [e]
    have g := ih (i + 1) (by omega)
    have hm : p % 2 ^ (i + 1) = (p.testBit i).toNat * 2 ^ i + p % 2 ^ i := by
      have hh := (halves p i).1
      rw [Nat.pow_succ, Nat.mod_mul, hh, Nat.mul_comm]; omega
    have hlt : p % 2 ^ i < 2 ^ i := Nat.mod_lt _ (Nat.two_pow_pos i)
    by_cases c : p.testBit i = true
    · refine Ev_ite_neg (by rw [bit64_zero hp (by omega), c]; simp) ?_
      rw [c] at hm
      simp only [Bool.toNat_true, Nat.one_mul] at hm
      have : len (p % 2 ^ (i + 1)) = i + 1 := len_iff.2 ⟨by omega, Nat.mod_lt _ (Nat.two_pow_pos _)⟩
      rw [this, show (((i + 1 : Nat) : Int) - 1) = (i : Int) from by omega] at g
      exact g
    · have c' : p.testBit i = false := by simpa using c
      refine Ev_ite_pos ((bit64_zero hp (by omega)).2 c') ?_
      rw [c'] at hm
      simp only [Bool.toNat_false, Nat.zero_mul, Nat.zero_add] at hm
      rw [hm] at g
      exact g
theorem ref_degree_ev {p : Nat} (hp : p < 2 ^ 64) : Ev (fun k => parapetref01_Degree.f k (p : Int)) (((len p : Nat) : Int) - 1) := by
  have := ref_degree_loop p hp 64 0 rfl
  rwa [Nat.pow_zero, Nat.mod_one] at this
theorem ref_deg_ev {m d : Nat} (hd : Deg m d) (hm : m < 2 ^ 64) : Ev (fun k => parapetref01_Degree.f k (m : Int)) (d : Int) := by
  have := ref_degree_ev hm
  rw [hd.len, show (((d + 1 : Nat) : Int) - 1) = (d : Int) from by omega] at this
  exact this
def bpol (l : List Bool) : Nat := l.foldl (fun a c => a * 2 + c.toNat) 0
theorem bpol_acc (l : List Bool) : ∀ a, l.foldl (fun a c => a * 2 + c.toNat) a = a * 2 ^ l.length + bpol l := by
  unfold bpol
  induction l with
  | nil => intro a; simp
  | cons c l ih =>
    intro a
    simp only [List.foldl_cons, List.length_cons]
    rw [ih, ih (0 * 2 + c.toNat), Nat.pow_succ, Nat.zero_mul, Nat.zero_add, Nat.add_mul, Nat.add_assoc, Nat.mul_assoc, Nat.mul_comm 2 (2 ^ l.length)]
theorem bpol_nil : bpol [] = 0 := rfl
theorem bpol_cons (c : Bool) (l : List Bool) : bpol (c :: l) = c.toNat * 2 ^ l.length + bpol l := by
  have := bpol_acc l (0 * 2 + c.toNat)
  unfold bpol at this ⊢
  rw [List.foldl_cons, this]; simp
theorem bpol_append (a b : List Bool) : bpol (a ++ b) = bpol a * 2 ^ b.length + bpol b := by
  induction a with
  | nil => simp [bpol_nil]
  | cons c a ih =>
    rw [List.cons_append, bpol_cons, ih, bpol_cons, List.length_append, Nat.pow_add, Nat.add_mul, Nat.mul_assoc, Nat.add_assoc]
theorem bpol_snoc (a : List Bool) (c : Bool) : bpol (a ++ [c]) = 2 * bpol a + c.toNat := by
  rw [bpol_append, bpol_cons, bpol_nil]; simp; omega
theorem rdOf_at (pre : List Bool) (c : Bool) (l : List Bool) : rdOf false (pre ++ c :: l) (pre.length : Int) = c := by
  unfold rdOf; simp
theorem rbits_loop {m d : Nat} (hd : Deg m d) (hm : m < 2 ^ 64) (hd1 : 1 ≤ d) : ∀ (l pre : List Bool), (pre ++ l).length ≤ 9223372036854775806 →
    Ev (fun k => parapetref01_Bits.l0 k (pre ++ l) (m : Int) (d : Int) ((pm m d (bpol pre) : Nat) : Int) (pre.length : Int)) ((pm m d (bpol (pre ++ l)) : Nat) : Int) := by
  have hd64 := hd.lt hm
  intro l
  induction l with
  | nil =>
    intro pre _
    refine Ev.step (fun k => parapetref01_Bits.l0.eq_2 ..) (Ev_ite_neg (by simp) ?_)
    rw [List.append_nil]; exact Ev.now _
  | cons c l ih =>
    intro pre hl
    have hlt : ((pre.length : Nat) : Int) < ((pre ++ c :: l).length : Int) := by simp; omega
    have hlt' := pm_lt hd.1 hd.2 (bpol pre)
    have hout2 : 2 * pm m d (bpol pre) < 2 ^ (d + 1) := by rw [Nat.pow_succ]; omega
    have h2 : 2 * pm m d (bpol pre) < 2 ^ 64 := Nat.lt_of_lt_of_le hout2 (pow64 (by omega))
    have h1 : pm m d (bpol pre) < 2 ^ 64 := by omega
    have g := ih (pre ++ [c]) (by simpa using hl)
    have e : wrap64 ((pre.length : Int) + 1) = ((pre ++ [c]).length : Int) := by
      simp only [List.length_append, List.length_cons] at hl
      rw [wrap64_id (by omega) (by omega)]; simp
    have e1 : wrap64 ((d : Int) - 1) = ((d - 1 : Nat) : Int) := by rw [wrap64_id (by omega) (by omega)]; omega
    have e2 : IntKind.u64.wrap (((pm m d (bpol pre) : Nat) : Int) * 2) = ((2 * pm m d (bpol pre) : Nat) : Int) := by rw [wrap_u64]; omega
    rw [bpol_snoc, pm_bit _ _ _ _ (by cases c <;> simp), List.append_assoc, List.singleton_append] at g
    have hbit : (2 * pm m d (bpol pre) ^^^ c.toNat).testBit d = (pm m d (bpol pre)).testBit (d - 1) := by
      obtain ⟨d', rfl⟩ : ∃ d', d = d' + 1 := ⟨d - 1, by omega⟩
      rw [Nat.testBit_xor, Nat.testBit_succ, Nat.mul_div_cancel_left _ (by omega), Nat.add_sub_cancel]
      have : c.toNat.testBit (d' + 1) = false := by
        apply Nat.testBit_lt_two_pow
        have := Nat.pow_le_pow_right (n := 2) (by omega) (show 1 ≤ d' + 1 from by omega)
        cases c <;> simp <;> omega
      rw [this, Bool.xor_false]
    unfold red at g
    rw [hbit] at g
    refine Ev.step (fun k => parapetref01_Bits.l0.eq_2 ..) (Ev_ite_pos hlt ?_)
    rw [e1]
    refine Ev_ite_pos (by omega) (Ev_ite_pos (by omega) ?_)
    rw [rdOf_at, e, e2, show (1 : Int) = ((1 : Nat) : Int) from rfl, xor64 h2 (by omega), xor64 (Nat.xor_lt_two_pow h2 (by omega)) hm, xor64 h2 hm]
    by_cases tb : (pm m d (bpol pre)).testBit (d - 1) = true
    · have tn : ¬ (Go.bits .and .u64 (shr .u64 ((pm m d (bpol pre) : Nat) : Int) ((d - 1 : Nat) : Int)) ((1 : Nat) : Int) = 0) := by
        rw [show ((1 : Nat) : Int) = 1 from rfl, bit64_zero h1 (by omega), tb]; simp
      rw [if_pos tb] at g
      cases c
      · refine Ev_ite_neg (by simp) (Ev_ite_neg tn ?_)
        simpa using g
      · refine Ev_ite_pos rfl (Ev_ite_neg tn ?_)
        simpa using g
    · have tb' : (pm m d (bpol pre)).testBit (d - 1) = false := by simpa using tb
      have tn : (Go.bits .and .u64 (shr .u64 ((pm m d (bpol pre) : Nat) : Int) ((d - 1 : Nat) : Int)) ((1 : Nat) : Int) = 0) := by
        rw [show ((1 : Nat) : Int) = 1 from rfl, bit64_zero h1 (by omega), tb']
      rw [if_neg tb] at g
      cases c
      · refine Ev_ite_neg (by simp) (Ev_ite_pos tn ?_)
        simpa using g
      · refine Ev_ite_pos rfl (Ev_ite_pos tn ?_)
        simpa using g
theorem rbits_ev {m d : Nat} (hd : Deg m d) (hm : m < 2 ^ 64) {l : List Bool} (hl : l.length ≤ 9223372036854775806) :
    Ev (fun k => parapetref01_Bits.f k l (m : Int)) ((pm m d (bpol l) : Nat) : Int) := by
  unfold parapetref01_Bits.f
  refine Ev.bind (ref_deg_ev hd hm) ?_
  by_cases h : d = 0
  · subst h
    refine Ev_ite_pos rfl ?_
    have := pm_lt hd.1 hd.2 (bpol l)
    rw [show pm m 0 (bpol l) = 0 from by omega]
    exact Ev.now _
  · refine Ev_ite_neg (by omega) ?_
    have := rbits_loop hd hm (by omega) l [] hl
    rw [bpol_nil, pm_zero] at this
    exact this
theorem rof_inner {m : Nat} (pre : List Int) (n : Nat) (l : List Int) (hn : n < 256) (hl : (pre ++ (n : Int) :: l).length ≤ 10000000) (r : Int × Int) (P : Nat)
    (h : ∀ bs : List Bool, bs.length = 8 * (pre.length + 1) → bpol bs = P * 256 + n → Ev (fun k => parapetref01_Of.l0 k (pre ++ (n : Int) :: l) (m : Int) bs ((pre.length + 1 : Nat) : Int)) r) :
    ∀ (j : Nat) (bs : List Bool), j ≤ 8 → bs.length + j = 8 * (pre.length + 1) → bpol bs = P * 2 ^ (8 - j) + n / 2 ^ j →
    Ev (fun k => parapetref01_Of.l1 k (pre ++ (n : Int) :: l) (m : Int) bs (pre.length : Int) ((j : Int) - 1)) r := by
  have hlen : (pre ++ (n : Int) :: l).length = pre.length + (l.length + 1) := by simp
  intro j
  induction j with
  | zero =>
    intro bs _ hb hp
    refine Ev.step (fun k => parapetref01_Of.l1.eq_2 ..) (Ev_ite_neg (by omega) ?_)
    rw [w_succ (by omega)]
    exact h bs (by omega) (by rw [hp, Nat.pow_zero, Nat.div_one])
  | succ j ih =>
    intro bs hj hb hp
    have e1 : ((j + 1 : Nat) : Int) - 1 = (j : Int) := by omega
    rw [e1]
    refine Ev.step (fun k => parapetref01_Of.l1.eq_2 ..) (Ev_ite_pos (by omega) (Ev_ite_pos (by omega) (Ev_ite_pos (by omega) (Ev_ite_pos (by omega) (Ev_ite_pos (by omega) ?_)))))
    rw [rd_at, bit8 hn (by omega), w_pred (by omega)]
    have eb : (((((n.testBit j).toNat : Nat) : Int)) != 0) = n.testBit j := by cases n.testBit j <;> rfl
    rw [eb]
    refine ih _ (by omega) (by rw [List.length_append, List.length_singleton]; omega) ?_
    rw [bpol_snoc, hp]
    have hh := halves n j
    have e5 : P * 2 ^ (8 - j) = 2 * (P * 2 ^ (8 - (j + 1))) := by
      rw [show 8 - j = (8 - (j + 1)) + 1 from by omega, Nat.pow_succ, ← Nat.mul_assoc, Nat.mul_comm 2]
    rw [e5, ← hh.2]
    clear h ih hp eb
    generalize P * 2 ^ (8 - (j + 1)) = u at *
    generalize n / 2 ^ j = v at *
    omega
theorem rof_loop {m d : Nat} (hd : Deg m d) (hm : m < 2 ^ 64) : ∀ (l pre : List Int) (bs : List Bool), By l → (pre ++ l).length ≤ 10000000 → bs.length = 8 * pre.length → bpol bs = pol pre →
    Ev (fun k => parapetref01_Of.l0 k (pre ++ l) (m : Int) bs (pre.length : Int)) (((pm m d (pol (pre ++ l)) : Nat) : Int), 0) := by
  intro l
  induction l with
  | nil =>
    intro pre bs _ hl hb hp
    rw [List.append_nil] at hl ⊢
    refine Ev.step (fun k => parapetref01_Of.l0.eq_2 ..) (Ev_ite_neg (by omega) (Ev.bind (rbits_ev hd hm (by omega)) ?_))
    rw [hp]; exact Ev.now _
  | cons c l ih =>
    intro pre bs hb hl hbs hp
    have hc := hb.head
    obtain ⟨n, rfl⟩ : ∃ n : Nat, c = (n : Int) := ⟨c.toNat, by omega⟩
    have hlen : (pre ++ (n : Int) :: l).length = pre.length + (l.length + 1) := by simp
    have e3 : (pre ++ [(n : Int)]).length = pre.length + 1 := by simp
    refine Ev.step (fun k => parapetref01_Of.l0.eq_2 ..) (Ev_ite_pos (by omega) ?_)
    refine rof_inner pre n l (by omega) hl _ (pol pre) (fun bs' h1 h2 => ?_) 8 bs (Nat.le_refl _) (by omega) (by rw [hp, Nat.div_eq_of_lt (by omega)]; simp)
    have g := ih (pre ++ [(n : Int)]) bs' hb.tail (by simpa using hl) (by rw [e3]; exact h1) (by rw [h2, pol_append, pol_cons]; simp [pol_nil])
    rw [List.append_assoc, List.singleton_append, e3] at g
    exact g
theorem rof_ev {m d : Nat} (hd : Deg m d) (hm : m < 2 ^ 64) {l : List Int} (hb : By l) (hl : l.length ≤ 10000000) :
    Ev (fun k => parapetref01_Of.f k l (m : Int)) (((pm m d (pol l) : Nat) : Int), 0) := by
  have hm0 : m ≠ 0 := by
    have h5 := hd.1
    have h6 := Nat.two_pow_pos d
    omega
  unfold parapetref01_Of.f
  have e : wrap64 (8 * (l.length : Int)) = ((8 * l.length : Nat) : Int) := by rw [wrap64_id (by omega) (by omega)]; omega
  rw [e]
  exact Ev_ite_neg (by omega) (Ev_ite_pos (by omega) (Ev_ite_pos (by omega) (rof_loop hd hm l [] [] hb hl rfl rfl)))
theorem G64 : G < 2 ^ 64 := by unfold G; omega
theorem GD : Deg G 32 := ⟨G1, G2⟩
def word4 (s : Int) : List Int := [(s / 16777216) % 256, (s / 65536) % 256, (s / 256) % 256, s % 256]
theorem word4_by (s : Int) : By (word4 s) := by
  intro x hx; simp [word4] at hx; omega
theorem word4_pol {s : Nat} (h : s < 2 ^ 32) : pol (word4 (s : Int)) = s := by
  simp [word4, pol]; omega
theorem crc_sealed {l : List Int} : crc (l ++ word4 (crc l : Int)) = 0 := by
  have hw := word4_by (crc l : Int)
  unfold crc
  have h : pol (l ++ word4 ((crc l : Nat) : Int)) = pol l * 2 ^ 32 ^^^ crc l := by
    rw [pol_append_xor hw, word4_pol (crc_lt l)]; rfl
  have e : pm G 32 (pol l * 2 ^ 32 ^^^ crc l) = 0 := by
    rw [pm_xor G1 G2, pm_small (p := crc l) G1 G2 (crc_lt l)]; unfold crc; simp
  show pm G 32 (pol (l ++ word4 ((crc l : Nat) : Int)) * 2 ^ 32) = 0
  rw [h, ← pm_shift G1 G2, e, Nat.zero_mul, pm_zero]
def sealed (l : List Int) : List Int := l ++ word4 (crc l : Int)
theorem sealed_by {l : List Int} (h : By l) : By (sealed l) := h.append (word4_by _)
theorem sealed_length (l : List Int) : (sealed l).length = l.length + 4 := by simp [sealed, word4]
theorem valid_ev {l : List Int} (hb : By l) (hl : l.length ≤ 140737488355328) (h4 : 4 ≤ l.length) : Ev (fun k => crc_Valid.f k l) (decide (crc l = 0)) := by
  unfold crc_Valid.f
  refine Ev_ite_pos (by omega) (Ev.bind (bits_ev hb hl) ?_)
  have : (((crc l : Nat) : Int) == 0) = decide (crc l = 0) := by
    by_cases h : crc l = 0
    · rw [h]; rfl
    · rw [decide_eq_false h]; simpa using h
  rw [this]; exact Ev.now _
def w4 (s : Int) : List Int := [(s / 16777216) % 256, (s / 65536) % 256, (s / 256) % 256, s % 256]
theorem awake_ev : Ev (fun k => parapetlaw04_Awake.f k) true := Ev.of parapetlaw04_Awake.mono (k := 60) (by decide +kernel)
def form (a : Int) : Int × Int × Int × Bool × Bool :=
  if a = 1 then (0, 0, 1, false, true) else if a = 2 then (1, 0, 1, false, true) else if a = 17 then (1, 0, 1, false, true)
  else if a = 3 then (1, 0, 0, false, true) else if a = 18 then (1, 0, 0, false, true) else if a = 19 then (1, 0, 0, false, true)
  else if a = 4 then (1, 1, 2, true, true) else if a = 20 then (1, 1, 2, true, true)
  else if a = 5 then (1, 1, 0, false, true) else if a = 21 then (1, 1, 0, false, true)
  else if a = 22 then (2, 0, 0, false, true) else (0, 0, 0, false, false)
theorem kinds (a : Int) : (a = 1 ∨ a = 2 ∨ a = 17 ∨ a = 3 ∨ a = 18 ∨ a = 19 ∨ a = 4 ∨ a = 20 ∨ a = 5 ∨ a = 21 ∨ a = 22) ∨ (a ≠ 1 ∧ a ≠ 2 ∧ a ≠ 17 ∧ a ≠ 3 ∧ a ≠ 18 ∧ a ≠ 19 ∧ a ≠ 4 ∧ a ≠ 20 ∧ a ≠ 5 ∧ a ≠ 21 ∧ a ≠ 22) := by omega
def lenOk (p n : Int) : Bool := if p = 1 then n == 4 else if p = 2 then (if n ≥ 1 then decide (n ≤ 8) else false) else n == 0
def fitOk (w x : Int) : Bool := if w = 2 then true else ((w == 1) == decide (x > 0))
def lawF (f : Int × Int × Int × Bool × Bool) (b c d e n : Int) : Int :=
  if f.2.2.2.2 = true then (if b = 0 then 44 else (if lenOk f.2.2.1 n = true then (if fitOk f.1 c = true then (if fitOk f.2.1 d = true then (if e < 0 then 48 else (if e > 15 then 48 else (if f.2.2.2.1 = true then 0 else (if e = 0 then 0 else 48)))) else 47) else 46) else 45)) else 43
def law (a b c d e n : Int) : Int := lawF (form a) b c d e n
theorem law_zero {a b c d e n : Int} (h : law a b c d e n = 0) : 1 ≤ a ∧ a ≤ 22 ∧ 0 ≤ e ∧ e ≤ 15 ∧ n ≤ 8 := by
  have hk : 1 ≤ a ∧ a ≤ 22 := by
    rcases kinds a with g | ⟨h1, h2, h3, h4, h5, h6, h7, h8, h9, h10, h11⟩
    · omega
    · have : form a = (0, 0, 0, false, false) := by simp [form, *]
      unfold law at h
      rw [this] at h
      simp [lawF] at h
  unfold law at h
  generalize form a = F at h
  obtain ⟨s, m, p, fl, is⟩ := F
  unfold lawF at h
  dsimp only at h
  by_cases q1 : is = true
  case neg => rw [if_neg q1] at h; omega
  rw [if_pos q1] at h
  by_cases q2 : b = 0
  case pos => rw [if_pos q2] at h; omega
  rw [if_neg q2] at h
  by_cases q3 : lenOk p n = true
  case neg => rw [if_neg q3] at h; omega
  rw [if_pos q3] at h
  have hn : n ≤ 8 := by
    unfold lenOk at q3
    split at q3
    · have := eq_of_beq q3; omega
    · split at q3
      · split at q3
        · exact of_decide_eq_true q3
        · cases q3
      · have := eq_of_beq q3; omega
  by_cases q4 : fitOk s c = true
  case neg => rw [if_neg q4] at h; omega
  rw [if_pos q4] at h
  by_cases q5 : fitOk m d = true
  case neg => rw [if_neg q5] at h; omega
  rw [if_pos q5] at h
  by_cases q6 : e < 0
  · rw [if_pos q6] at h; omega
  rw [if_neg q6] at h
  by_cases q7 : e > 15
  · rw [if_pos q7] at h; omega
  exact ⟨hk.1, hk.2, by omega, by omega, hn⟩
def body (a b c d e : Int) (l : List Int) : List Int := [a % 256] ++ w4 b ++ w4 c ++ w4 d ++ [e % 256, (l.length : Int) % 256] ++ l
theorem w4_by (s : Int) : By (w4 s) := word4_by s
theorem w4_length (s : Int) : (w4 s).length = 4 := rfl
theorem body_length (a b c d e : Int) (l : List Int) : (body a b c d e l).length = 15 + l.length := by simp [body, w4_length]; omega
theorem body_by (a b c d e : Int) {l : List Int} (h : By l) : By (body a b c d e l) := by
  have h1 : By [a % 256] := by intro x hx; simp at hx; omega
  have h2 : By [e % 256, (l.length : Int) % 256] := by intro x hx; simp at hx; omega
  exact ((((h1.append (w4_by b)).append (w4_by c)).append (w4_by d)).append h2).append h
theorem decode_bad {L : List Int} (hb : By L) (h1 : 19 ≤ L.length) (h2 : L.length ≤ 27) (h : crc L ≠ 0) : Ev (fun k => unit_Decode.f k L) (0, 0, 0, 0, 0, [], 42) := by
  unfold unit_Decode.f
  refine Ev_ite_neg (by omega) (Ev_ite_neg (by omega) (Ev.bind (valid_ev hb (by omega) (by omega)) ?_))
  rw [decide_eq_false h]
  exact Ev_ite_neg (by simp) (Ev.now _)
theorem rsum_ev {l : List Int} (hb : By l) (hl : l.length ≤ 9000000) : Ev (fun k => parapetref02_Sum.f k l) (crc l : Int) := by
  unfold parapetref02_Sum.f
  have e : wrap64 ((l.length : Int) + 4) = ((l.length + 4 : Nat) : Int) := by rw [wrap64_id (by omega) (by omega)]; omega
  rw [e]
  refine Ev_ite_pos (by omega) (Ev_ite_pos (by omega) (Ev_some (Ev_ite_pos (by simp; omega) (Ev_some (Ev_some (Ev_ite_pos (by simp; omega) ?_))))))
  have h0 : By [0, 0, 0, 0] := by intro x hx; simp at hx; omega
  have hz : By ([] ++ l ++ [0, 0, 0, 0]) := by rw [List.nil_append]; exact hb.append h0
  have g := rof_ev GD G64 hz (by simp; omega)
  refine Ev.bind g ?_
  have hp : pol ([] ++ l ++ [0, 0, 0, 0]) = pol l * 2 ^ 32 := by
    have h1 : pol [0, 0, 0, 0] = 0 := by simp [pol]
    rw [List.nil_append, pol_append, h1, Nat.add_zero]
    simp only [List.length_cons, List.length_nil]
  have e2 : ((pm G 32 (pol ([] ++ l ++ [0, 0, 0, 0])) : Nat) : Int) % 4294967296 = (crc l : Int) := by
    rw [hp]
    have := crc_lt l
    unfold crc at *
    omega
  show Ev _ _
  dsimp only
  rw [e2]
  exact Ev.now _
theorem rword_f (s : Int) : parapetref02_Word.f s = some (word4 s) := rfl
theorem rseal_ev {l : List Int} (hb : By l) (hl : l.length ≤ 9000000) : Ev (fun k => parapetref02_Seal.f k l) (sealed l) := by
  unfold parapetref02_Seal.f
  refine Ev_some (Ev_ite_pos (by simp; omega) (Ev_some (Ev.bind (rsum_ev hb hl) ?_)))
  rw [rword_f]
  exact Ev_some (Ev_ite_pos (by simp [word4]; omega) (Ev.now _))
theorem pos_ne {c : Int} (h : 0 ≤ c) : (0 < c) = (¬ c = 0) := by simp only [eq_iff_iff]; omega
theorem nonpos_eq {c : Int} (h : 0 ≤ c) : (c ≤ 0) = (c = 0) := by simp only [eq_iff_iff]; omega
set_option maxHeartbeats 1000000 in
theorem rl1 (b c d e : Int) (l : List Int) (hc : 0 ≤ c) (hd : 0 ≤ d) : parapetref04_Lawful.f 9 1 b c d e l = some (law 1 b c d e (l.length : Int)) := by
  obtain ⟨n, hn⟩ : ∃ n, (l.length : Int) = n := ⟨_, rfl⟩
  simp [parapetref04_Lawful.f, parapetref04_Lawful.j0, parapetref04_Lawful.j1, parapetref04_Lawful.j2, parapetref04_Lawful.j3, parapetref04_Lawful.j4, parapetref04_Host.f, parapetref04_Device.f, parapetref04_data.f, parapetref04_data.j0, law, lawF, form, lenOk, fitOk, hn, pos_ne hc, pos_ne hd, nonpos_eq hc, nonpos_eq hd]
  (repeat' (first | rfl | split)) <;> first | rfl | (exfalso; omega) | (simp_all; done)
set_option maxHeartbeats 1000000 in
theorem rl2 (b c d e : Int) (l : List Int) (hc : 0 ≤ c) (hd : 0 ≤ d) : parapetref04_Lawful.f 9 2 b c d e l = some (law 2 b c d e (l.length : Int)) := by
  obtain ⟨n, hn⟩ : ∃ n, (l.length : Int) = n := ⟨_, rfl⟩
  simp [parapetref04_Lawful.f, parapetref04_Lawful.j0, parapetref04_Lawful.j1, parapetref04_Lawful.j2, parapetref04_Lawful.j3, parapetref04_Lawful.j4, parapetref04_Host.f, parapetref04_Device.f, parapetref04_data.f, parapetref04_data.j0, law, lawF, form, lenOk, fitOk, hn, pos_ne hc, pos_ne hd, nonpos_eq hc, nonpos_eq hd]
  (repeat' (first | rfl | split)) <;> first | rfl | (exfalso; omega) | (simp_all; done)
set_option maxHeartbeats 1000000 in
theorem rl17 (b c d e : Int) (l : List Int) (hc : 0 ≤ c) (hd : 0 ≤ d) : parapetref04_Lawful.f 9 17 b c d e l = some (law 17 b c d e (l.length : Int)) := by
  obtain ⟨n, hn⟩ : ∃ n, (l.length : Int) = n := ⟨_, rfl⟩
  simp [parapetref04_Lawful.f, parapetref04_Lawful.j0, parapetref04_Lawful.j1, parapetref04_Lawful.j2, parapetref04_Lawful.j3, parapetref04_Lawful.j4, parapetref04_Host.f, parapetref04_Device.f, parapetref04_data.f, parapetref04_data.j0, law, lawF, form, lenOk, fitOk, hn, pos_ne hc, pos_ne hd, nonpos_eq hc, nonpos_eq hd]
  (repeat' (first | rfl | split)) <;> first | rfl | (exfalso; omega) | (simp_all; done)
set_option maxHeartbeats 1000000 in
theorem rl3 (b c d e : Int) (l : List Int) (hc : 0 ≤ c) (hd : 0 ≤ d) : parapetref04_Lawful.f 9 3 b c d e l = some (law 3 b c d e (l.length : Int)) := by
  obtain ⟨n, hn⟩ : ∃ n, (l.length : Int) = n := ⟨_, rfl⟩
  simp [parapetref04_Lawful.f, parapetref04_Lawful.j0, parapetref04_Lawful.j1, parapetref04_Lawful.j2, parapetref04_Lawful.j3, parapetref04_Lawful.j4, parapetref04_Host.f, parapetref04_Device.f, parapetref04_data.f, parapetref04_data.j0, law, lawF, form, lenOk, fitOk, hn, pos_ne hc, pos_ne hd, nonpos_eq hc, nonpos_eq hd]
  (repeat' (first | rfl | split)) <;> first | rfl | (exfalso; omega) | (simp_all; done)
set_option maxHeartbeats 1000000 in
theorem rl18 (b c d e : Int) (l : List Int) (hc : 0 ≤ c) (hd : 0 ≤ d) : parapetref04_Lawful.f 9 18 b c d e l = some (law 18 b c d e (l.length : Int)) := by
  obtain ⟨n, hn⟩ : ∃ n, (l.length : Int) = n := ⟨_, rfl⟩
  simp [parapetref04_Lawful.f, parapetref04_Lawful.j0, parapetref04_Lawful.j1, parapetref04_Lawful.j2, parapetref04_Lawful.j3, parapetref04_Lawful.j4, parapetref04_Host.f, parapetref04_Device.f, parapetref04_data.f, parapetref04_data.j0, law, lawF, form, lenOk, fitOk, hn, pos_ne hc, pos_ne hd, nonpos_eq hc, nonpos_eq hd]
  (repeat' (first | rfl | split)) <;> first | rfl | (exfalso; omega) | (simp_all; done)
set_option maxHeartbeats 1000000 in
theorem rl19 (b c d e : Int) (l : List Int) (hc : 0 ≤ c) (hd : 0 ≤ d) : parapetref04_Lawful.f 9 19 b c d e l = some (law 19 b c d e (l.length : Int)) := by
  obtain ⟨n, hn⟩ : ∃ n, (l.length : Int) = n := ⟨_, rfl⟩
  simp [parapetref04_Lawful.f, parapetref04_Lawful.j0, parapetref04_Lawful.j1, parapetref04_Lawful.j2, parapetref04_Lawful.j3, parapetref04_Lawful.j4, parapetref04_Host.f, parapetref04_Device.f, parapetref04_data.f, parapetref04_data.j0, law, lawF, form, lenOk, fitOk, hn, pos_ne hc, pos_ne hd, nonpos_eq hc, nonpos_eq hd]
  (repeat' (first | rfl | split)) <;> first | rfl | (exfalso; omega) | (simp_all; done)
set_option maxHeartbeats 1000000 in
theorem rl4 (b c d e : Int) (l : List Int) (hc : 0 ≤ c) (hd : 0 ≤ d) : parapetref04_Lawful.f 9 4 b c d e l = some (law 4 b c d e (l.length : Int)) := by
  obtain ⟨n, hn⟩ : ∃ n, (l.length : Int) = n := ⟨_, rfl⟩
  simp [parapetref04_Lawful.f, parapetref04_Lawful.j0, parapetref04_Lawful.j1, parapetref04_Lawful.j2, parapetref04_Lawful.j3, parapetref04_Lawful.j4, parapetref04_Host.f, parapetref04_Device.f, parapetref04_data.f, parapetref04_data.j0, law, lawF, form, lenOk, fitOk, hn, pos_ne hc, pos_ne hd, nonpos_eq hc, nonpos_eq hd]
  (repeat' (first | rfl | split)) <;> first | rfl | (exfalso; omega) | (simp_all; done)
set_option maxHeartbeats 1000000 in
theorem rl20 (b c d e : Int) (l : List Int) (hc : 0 ≤ c) (hd : 0 ≤ d) : parapetref04_Lawful.f 9 20 b c d e l = some (law 20 b c d e (l.length : Int)) := by
  obtain ⟨n, hn⟩ : ∃ n, (l.length : Int) = n := ⟨_, rfl⟩
  simp [parapetref04_Lawful.f, parapetref04_Lawful.j0, parapetref04_Lawful.j1, parapetref04_Lawful.j2, parapetref04_Lawful.j3, parapetref04_Lawful.j4, parapetref04_Host.f, parapetref04_Device.f, parapetref04_data.f, parapetref04_data.j0, law, lawF, form, lenOk, fitOk, hn, pos_ne hc, pos_ne hd, nonpos_eq hc, nonpos_eq hd]
  (repeat' (first | rfl | split)) <;> first | rfl | (exfalso; omega) | (simp_all; done)
set_option maxHeartbeats 1000000 in
theorem rl5 (b c d e : Int) (l : List Int) (hc : 0 ≤ c) (hd : 0 ≤ d) : parapetref04_Lawful.f 9 5 b c d e l = some (law 5 b c d e (l.length : Int)) := by
  obtain ⟨n, hn⟩ : ∃ n, (l.length : Int) = n := ⟨_, rfl⟩
  simp [parapetref04_Lawful.f, parapetref04_Lawful.j0, parapetref04_Lawful.j1, parapetref04_Lawful.j2, parapetref04_Lawful.j3, parapetref04_Lawful.j4, parapetref04_Host.f, parapetref04_Device.f, parapetref04_data.f, parapetref04_data.j0, law, lawF, form, lenOk, fitOk, hn, pos_ne hc, pos_ne hd, nonpos_eq hc, nonpos_eq hd]
  (repeat' (first | rfl | split)) <;> first | rfl | (exfalso; omega) | (simp_all; done)
set_option maxHeartbeats 1000000 in
theorem rl21 (b c d e : Int) (l : List Int) (hc : 0 ≤ c) (hd : 0 ≤ d) : parapetref04_Lawful.f 9 21 b c d e l = some (law 21 b c d e (l.length : Int)) := by
  obtain ⟨n, hn⟩ : ∃ n, (l.length : Int) = n := ⟨_, rfl⟩
  simp [parapetref04_Lawful.f, parapetref04_Lawful.j0, parapetref04_Lawful.j1, parapetref04_Lawful.j2, parapetref04_Lawful.j3, parapetref04_Lawful.j4, parapetref04_Host.f, parapetref04_Device.f, parapetref04_data.f, parapetref04_data.j0, law, lawF, form, lenOk, fitOk, hn, pos_ne hc, pos_ne hd, nonpos_eq hc, nonpos_eq hd]
  (repeat' (first | rfl | split)) <;> first | rfl | (exfalso; omega) | (simp_all; done)
set_option maxHeartbeats 1000000 in
theorem rl22 (b c d e : Int) (l : List Int) (hc : 0 ≤ c) (hd : 0 ≤ d) : parapetref04_Lawful.f 9 22 b c d e l = some (law 22 b c d e (l.length : Int)) := by
  obtain ⟨n, hn⟩ : ∃ n, (l.length : Int) = n := ⟨_, rfl⟩
  simp [parapetref04_Lawful.f, parapetref04_Lawful.j0, parapetref04_Lawful.j1, parapetref04_Lawful.j2, parapetref04_Lawful.j3, parapetref04_Lawful.j4, parapetref04_Host.f, parapetref04_Device.f, parapetref04_data.f, parapetref04_data.j0, law, lawF, form, lenOk, fitOk, hn, pos_ne hc, pos_ne hd, nonpos_eq hc, nonpos_eq hd]
  (repeat' (first | rfl | split)) <;> first | rfl | (exfalso; omega) | (simp_all; done)
theorem rl0 {a : Int} (b c d e : Int) (l : List Int) (h : a ≠ 1 ∧ a ≠ 2 ∧ a ≠ 17 ∧ a ≠ 3 ∧ a ≠ 18 ∧ a ≠ 19 ∧ a ≠ 4 ∧ a ≠ 20 ∧ a ≠ 5 ∧ a ≠ 21 ∧ a ≠ 22) : parapetref04_Lawful.f 9 a b c d e l = some (law a b c d e (l.length : Int)) := by
  have f0 : law a b c d e (l.length : Int) = 43 := by
    obtain ⟨h1, h2, h3, h4, h5, h6, h7, h8, h9, h10, h11⟩ := h
    simp [law, lawF, form, *]
  have q1 : parapetref04_Host.f a = some false := by
    unfold parapetref04_Host.f
    split
    · rw [decide_eq_false (by omega)]
    · rfl
  have q2 : parapetref04_Device.f a = some false := by
    unfold parapetref04_Device.f
    split
    · rw [decide_eq_false (by omega)]
    · rfl
  rw [f0]
  obtain ⟨h1, h2, h3, h4, h5, h6, h7, h8, h9, h10, h11⟩ := h
  simp [parapetref04_Lawful.f, parapetref04_Lawful.j0, parapetref04_Lawful.j1, parapetref04_Lawful.j2, *]
theorem rlawful_ev (a b c d e : Int) (l : List Int) (hc : 0 ≤ c) (hd : 0 ≤ d) : Ev (fun k => parapetref04_Lawful.f k a b c d e l) (law a b c d e (l.length : Int)) := by
  refine Ev.of (parapetref04_Lawful.mono a b c d e l) (k := 9) ?_
  rcases kinds a with (h | h | h | h | h | h | h | h | h | h | h) | h
  · subst h; exact rl1 b c d e l hc hd
  · subst h; exact rl2 b c d e l hc hd
  · subst h; exact rl17 b c d e l hc hd
  · subst h; exact rl3 b c d e l hc hd
  · subst h; exact rl18 b c d e l hc hd
  · subst h; exact rl19 b c d e l hc hd
  · subst h; exact rl4 b c d e l hc hd
  · subst h; exact rl20 b c d e l hc hd
  · subst h; exact rl5 b c d e l hc hd
  · subst h; exact rl21 b c d e l hc hd
  · subst h; exact rl22 b c d e l hc hd
  · exact rl0 b c d e l h
theorem rencode_ev {a b c d e : Int} {l : List Int} (hb : By l) (hc : 0 ≤ c) (hd : 0 ≤ d) (h : law a b c d e (l.length : Int) = 0) : Ev (fun k => parapetref04_Encode.f k a b c d e l) (sealed (body a b c d e l), 0) := by
  obtain ⟨_, _, _, _, hl⟩ := law_zero h
  unfold parapetref04_Encode.f
  refine Ev.bind (rlawful_ev a b c d e l hc hd) (Ev_ite_pos h ?_)
  refine Ev_some ?_
  rw [rword_f]
  refine Ev_some (Ev_ite_pos (by simp [word4]) (Ev_some ?_))
  rw [rword_f]
  refine Ev_some (Ev_ite_pos (by simp [word4]) (Ev_some ?_))
  rw [rword_f]
  refine Ev_some (Ev_ite_pos (by simp [word4]) (Ev_some (Ev_some (Ev_ite_pos (by simp [word4]) (Ev_some (Ev_ite_pos (by simp [word4]; omega) ?_))))))
  exact Ev.bind (rseal_ev (body_by a b c d e hb) (by have := body_length a b c d e l; show (body a b c d e l).length ≤ _; omega)) (Ev.now _)
theorem rencode_no {a b c d e : Int} {l : List Int} (hc : 0 ≤ c) (hd : 0 ≤ d) (h : law a b c d e (l.length : Int) ≠ 0) : Ev (fun k => parapetref04_Encode.f k a b c d e l) ([], law a b c d e (l.length : Int)) := by
  unfold parapetref04_Encode.f
  exact Ev.bind (rlawful_ev a b c d e l hc hd) (Ev_ite_neg h (Ev.now _))
theorem xor8 {a b : Nat} (ha : a < 256) (hb : b < 256) : bits .xor .u8 (a : Int) (b : Int) = ((a ^^^ b : Nat) : Int) := u8_xor_nat a b (by omega) (by omega)
theorem shr128 {j : Nat} (h : j < 8) : shr .u8 128 (j : Int) = ((2 ^ (7 - j) : Nat) : Int) := by
  have h1 : ∀ j : Fin 8, shr .u8 128 ((j.val : Nat) : Int) = ((2 ^ (7 - j.val) : Nat) : Int) := by decide +kernel
  exact h1 ⟨j, h⟩
def flip (l : List Int) (k : Nat) : List Int := l.set (k / 8) (bits .xor .u8 (rd l ((k / 8 : Nat) : Int)) (shr .u8 128 ((k % 8 : Nat) : Int)))
theorem flip_length (l : List Int) (k : Nat) : (flip l k).length = l.length := by unfold flip; rw [List.length_set]
theorem flip_both : ∀ (l : List Int) (k : Nat), By l → k < 8 * l.length → By (flip l k) ∧ pol (flip l k) = pol l ^^^ 2 ^ (8 * l.length - 1 - k) := by
  intro l
  induction l with
  | nil => intro k _ h; simp at h
  | cons c l ih =>
    intro k hb hk
    by_cases h : k < 8
    · have e0 : k / 8 = 0 := by omega
      have e1 : k % 8 = k := by omega
      have hc := hb.head
      obtain ⟨n, rfl⟩ : ∃ n : Nat, c = (n : Int) := ⟨c.toNat, by omega⟩
      have hp : 2 ^ (7 - k) < 256 := by
        have : 2 ^ (7 - k) < 2 ^ 8 := Nat.pow_lt_pow_right (by omega) (by omega)
        simpa using this
      have hn : n < 256 := by omega
      have hx : n ^^^ 2 ^ (7 - k) < 256 := Nat.xor_lt_two_pow (n := 8) hn hp
      have er : rd ((n : Int) :: l) ((0 : Nat) : Int) = (n : Int) := by unfold rd; simp
      have hf : flip ((n : Int) :: l) k = ((n ^^^ 2 ^ (7 - k) : Nat) : Int) :: l := by
        unfold flip
        rw [e0, e1, er, shr128 h, xor8 hn hp]
        rfl
      rw [hf]
      constructor
      · intro x hx'
        rcases List.mem_cons.1 hx' with rfl | hx'
        · omega
        · exact hb.tail x hx'
      · rw [pol_cons, pol_cons, Int.toNat_natCast, Int.toNat_natCast, add_eq_xor (pol_lt hb.tail), add_eq_xor (pol_lt hb.tail), xor_shift, ← Nat.pow_add, List.length_cons]
        rw [show 7 - k + 8 * l.length = 8 * (l.length + 1) - 1 - k from by omega, Nat.xor_assoc, Nat.xor_assoc, Nat.xor_comm (2 ^ _)]
    · have e0 : k / 8 = (k - 8) / 8 + 1 := by omega
      have e1 : k % 8 = (k - 8) % 8 := by omega
      rw [List.length_cons] at hk
      obtain ⟨h1, h2⟩ := ih (k - 8) hb.tail (by omega)
      have er : rd (c :: l) ((((k - 8) / 8 + 1 : Nat)) : Int) = rd l (((k - 8) / 8 : Nat) : Int) := by
        unfold rd; rw [Int.toNat_natCast, Int.toNat_natCast, List.getD_cons_succ]
      have hf : flip (c :: l) k = c :: flip l (k - 8) := by
        unfold flip
        rw [e0, e1, er]
        rfl
      rw [hf]
      have hxl : pol l ^^^ 2 ^ (8 * l.length - 1 - (k - 8)) < 2 ^ (8 * l.length) := Nat.xor_lt_two_pow (pol_lt hb.tail) (Nat.pow_lt_pow_right (by omega) (by omega))
      constructor
      · intro x hx'
        rcases List.mem_cons.1 hx' with rfl | hx'
        · exact hb.head
        · exact h1 x hx'
      · rw [pol_cons, pol_cons, flip_length, h2, add_eq_xor hxl, add_eq_xor (pol_lt hb.tail), List.length_cons, Nat.xor_assoc]
        rw [show 8 * l.length - 1 - (k - 8) = 8 * (l.length + 1) - 1 - k from by omega]
theorem odd_cancel {m : Nat} (hm : m % 2 = 1) : ∀ (e x : Nat), Cong m (x * 2 ^ e) 0 → Cong m x 0 := by
  intro e
  induction e with
  | zero => intro x h; simpa using h
  | succ e ih =>
    intro x h
    apply ih
    rw [Nat.pow_succ, ← Nat.mul_assoc] at h
    generalize x * 2 ^ e = y at h ⊢
    obtain ⟨a, ha⟩ := h
    rw [Nat.xor_zero] at ha
    have h2 : (cm m a) % 2 = a % 2 := by
      rw [cm_comm, cm_eq, if_pos hm, xor_mod2]; omega
    have ha2 : a = 2 * (a / 2) := by omega
    rw [ha2, cm_dbl] at ha
    exact ⟨a / 2, by rw [Nat.xor_zero]; omega⟩
theorem burst_seen {w e : Nat} (h0 : w ≠ 0) (hw : w < 2 ^ 32) : pm G 32 (w * 2 ^ e) ≠ 0 := by
  intro h
  have h1 := pm_cong G 32 (w * 2 ^ e)
  rw [h] at h1
  have h2 := odd_cancel (m := G) (by unfold G; omega) e w h1
  have h3 := pm_eq_of_cong G1 G2 h2
  rw [pm_small G1 G2 hw, pm_zero] at h3
  exact h0 h3
theorem crc_xor {l l' : List Int} {p : Nat} (h : pol l' = pol l ^^^ p) (hl : crc l = 0) : crc l' = pm G 32 (p * 2 ^ 32) := by
  unfold crc at hl ⊢
  rw [h, xor_shift, pm_xor G1 G2, hl, Nat.zero_xor]
theorem u_nat (x : Int) : ∃ a : Nat, IntKind.u64.wrap x = (a : Int) := ⟨(x % 18446744073709551616).toNat, by rw [wrap_u64]; omega⟩
theorem w_mod {a r : Nat} (h0 : 0 < r) (h : r < 4611686018427387904) : wrap64 (Int.tmod (a : Int) (r : Int)) = ((a % r : Nat) : Int) := by
  have hlt := Nat.mod_lt a h0
  rw [Int.tmod_eq_emod_of_nonneg (by omega), ← Int.natCast_emod, wrap64_id (by omega) (by omega)]
def wt : Nat → Nat → Nat
  | 0, _ => 0
  | n + 1, x => x % 2 + wt n (x / 2)
theorem red3 (r b : Nat) (hr : r < 2) (hb : b < 2) : red 3 1 (2 * r ^^^ b) = (b + r) % 2 := by
  have h : ∀ r, r < 2 → ∀ b, b < 2 → red 3 1 (2 * r ^^^ b) = (b + r) % 2 := by decide +kernel
  exact h r hr b hb
theorem pm3 : ∀ (n p : Nat), p < 2 ^ n → pm 3 1 p = wt n p % 2 := by
  intro n
  induction n with
  | zero => intro p hp; obtain rfl : p = 0 := by omega
            rw [pm_zero]; rfl
  | succ n ih =>
    intro p hp
    rw [pm_eq, red3 _ _ (by rw [ih _ (by omega)]; omega) (by omega), ih _ (by omega)]
    show _ = (p % 2 + wt n (p / 2)) % 2
    omega
theorem size_loop (b : List Int) (at' : Int) (w : Nat) (hw : w < 2 ^ 32) (r : List Int × Bool) 
    (h : Ev (fun k => if ((len w : Nat) : Int) = 0 then (parapethand_Burst.j1 k b at' (w : Int) ((len w : Nat) : Int) (wrap64 ((wrap64 ((wrap64 (8 * (b.length : Int))) - ((len w : Nat) : Int))) + 1)) true) else (parapethand_Burst.j1 k b at' (w : Int) ((len w : Nat) : Int) (wrap64 ((wrap64 ((wrap64 (8 * (b.length : Int))) - ((len w : Nat) : Int))) + 1)) (decide ((wrap64 ((wrap64 ((wrap64 (8 * (b.length : Int))) - ((len w : Nat) : Int))) + 1)) < 1)))) r) :
    ∀ (n i : Nat), i + n = 32 → Ev (fun k => parapethand_Burst.l0 k b at' (w : Int) ((len (w % 2 ^ i) : Nat) : Int) (i : Int)) r := by
  intro n
  induction n with
  | zero =>
    intro i hi
    obtain rfl : i = 32 := by omega
    refine Ev.step (fun k => parapethand_Burst.l0.eq_2 ..) (Ev_ite_neg (by omega) ?_)
    rw [Nat.mod_eq_of_lt hw]
    exact h
  | succ n ih =>
    intro i hi
    have e : wrap64 ((i : Int) + 1) = ((i + 1 : Nat) : Int) := by rw [wrap64_id (by omega) (by omega)]; omega
    refine Ev.step (fun k => parapethand_Burst.l0.eq_2 ..) (Ev_ite_pos (by omega) (Ev_ite_pos (by omega) ?_))
    rw [e]
    have g := ih (i + 1) (by omega)
    have hm : w % 2 ^ (i + 1) = (w.testBit i).toNat * 2 ^ i + w % 2 ^ i := by
      have hh := (halves w i).1
      rw [Nat.pow_succ, Nat.mod_mul, hh, Nat.mul_comm]; omega
    have hlt : w % 2 ^ i < 2 ^ i := Nat.mod_lt _ (Nat.two_pow_pos i)
    by_cases c : w.testBit i = true
    · refine Ev_ite_neg (by rw [bit32_zero hw (by omega), c]; simp) ?_
      rw [c] at hm
      simp only [Bool.toNat_true, Nat.one_mul] at hm
      have : len (w % 2 ^ (i + 1)) = i + 1 := len_iff.2 ⟨by omega, Nat.mod_lt _ (Nat.two_pow_pos _)⟩
      rw [this] at g
      exact g
    · have c' : w.testBit i = false := by simpa using c
      refine Ev_ite_pos ((bit32_zero hw (by omega)).2 c') ?_
      rw [c'] at hm
      simp only [Bool.toNat_false, Nat.zero_mul, Nat.zero_add] at hm
      rw [hm] at g
      exact g
structure Hd (p : Prop) : Prop where
  out : p
def Parted (b l : List Int) (x : Nat) : Prop := pol l = pol b ^^^ x
theorem burst_loop (w n s f t : Nat) (hw : w < 2 ^ 32) (hs : len w = s) (ht : f + s + t = 8 * n) (hn : 8 * n < 1000000) (b : List Int) :
    ∀ (m i : Nat) (l : List Int), i + m = s → l.length = n → By l → Parted b l ((w / 2 ^ (s - i)) * 2 ^ (t + (s - i))) →
    ∃ l', l'.length = n ∧ By l' ∧ Parted b l' (w * 2 ^ t) ∧ Ev (fun k => parapethand_Burst.l1 k (w : Int) (s : Int) (f : Int) l (i : Int)) (l', true) := by
  have hs32 : s ≤ 32 := by rw [← hs]; exact len_le hw
  intro m
  induction m with
  | zero =>
    intro i l hi hl hb hp
    obtain rfl : i = s := by omega
    refine ⟨l, hl, hb, ?_, Ev.step (fun k => parapethand_Burst.l1.eq_2 ..) (Ev_ite_neg (by omega) (Ev.now _))⟩
    rw [Nat.sub_self, Nat.pow_zero, Nat.div_one, Nat.add_zero] at hp
    exact hp
  | succ m ih =>
    intro i l hi hl hb hp
    have hsi : i < s := by omega
    have hfi : f + i < 8 * n := by omega
    have him : i + 1 + m = s := by omega
    clear hi
    have key : (w / 2 ^ (s - (i + 1))) * 2 ^ (t + (s - (i + 1))) = (w / 2 ^ (s - i)) * 2 ^ (t + (s - i)) ^^^ (w.testBit (s - 1 - i)).toNat * 2 ^ (t + (s - 1 - i)) := by
      have hh := halves w (s - 1 - i)
      have q1 : s - 1 - i + 1 = s - i := by clear hh; omega
      have q2 : s - (i + 1) = s - 1 - i := by clear hh; omega
      have q3 : t + (s - i) = 1 + (t + (s - 1 - i)) := by clear hh; omega
      rw [q1] at hh
      rw [q2, q3, Nat.pow_add 2 1, ← Nat.mul_assoc, ← xor_shift, Nat.pow_one, ← hh.2, ← hh.1, Nat.xor_comm, Nat.mul_comm _ 2]
      rw [← split_bit (w / 2 ^ (s - 1 - i))]
    have Key := Hd.mk key
    clear key
    by_cases c : w.testBit (s - 1 - i) = true
    · have hf := flip_both l (f + i) hb (by omega)
      have Hf2 := Hd.mk hf.2
      have hf1 := hf.1
      clear hf
      obtain ⟨l', g1, g2, g3, g4⟩ := ih (i + 1) (flip l (f + i)) him (by rw [flip_length]; exact hl) hf1 (by
        unfold Parted at hp ⊢
        rw [Hf2.out, hp, Key.out, c, Bool.toNat_true, Nat.one_mul, Nat.xor_assoc, hl]
        have q : 8 * n - 1 - (f + i) = t + (s - 1 - i) := by clear Hf2 hp Key; omega
        rw [q])
      refine ⟨l', g1, g2, g3, ?_⟩
      clear g1 g2 g3 hf1 Hf2 hp Key
      refine Ev.step (fun k => parapethand_Burst.l1.eq_2 ..) (Ev_ite_pos (by omega) ?_)
      rw [w_sub2 hsi (by omega), w_add (by omega), w_div8 (by omega), t_mod8, w_succ (by omega)]
      refine Ev_ite_pos (by omega) (Ev_ite_neg (by rw [bit32_zero hw (by omega), c]; simp) (Ev_ite_pos (by omega) (Ev_ite_pos (by omega) (Ev_ite_pos (by omega) ?_))))
      rw [Int.toNat_natCast]
      exact g4
    · have c' : w.testBit (s - 1 - i) = false := by simpa using c
      obtain ⟨l', g1, g2, g3, g4⟩ := ih (i + 1) l him hl hb (by
        unfold Parted at hp ⊢
        rw [hp, Key.out, c', Bool.toNat_false, Nat.zero_mul, Nat.xor_zero])
      refine ⟨l', g1, g2, g3, ?_⟩
      clear g1 g2 g3 hp Key
      refine Ev.step (fun k => parapethand_Burst.l1.eq_2 ..) (Ev_ite_pos (by omega) ?_)
      rw [w_sub2 hsi (by omega), w_succ (by omega)]
      exact Ev_ite_pos (by omega) (Ev_ite_pos ((bit32_zero hw (by omega)).2 c') g4)
theorem w_room {n s : Nat} (hn : n ≤ 5000) (hs : s ≤ 32) : wrap64 ((wrap64 ((wrap64 (8 * (n : Int))) - (s : Int))) + 1) = 8 * (n : Int) - (s : Int) + 1 := by
  rw [wrap64_id (n := 8 * (n : Int)) (by omega) (by omega), wrap64_id (n := 8 * (n : Int) - (s : Int)) (by omega) (by omega), wrap64_id (by omega) (by omega)]
theorem u_room {n s : Nat} (hn : n ≤ 5000) (hs : s ≤ 8 * n) : IntKind.u64.wrap (8 * (n : Int) - (s : Int) + 1) = ((8 * n + 1 - s : Nat) : Int) := by rw [wrap_u64]; omega
theorem burst_start {b : List Int} (hl : b.length ≤ 5000) {at' : Int} {w : Nat} (hw : w < 2 ^ 32) (r : List Int × Bool)
    (h : Ev (fun k => if ((len w : Nat) : Int) = 0 then (parapethand_Burst.j1 k b at' (w : Int) ((len w : Nat) : Int) (8 * (b.length : Int) - ((len w : Nat) : Int) + 1) true) else (parapethand_Burst.j1 k b at' (w : Int) ((len w : Nat) : Int) (8 * (b.length : Int) - ((len w : Nat) : Int) + 1) (decide ((8 * (b.length : Int) - ((len w : Nat) : Int) + 1) < 1)))) r) :
    Ev (fun k => parapethand_Burst.f k b at' (w : Int)) r := by
  have := size_loop b at' w hw r (by rw [w_room hl (len_le hw)]; exact h) 32 0 rfl
  rw [Nat.pow_zero, Nat.mod_one, len_zero] at this
  exact this
theorem burst_no {b : List Int} {at' x : Int} {w : Nat} : Ev (fun k => parapethand_Burst.j1 k b at' (w : Int) ((len w : Nat) : Int) x true) ([], false) :=
  Ev.step (fun _ => parapethand_Burst.j1.eq_2 ..) (Ev_ite_pos rfl (Ev.now _))
theorem burst_ev {b : List Int} (hb : By b) (hl : b.length ≤ 5000) {at' : Int} {w : Nat} (hw : w < 2 ^ 32) :
    Ev (fun k => parapethand_Burst.f k b at' (w : Int)) ([], false) ∨
    ∃ l' t, w ≠ 0 ∧ l'.length = b.length ∧ By l' ∧ Parted b l' (w * 2 ^ t) ∧ Ev (fun k => parapethand_Burst.f k b at' (w : Int)) (l', true) := by
  have hlw := len_le hw
  by_cases z : len w = 0
  · exact .inl (burst_start hl hw _ (Ev_ite_pos (by omega) burst_no))
  by_cases c : 8 * b.length < len w
  · exact .inl (burst_start hl hw _ (Ev_ite_neg (by omega) (by rw [decide_eq_true (by omega)]; exact burst_no)))
  · refine .inr ?_
    have hw0 : w ≠ 0 := by intro h; subst h; exact z rfl
    obtain ⟨a, ha⟩ := u_nat at'
    have hr : 0 < 8 * b.length + 1 - len w := by omega
    have hr2 : 8 * b.length + 1 - len w < 4611686018427387904 := by omega
    have hfs : a % (8 * b.length + 1 - len w) + len w ≤ 8 * b.length := by
      have := Nat.mod_lt a hr
      omega
    obtain ⟨f, hfe⟩ : ∃ f, a % (8 * b.length + 1 - len w) = f := ⟨_, rfl⟩
    have hwm := w_mod (a := a) hr hr2
    rw [hfe] at hfs hwm
    have Hwm := Hd.mk hwm
    have Ha := Hd.mk ha
    clear hwm ha hfe
    obtain ⟨l', g1, g2, g3, g4⟩ := burst_loop w b.length (len w) f (8 * b.length - f - len w) hw rfl (by omega) (by omega) b (len w) 0 b (by omega) rfl hb (by
      unfold Parted
      rw [Nat.sub_zero, Nat.div_eq_of_lt (lt_of_len (Nat.le_refl _)), Nat.zero_mul, Nat.xor_zero])
    refine ⟨l', _, hw0, g1, g2, g3, burst_start hl hw _ (Ev_ite_neg (by omega) ?_)⟩
    rw [decide_eq_false (by omega)]
    refine Ev.step (fun k => parapethand_Burst.j1.eq_2 ..) (Ev_ite_neg (by simp) ?_)
    rw [u_room hl (by omega), Ha.out]
    refine Ev_ite_neg (by omega) (Ev_some (Ev_ite_pos (by simp; omega) ?_))
    rw [Hwm.out]
    exact g4
theorem par_shift (x n : Nat) : pm 3 1 (x * 2 ^ n) = pm 3 1 x := by
  have h1 : (2 : Nat) ^ 1 ≤ 3 := by decide
  have h2 : (3 : Nat) < 2 ^ (1 + 1) := by decide
  induction n with
  | zero => simp
  | succ n ih =>
    have hlt := pm_lt h1 h2 (x * 2 ^ n)
    have e : pm 3 1 (x * 2 ^ (n + 1)) = red 3 1 (2 * pm 3 1 (x * 2 ^ n) ^^^ 0) := by
      rw [← pm_bit _ _ _ _ (by omega), Nat.pow_succ, ← Nat.mul_assoc, Nat.mul_comm 2, Nat.add_zero]
    rw [e, ih] at *
    have h : ∀ r, r < 2 → red 3 1 (2 * r ^^^ 0) = r := by decide +kernel
    exact h _ hlt
theorem par_pow (n : Nat) : pm 3 1 (2 ^ n) = 1 := by
  have := par_shift 1 n
  have h1 : pm 3 1 1 = 1 := pm_small (by decide) (by decide) (by decide)
  rw [Nat.one_mul, h1] at this
  exact this
theorem par_G : pm 3 1 G = 0 := by
  have h : pm 3 1 G = wt 33 G % 2 := pm3 33 G G2
  rw [h]; decide
theorem par_cm (a : Nat) : pm 3 1 (cm G a) = 0 := by
  rw [← pm_mul (by decide) (by decide), par_G, zero_cm, pm_zero]
theorem odd_seen {x : Nat} (h : pm 3 1 x = 1) : pm G 32 (x * 2 ^ 32) ≠ 0 := by
  intro e
  have h1 := pm_cong G 32 (x * 2 ^ 32)
  rw [e] at h1
  obtain ⟨a, ha⟩ := h1
  rw [Nat.xor_zero] at ha
  have h2 := par_shift x 32
  rw [ha, par_cm, h] at h2
  cases h2
def Parity (l l' : List Int) (n : Nat) : Prop := ∃ x, pol l' = pol l ^^^ x ∧ pm 3 1 x = n % 2
theorem turned_loop (s : List Int) (n : Nat) (hn : 8 * n < 1000000) : ∀ (ps pre l : List Int), (∀ p ∈ ps, 0 ≤ p ∧ p < 8 * (n : Int)) → (pre ++ ps).length ≤ 1000000 → l.length = n → By l → Parity s l pre.length →
    ∃ l', l'.length = n ∧ By l' ∧ Parity s l' (pre ++ ps).length ∧ Ev (fun k => parapethand_Turned.l0 k (pre ++ ps) l (pre.length : Int)) l' := by
  intro ps
  induction ps with
  | nil =>
    intro pre l _ _ hl hb hp
    exact ⟨l, hl, hb, by simpa using hp, Ev.step (fun k => parapethand_Turned.l0.eq_2 ..) (Ev_ite_neg (by simp) (Ev.now _))⟩
  | cons p ps ih =>
    intro pre l hps hlen hl hb hp
    obtain ⟨q, rfl, hq⟩ : ∃ q : Nat, p = (q : Int) ∧ q < 8 * n := by
      have := hps p (List.mem_cons_self ..)
      exact ⟨p.toNat, by omega, by omega⟩
    have hf := flip_both l q hb (by omega)
    obtain ⟨l', g1, g2, g3, g4⟩ := ih (pre ++ [(q : Int)]) (flip l q) (fun x hx => hps x (List.mem_cons_of_mem _ hx)) (by simpa using hlen) (by rw [flip_length]; exact hl) hf.1 (by
      obtain ⟨x, h1, h2⟩ := hp
      refine ⟨x ^^^ 2 ^ (8 * l.length - 1 - q), by rw [hf.2, h1, Nat.xor_assoc], ?_⟩
      rw [pm_xor (by decide) (by decide), h2, par_pow, List.length_append, List.length_singleton]
      rcases Nat.mod_two_eq_zero_or_one pre.length with h3 | h3
      · rw [h3, show (pre.length + 1) % 2 = 1 from by omega]; decide
      · rw [h3, show (pre.length + 1) % 2 = 0 from by omega]; decide)
    rw [List.append_assoc, List.singleton_append] at g3 g4
    refine ⟨l', g1, g2, g3, ?_⟩
    clear g1 g2 g3 hp hf ih hb
    have hlt : ((pre.length : Nat) : Int) < ((pre ++ (q : Int) :: ps).length : Int) := by simp; omega
    refine Ev.step (fun k => parapethand_Turned.l0.eq_2 ..) (Ev_ite_pos hlt (Ev_ite_pos (by omega) ?_))
    rw [rd_at, w_div8 (by omega), t_mod8]
    refine Ev_ite_pos (by omega) (Ev_ite_pos (by omega) (Ev_ite_pos (by omega) ?_))
    rw [Int.toNat_natCast, w_succ (by simp at hlen; omega)]
    have e : ((pre ++ [(q : Int)]).length : Int) = ((pre.length + 1 : Nat) : Int) := by simp
    rw [e] at g4
    exact g4
theorem u_id {N : Nat} (h : N < 1000000) : IntKind.u64.wrap (N : Int) = (N : Int) := by rw [wrap_u64]; omega
theorem place_ne {N : Nat} (h0 : 0 < N) (h : N < 1000000) : ¬ IntKind.u64.wrap (N : Int) = 0 := by rw [u_id h]; omega
theorem place_at {N : Nat} (h0 : 0 < N) (h : N < 1000000) (x : Int) : ∃ q : Nat, wrap64 (Int.tmod (IntKind.u64.wrap x) (IntKind.u64.wrap (N : Int))) = (q : Int) ∧ q < N := by
  obtain ⟨a, ha⟩ := u_nat x
  exact ⟨a % N, by rw [ha, u_id h, w_mod h0 (by omega)], Nat.mod_lt _ h0⟩
theorem places_loop (N : Nat) (h0 : 0 < N) (hN : N < 1000000) (src : List Int) (hsrc : src.length ≤ 4000) : ∀ (n i : Nat) (seen : List Bool) (out : List Int), i + n = src.length → seen.length = N → out.length ≤ i → (∀ p ∈ out, 0 ≤ p ∧ p < (N : Int)) →
    ∃ r, (∀ p ∈ r, 0 ≤ p ∧ p < (N : Int)) ∧ r.length ≤ src.length ∧ Ev (fun k => parapethand_Places.l0 k src (N : Int) seen out (i : Int)) r := by
  intro n
  induction n with
  | zero =>
    intro i seen out hi hs ho hp
    refine ⟨out, hp, by omega, Ev.step (fun k => parapethand_Places.l0.eq_2 ..) (Ev_ite_neg (by omega) (Ev.now _))⟩
  | succ n ih =>
    intro i seen out hi hs ho hp
    obtain ⟨q, hq0, hm⟩ := place_at h0 (by omega) (rd src (i : Int))
    have hq := Hd.mk hq0
    clear hq0
    by_cases c : rdOf false seen ((q : Nat) : Int) = true
    · obtain ⟨r, r1, r2, r3⟩ := ih (i + 1) seen out (by omega) hs (by omega) hp
      refine ⟨r, r1, r2, ?_⟩
      refine Ev.step (fun k => parapethand_Places.l0.eq_2 ..) (Ev_ite_pos (by omega) (Ev_ite_pos (by omega) (Ev_ite_neg (place_ne h0 (by omega)) ?_)))
      rw [hq.out, w_succ (by omega)]
      exact Ev_ite_pos (by omega) (Ev_ite_pos (by omega) (Ev_ite_pos c r3))
    · obtain ⟨r, r1, r2, r3⟩ := ih (i + 1) (seen.set q true) (out ++ [((q : Nat) : Int)]) (by omega) (by rw [List.length_set]; exact hs) (by rw [List.length_append, List.length_singleton]; omega) (by
        intro p hp'
        rcases List.mem_append.1 hp' with h | h
        · exact hp p h
        · rw [List.mem_singleton.1 h]; omega)
      refine ⟨r, r1, r2, ?_⟩
      refine Ev.step (fun k => parapethand_Places.l0.eq_2 ..) (Ev_ite_pos (by omega) (Ev_ite_pos (by omega) (Ev_ite_neg (place_ne h0 (by omega)) ?_)))
      rw [hq.out, w_succ (by omega)]
      refine Ev_ite_pos (by omega) (Ev_ite_pos (by omega) (Ev_ite_neg c (Ev_ite_pos (by omega) ?_)))
      rw [Int.toNat_natCast]
      exact r3
theorem places_ev {N : Nat} (h0 : 0 < N) (hN : N < 1000000) {src : List Int} (hsrc : src.length ≤ 4000) :
    ∃ r, (∀ p ∈ r, 0 ≤ p ∧ p < (N : Int)) ∧ r.length ≤ src.length ∧ Ev (fun k => parapethand_Places.f k src (N : Int)) r := by
  obtain ⟨r, r1, r2, r3⟩ := places_loop N h0 hN src hsrc src.length 0 (List.replicate N false) [] (by omega) (by simp) (by simp) (by simp)
  refine ⟨r, r1, r2, ?_⟩
  unfold parapethand_Places.f
  refine Ev_ite_neg (by omega) (Ev_ite_pos (by omega) (Ev_ite_pos (by omega) ?_))
  rw [Int.toNat_natCast]
  exact r3
theorem turned_ev {s ps : List Int} (hb : By s) (hl : s.length ≤ 5000) (hp : ∀ p ∈ ps, 0 ≤ p ∧ p < 8 * (s.length : Int)) (hps : ps.length ≤ 4000) :
    ∃ l', l'.length = s.length ∧ By l' ∧ Parity s l' ps.length ∧ Ev (fun k => parapethand_Turned.f k s ps) l' := by
  obtain ⟨l', g1, g2, g3, g4⟩ := turned_loop s s.length (by omega) ps [] s hp (by simp; omega) rfl hb ⟨0, by simp, by rw [pm_zero]; rfl⟩
  refine ⟨l', g1, g2, g3, ?_⟩
  unfold parapethand_Turned.f
  exact Ev_some (Ev_ite_pos (by simp; omega) g4)
end Go.Proofs.Ytlafkeijikbenac.Pure
