/- Lemmas on the printed functions: what each comes to, over plain numbers and lists. -/
import Derived.Test.YtcnlomknmhgpbaaPSx1
import Derived.Test.YtcnlomknmhgpbaaPSx2
import Derived.Test.YtcnlomknmhgpbaaBt
namespace Go.Proofs.Ytcnlomknmhgpbaa.Pure
open Go Go.RowKit Go.Proofs.Ytcnlomknmhgpbaa.PS Go.Proofs.YtcnlomknmhgpbaaW.PrintWords Go.Proofs.YtcnlomknmhgpbaaW.PrintLast Go.Proofs.YtcnlomknmhgpbaaW.PrintMore
open Go.Proofs.Ytcnlomknmhgpbaa.Gf Go.Proofs.Ytcnlomknmhgpbaa.Bt
theorem step_round {s : Nat} (h : s < 2 ^ 32) : (if ((s : Int) / 2147483648) = 0 then (((s : Int) * 2) % 4294967296) else (Go.bits .xor .u32 (((s : Int) * 2) % 4294967296) 517762881)) = ((pm G 32 (2 * s) : Nat) : Int) := by
  have h2 : 2 * s < 2 ^ (32 + 1) := by omega
  rw [pm_red G1 G2 h2]
  unfold red
  rw [testBit_top h2]
  by_cases c : s < 2147483648
  · rw [if_pos (by omega), if_neg (by simp; omega)]; omega
  · rw [if_neg (by omega), if_pos (by simp; omega)]
    have e1 : ((s : Int) * 2) % 4294967296 = ((2 * s - 2 ^ 32 : Nat) : Int) := by omega
    rw [e1, show (517762881 : Int) = ((517762881 : Nat) : Int) from rfl, xor32 (by omega) (by omega)]
    have e2 : 2 * s = 1 * 2 ^ 32 ^^^ (2 * s - 2 ^ 32) := by rw [← add_eq_xor (by omega)]; omega
    have e3 : G = 1 * 2 ^ 32 ^^^ 517762881 := by rw [← add_eq_xor (by omega)]; rfl
    conv => rhs; rw [e2, e3, xor4, Nat.xor_self, Nat.zero_xor]
theorem step_loop : ∀ (n i s : Nat), i + n = 8 → s < 2 ^ 32 → Ev (fun k => crc_step.l0 k (s : Int) (i : Int)) ((pm G 32 (s * 2 ^ n) : Nat) : Int) := by
  intro n
  induction n with
  | zero =>
    intro i s hi hs
    refine Ev.step (fun k => crc_step.l0.eq_2 ..) ?_
    refine Ev_ite_neg (by omega) ?_
    rw [Nat.pow_zero, Nat.mul_one, pm_small G1 G2 hs]
    exact Ev.now _
  | succ n ih =>
    intro i s hi hs
    refine Ev.step (fun k => crc_step.l0.eq_2 ..) ?_
    refine Ev_ite_pos (by omega) ?_
    have e : wrap64 ((i : Int) + 1) = ((i + 1 : Nat) : Int) := by rw [wrap64_id (by omega) (by omega)]; omega
    rw [e]
    have g := ih (i + 1) (pm G 32 (2 * s)) (by omega) (pm_lt G1 G2 _)
    rw [pm_shift G1 G2, Nat.mul_comm 2 s, Nat.mul_assoc, ← Nat.pow_succ', ← Nat.mul_comm 2 s, ← step_round hs] at g
    by_cases c : ((s : Int) / 2147483648) = 0
    · refine Ev_ite_pos c ?_
      rw [if_pos c] at g; exact g
    · refine Ev_ite_neg c ?_
      rw [if_neg c] at g; exact g
theorem step_ev {s : Nat} {c : Int} (hs : s < 2 ^ 32) (h0 : 0 ≤ c) (h1 : c < 256) : Ev (fun k => crc_step.f k (s : Int) c) ((stp s c.toNat : Nat) : Int) := by
  unfold crc_step.f
  have e : (((c) % 4294967296) * 16777216) % 4294967296 = ((c.toNat * 2 ^ 24 : Nat) : Int) := by omega
  rw [e, xor32 hs (by omega)]
  exact step_loop 8 0 _ rfl (Nat.xor_lt_two_pow hs (by omega))
theorem bits_loop : ∀ (l pre : List Int) (s : Nat), By l → (pre ++ l).length ≤ 140737488355328 → s < 2 ^ 32 →
    Ev (fun k => crc_Bits.l0 k (s : Int) (pre ++ l) ((pre ++ l).length : Int) (pre.length : Int)) ((crcFrom s l : Nat) : Int) := by
  intro l
  induction l with
  | nil =>
    intro pre s _ _ hs
    refine Ev.step (fun k => crc_Bits.l0.eq_2 ..) ?_
    refine Ev_ite_neg (by simp) ?_
    rw [crcFrom_nil hs]; exact Ev.now _
  | cons c l ih =>
    intro pre s hb hl hs
    have hc := hb.head
    refine Ev.step (fun k => crc_Bits.l0.eq_2 ..) ?_
    have hlt : ((pre.length : Nat) : Int) < ((pre ++ c :: l).length : Int) := by simp; omega
    refine Ev_ite_pos hlt (Ev_ite_pos (by omega) (Ev_ite_pos hlt ?_))
    rw [rd_at]
    refine Ev.bind (step_ev hs hc.1 hc.2) ?_
    rw [crcFrom_cons s c hb.tail]
    have g := ih (pre ++ [c]) (stp s c.toNat) hb.tail (by simpa using hl) (pm_lt G1 G2 _)
    have e : wrap64 ((pre.length : Int) + 1) = ((pre ++ [c]).length : Int) := by
      rw [wrap64_id (by omega) (by simp at hl; omega)]; simp
    rw [e]
    simpa using g
theorem bits_ev {l : List Int} (hb : By l) (hl : l.length ≤ 140737488355328) : Ev (fun k => crc_Bits.f k l) ((crc l : Nat) : Int) := by
  have := bits_loop l [] 0 hb hl (by omega)
  rw [crcFrom_zero] at this
  exact this
theorem generator_f : crc_Generator.f = some ((G : Nat) : Int) := rfl

/-- how many bits a number has -/
def len (a : Nat) : Nat := if a = 0 then 0 else a.log2 + 1
theorem len_zero : len 0 = 0 := rfl
theorem len_iff {a n : Nat} : len a = n + 1 ↔ 2 ^ n ≤ a ∧ a < 2 ^ (n + 1) := by
  unfold len
  by_cases h : a = 0
  · subst h
    have := Nat.two_pow_pos n
    simp
  · rw [if_neg h]
    have h1 := Nat.log2_self_le h
    have h2 := @Nat.lt_log2_self a
    constructor
    · intro e
      have : a.log2 = n := by omega
      subst this; exact ⟨h1, h2⟩
    · intro ⟨u, v⟩
      have e1 : a.log2 < n + 1 := (Nat.log2_lt h).2 v
      have e2 : n ≤ a.log2 := (Nat.le_log2 h).2 u
      omega
theorem len_pos {a : Nat} (h : a ≠ 0) : ∃ n, len a = n + 1 := ⟨a.log2, by simp [len, h]⟩
theorem len_le {a n : Nat} (h : a < 2 ^ n) : len a ≤ n := by
  by_cases z : a = 0
  · subst z; simp [len]
  · obtain ⟨m, hm⟩ := len_pos z
    rw [hm]
    have := (len_iff.1 hm).1
    apply Nat.lt_of_not_le
    intro c
    have := Nat.pow_le_pow_right (n := 2) (by omega) c
    have := Nat.pow_le_pow_right (n := 2) (by omega) (show n ≤ m + 1 - 1 from by omega)
    rw [Nat.add_sub_cancel] at this
    omega
theorem lt_of_len {a n : Nat} (h : len a ≤ n) : a < 2 ^ n := by
  by_cases z : a = 0
  · subst z; exact Nat.two_pow_pos n
  · obtain ⟨m, hm⟩ := len_pos z
    have := (len_iff.1 hm).2
    exact Nat.lt_of_lt_of_le this (Nat.pow_le_pow_right (by omega) (by omega))
theorem len_shift {a s : Nat} (h : a / 2 ^ s ≠ 0) : len a = s + len (a / 2 ^ s) := by
  obtain ⟨n, hn⟩ := len_pos h
  rw [hn]
  obtain ⟨u, v⟩ := len_iff.1 hn
  have hp := Nat.two_pow_pos s
  show len a = (s + n) + 1
  rw [len_iff, Nat.pow_add, show s + n + 1 = s + (n + 1) from rfl, Nat.pow_add 2 s]
  constructor
  · calc 2 ^ s * 2 ^ n ≤ 2 ^ s * (a / 2 ^ s) := Nat.mul_le_mul_left _ u
      _ ≤ a := Nat.mul_div_le _ _
  · rw [Nat.mul_comm]; exact (Nat.div_lt_iff_lt_mul hp).1 v
def tab : ByteArray := ⟨#[0, 1, 2, 2, 3, 3, 3, 3, 4, 4, 4, 4, 4, 4, 4, 4, 5, 5, 5, 5, 5, 5, 5, 5, 5, 5, 5, 5, 5, 5, 5, 5, 6, 6, 6, 6, 6, 6, 6, 6, 6, 6, 6, 6, 6, 6, 6, 6, 6, 6, 6, 6, 6, 6, 6, 6, 6, 6, 6, 6, 6, 6, 6, 6, 7, 7, 7, 7, 7, 7, 7, 7, 7, 7, 7, 7, 7, 7, 7, 7, 7, 7, 7, 7, 7, 7, 7, 7, 7, 7, 7, 7, 7, 7, 7, 7, 7, 7, 7, 7, 7, 7, 7, 7, 7, 7, 7, 7, 7, 7, 7, 7, 7, 7, 7, 7, 7, 7, 7, 7, 7, 7, 7, 7, 7, 7, 7, 7, 8, 8, 8, 8, 8, 8, 8, 8, 8, 8, 8, 8, 8, 8, 8, 8, 8, 8, 8, 8, 8, 8, 8, 8, 8, 8, 8, 8, 8, 8, 8, 8, 8, 8, 8, 8, 8, 8, 8, 8, 8, 8, 8, 8, 8, 8, 8, 8, 8, 8, 8, 8, 8, 8, 8, 8, 8, 8, 8, 8, 8, 8, 8, 8, 8, 8, 8, 8, 8, 8, 8, 8, 8, 8, 8, 8, 8, 8, 8, 8, 8, 8, 8, 8, 8, 8, 8, 8, 8, 8, 8, 8, 8, 8, 8, 8, 8, 8, 8, 8, 8, 8, 8, 8, 8, 8, 8, 8, 8, 8, 8, 8, 8, 8, 8, 8, 8, 8, 8, 8, 8, 8, 8, 8, 8, 8, 8, 8]⟩
theorem tab_all : ∀ c : Fin 256, bt tab ((c.val : Nat) : Int) = ((len c.val : Nat) : Int) := by decide +kernel
theorem tab_len {e : Int} {c : Nat} (he : e = (c : Int)) (h : c < 256) : wrap64 (bt (⟨#[0, 1, 2, 2, 3, 3, 3, 3, 4, 4, 4, 4, 4, 4, 4, 4, 5, 5, 5, 5, 5, 5, 5, 5, 5, 5, 5, 5, 5, 5, 5, 5, 6, 6, 6, 6, 6, 6, 6, 6, 6, 6, 6, 6, 6, 6, 6, 6, 6, 6, 6, 6, 6, 6, 6, 6, 6, 6, 6, 6, 6, 6, 6, 6, 7, 7, 7, 7, 7, 7, 7, 7, 7, 7, 7, 7, 7, 7, 7, 7, 7, 7, 7, 7, 7, 7, 7, 7, 7, 7, 7, 7, 7, 7, 7, 7, 7, 7, 7, 7, 7, 7, 7, 7, 7, 7, 7, 7, 7, 7, 7, 7, 7, 7, 7, 7, 7, 7, 7, 7, 7, 7, 7, 7, 7, 7, 7, 7, 8, 8, 8, 8, 8, 8, 8, 8, 8, 8, 8, 8, 8, 8, 8, 8, 8, 8, 8, 8, 8, 8, 8, 8, 8, 8, 8, 8, 8, 8, 8, 8, 8, 8, 8, 8, 8, 8, 8, 8, 8, 8, 8, 8, 8, 8, 8, 8, 8, 8, 8, 8, 8, 8, 8, 8, 8, 8, 8, 8, 8, 8, 8, 8, 8, 8, 8, 8, 8, 8, 8, 8, 8, 8, 8, 8, 8, 8, 8, 8, 8, 8, 8, 8, 8, 8, 8, 8, 8, 8, 8, 8, 8, 8, 8, 8, 8, 8, 8, 8, 8, 8, 8, 8, 8, 8, 8, 8, 8, 8, 8, 8, 8, 8, 8, 8, 8, 8, 8, 8, 8, 8, 8, 8, 8, 8, 8, 8]⟩ : ByteArray) e) = ((len c : Nat) : Int) := by
  subst he
  have g : bt tab (c : Int) = ((len c : Nat) : Int) := tab_all ⟨c, h⟩
  have b : len c ≤ 8 := len_le (by omega)
  have g' : bt (⟨#[0, 1, 2, 2, 3, 3, 3, 3, 4, 4, 4, 4, 4, 4, 4, 4, 5, 5, 5, 5, 5, 5, 5, 5, 5, 5, 5, 5, 5, 5, 5, 5, 6, 6, 6, 6, 6, 6, 6, 6, 6, 6, 6, 6, 6, 6, 6, 6, 6, 6, 6, 6, 6, 6, 6, 6, 6, 6, 6, 6, 6, 6, 6, 6, 7, 7, 7, 7, 7, 7, 7, 7, 7, 7, 7, 7, 7, 7, 7, 7, 7, 7, 7, 7, 7, 7, 7, 7, 7, 7, 7, 7, 7, 7, 7, 7, 7, 7, 7, 7, 7, 7, 7, 7, 7, 7, 7, 7, 7, 7, 7, 7, 7, 7, 7, 7, 7, 7, 7, 7, 7, 7, 7, 7, 7, 7, 7, 7, 8, 8, 8, 8, 8, 8, 8, 8, 8, 8, 8, 8, 8, 8, 8, 8, 8, 8, 8, 8, 8, 8, 8, 8, 8, 8, 8, 8, 8, 8, 8, 8, 8, 8, 8, 8, 8, 8, 8, 8, 8, 8, 8, 8, 8, 8, 8, 8, 8, 8, 8, 8, 8, 8, 8, 8, 8, 8, 8, 8, 8, 8, 8, 8, 8, 8, 8, 8, 8, 8, 8, 8, 8, 8, 8, 8, 8, 8, 8, 8, 8, 8, 8, 8, 8, 8, 8, 8, 8, 8, 8, 8, 8, 8, 8, 8, 8, 8, 8, 8, 8, 8, 8, 8, 8, 8, 8, 8, 8, 8, 8, 8, 8, 8, 8, 8, 8, 8, 8, 8, 8, 8, 8, 8, 8, 8, 8, 8]⟩ : ByteArray) (c : Int) = ((len c : Nat) : Int) := g
  rw [g', wrap64_id (by omega) (by omega)]
/-- m's degree is d -/
def Deg (m d : Nat) : Prop := 2 ^ d ≤ m ∧ m < 2 ^ (d + 1)
theorem Deg.ofLen {m d : Nat} (h : len m = d + 1) : Deg m d := len_iff.1 h
theorem Deg.len {m d : Nat} (h : Deg m d) : len m = d + 1 := len_iff.2 h
theorem Deg.lt {m d : Nat} (h : Deg m d) (hm : m < 2 ^ 64) : d < 64 := by
  have h1 := h.1
  apply Nat.lt_of_not_le
  intro c
  have := Nat.pow_le_pow_right (n := 2) (by omega) c
  omega
theorem exists_deg {m : Nat} (h : m ≠ 0) : ∃ d, Deg m d := exists_top h
theorem pow64 {n : Nat} (h : n ≤ 64) : 2 ^ n ≤ 2 ^ 64 := Nat.pow_le_pow_right (by omega) h
theorem halves (b i : Nat) : b / 2 ^ i % 2 = (b.testBit i).toNat ∧ b / 2 ^ i / 2 = b / 2 ^ (i + 1) := by
  constructor
  · rw [Nat.testBit_eq_decide_div_mod_eq]
    rcases Nat.mod_two_eq_zero_or_one (b / 2 ^ i) with h | h <;> simp [h]
  · rw [Nat.pow_succ, Nat.div_div_eq_div_mul]

theorem or_new {x s : Nat} (h : x % 2 ^ (s + 1) = 0) : x ||| 2 ^ s = x + 2 ^ s ∧ (x + 2 ^ s) % 2 ^ s = 0 := by
  have e : x = 2 ^ (s + 1) * (x / 2 ^ (s + 1)) := by have := Nat.div_add_mod x (2 ^ (s + 1)); omega
  have hlt : 2 ^ s < 2 ^ (s + 1) := Nat.pow_lt_pow_right (by omega) (by omega)
  constructor
  · rw [e, ← Nat.two_pow_add_eq_or_of_lt hlt]
  · rw [e, Nat.pow_succ, Nat.mul_assoc]; simp

theorem len64_j {x n : Nat} (hx : x < 2 ^ 32) (hn : n ≤ 64) : Ev (fun k => bits_Len64.j0 k (x : Int) (n : Int)) ((n + len x : Nat) : Int) := by
  refine Ev.step (fun k => bits_Len64.j0.eq_2 ..) ?_
  by_cases c1 : (x : Int) ≥ 65536
  · refine Ev_ite_pos c1 ?_
    by_cases c2 : ((x : Int) / 65536) ≥ 256
    · refine Ev_ite_pos c2 (Ev_ite_pos (by omega) (Ev_ite_pos (by omega) ?_))
      have e : (((x : Int) / 65536) / 256) % 256 = ((x / 2 ^ 24 : Nat) : Int) := by omega
      rw [tab_len e (by omega), wrap64_id (n := (n : Int) + 16) (by omega) (by omega), wrap64_id (n := (n : Int) + 16 + 8) (by omega) (by omega)]
      have b : len (x / 2 ^ 24) ≤ 8 := len_le (by omega)
      rw [wrap64_id (by omega) (by omega), len_shift (a := x) (s := 24) (by omega), show ((n : Int) + 16 + 8 + (len (x / 2 ^ 24) : Nat)) = ((n + (24 + len (x / 2 ^ 24)) : Nat) : Int) from by omega]
      exact Ev.now _
    · refine Ev_ite_neg c2 (Ev_ite_pos (by omega) (Ev_ite_pos (by omega) ?_))
      have e : ((x : Int) / 65536) % 256 = ((x / 2 ^ 16 : Nat) : Int) := by omega
      rw [tab_len e (by omega), wrap64_id (n := (n : Int) + 16) (by omega) (by omega)]
      have b : len (x / 2 ^ 16) ≤ 8 := len_le (by omega)
      rw [wrap64_id (by omega) (by omega), len_shift (a := x) (s := 16) (by omega), show ((n : Int) + 16 + (len (x / 2 ^ 16) : Nat)) = ((n + (16 + len (x / 2 ^ 16)) : Nat) : Int) from by omega]
      exact Ev.now _
  · refine Ev_ite_neg c1 ?_
    by_cases c2 : (x : Int) ≥ 256
    · refine Ev_ite_pos c2 (Ev_ite_pos (by omega) (Ev_ite_pos (by omega) ?_))
      have e : ((x : Int) / 256) % 256 = ((x / 2 ^ 8 : Nat) : Int) := by omega
      rw [tab_len e (by omega), wrap64_id (n := (n : Int) + 8) (by omega) (by omega)]
      have b : len (x / 2 ^ 8) ≤ 8 := len_le (by omega)
      rw [wrap64_id (by omega) (by omega), len_shift (a := x) (s := 8) (by omega), show ((n : Int) + 8 + (len (x / 2 ^ 8) : Nat)) = ((n + (8 + len (x / 2 ^ 8)) : Nat) : Int) from by omega]
      exact Ev.now _
    · refine Ev_ite_neg c2 (Ev_ite_pos (by omega) (Ev_ite_pos (by omega) ?_))
      have e : (x : Int) % 256 = (x : Int) := by omega
      rw [e, tab_len rfl (by omega)]
      have b : len x ≤ 8 := len_le (by omega)
      rw [wrap64_id (by omega) (by omega), show ((n : Int) + (len x : Nat)) = ((n + len x : Nat) : Int) from by omega]
      exact Ev.now _
theorem len64_ev {x : Nat} (hx : x < 2 ^ 64) : Ev (fun k => bits_Len64.f k (x : Int)) ((len x : Nat) : Int) := by
  unfold bits_Len64.f
  by_cases c : (x : Int) ≥ 4294967296
  · refine Ev_ite_pos c ?_
    rw [show (x : Int) / 4294967296 = ((x / 2 ^ 32 : Nat) : Int) from by omega, len_shift (a := x) (s := 32) (by omega)]
    exact len64_j (n := 32) (by omega) (by omega)
  · refine Ev_ite_neg c ?_
    have := len64_j (x := x) (n := 0) (by omega) (by omega)
    rwa [Nat.zero_add] at this
theorem degree_ev {x : Nat} (hx : x < 2 ^ 64) : Ev (fun k => poly_Degree.f k (x : Int)) (((len x : Nat) : Int) - 1) := by
  unfold poly_Degree.f
  refine Ev.bind (len64_ev hx) ?_
  have := len_le hx
  rw [wrap64_id (by omega) (by omega)]
  exact Ev.now _
theorem deg_ev {m d : Nat} (hd : Deg m d) (hm : m < 2 ^ 64) : Ev (fun k => poly_Degree.f k (m : Int)) (d : Int) := by
  have := degree_ev hm
  rw [hd.len, show (((d + 1 : Nat) : Int) - 1) = (d : Int) from by omega] at this
  exact this
theorem reduce_f {x m d : Nat} (hx : x < 2 ^ 64) (hm : m < 2 ^ 64) (hd : d ≤ 64) : poly_reduce.f (x : Int) (m : Int) (d : Int) = some ((red m d x : Nat) : Int) := by
  unfold poly_reduce.f red
  rw [if_pos (by omega)]
  by_cases c : x.testBit d = true
  · have : ¬ (Go.bits .and .u64 (shr .u64 (x : Int) (d : Int)) 1 = 0) := by rw [bit64_zero hx hd, c]; simp
    rw [if_neg this, if_pos c, xor64 hx hm]
  · have c' : x.testBit d = false := by simpa using c
    rw [if_pos ((bit64_zero hx hd).2 c'), if_neg c]
theorem pm_one (p : Nat) : pm 1 0 p = 0 := by
  have := pm_lt (m := 1) (d := 0) (by omega) (by omega) p
  omega
theorem deg_one {d : Nat} (h : Deg 1 d) : d = 0 := by
  have h1 := h.1
  by_cases z : d = 0
  · exact z
  · have := Nat.pow_le_pow_right (n := 2) (by omega) (show 1 ≤ d from by omega)
    omega
theorem deg_ge {m d : Nat} (h : Deg m d) (hm : 1 < m) : 1 ≤ d := by
  have h2 := h.2
  by_cases z : d = 0
  · subst z; omega
  · omega

theorem pm_bit (m d x b : Nat) (hb : b < 2) : pm m d (2 * x + b) = red m d (2 * pm m d x ^^^ b) := by
  rw [pm_eq, show (2 * x + b) / 2 = x from by omega, show (2 * x + b) % 2 = b from by omega]

theorem of_inner {m d : Nat} (hd : Deg m d) (hm : m < 2 ^ 64) (l : List Int) (i P : Nat) (c : Nat) (hc : c < 256) (hi : i < 9223372036854775807) (r : Int × Int)
    (h : Ev (fun k => poly_Of.l0 k (m : Int) (d : Int) ((pm m d (P * 2 ^ 8 + c) : Nat) : Int) l (l.length : Int) ((i + 1 : Nat) : Int)) r) :
    ∀ (j out : Nat), j ≤ 8 → out = pm m d (P * 2 ^ (8 - j) + c / 2 ^ j) →
    Ev (fun k => poly_Of.l1 k (m : Int) (d : Int) (out : Int) (c : Int) ((j : Int) - 1) l (l.length : Int) (i : Int)) r := by
  have hd64 := hd.lt hm
  intro j
  induction j with
  | zero =>
    intro out _ ho
    refine Ev.step (fun k => poly_Of.l1.eq_2 ..) (Ev_ite_neg (by omega) ?_)
    have e : wrap64 ((i : Int) + 1) = ((i + 1 : Nat) : Int) := by rw [wrap64_id (by omega) (by omega)]; omega
    rw [e, ho, Nat.pow_zero, Nat.div_one]; exact h
  | succ j ih =>
    intro out hj ho
    have e1 : ((j + 1 : Nat) : Int) - 1 = (j : Int) := by omega
    rw [e1]
    have hout : out < 2 ^ d := by rw [ho]; exact pm_lt hd.1 hd.2 _
    have hout2 : 2 * out < 2 ^ (d + 1) := by rw [Nat.pow_succ]; omega
    have h2 : 2 * out < 2 ^ 64 := Nat.lt_of_lt_of_le hout2 (pow64 (by omega))
    refine Ev.step (fun k => poly_Of.l1.eq_2 ..) (Ev_ite_pos (by omega) (Ev_ite_pos (by omega) ?_))
    have e2 : IntKind.u64.wrap ((out : Int) * 2) = ((2 * out : Nat) : Int) := by rw [wrap_u64]; omega
    have hb2 : (c.testBit j).toNat < 2 := by cases c.testBit j <;> simp
    have e3 : IntKind.u64.wrap (Go.bits .and .u8 (shr .u8 (c : Int) (j : Int)) 1) = (((c.testBit j).toNat : Nat) : Int) := by
      rw [bit8 hc (by omega), wrap_u64]; omega
    rw [e2, e3, xor64 h2 (by omega), reduce_f (Nat.xor_lt_two_pow h2 (by omega)) hm (by omega)]
    have e4 : wrap64 ((j : Int) - 1) = (j : Int) - 1 := wrap64_id (by omega) (by omega)
    rw [e4]
    refine Ev_some (ih _ (by omega) ?_)
    rw [ho, ← pm_bit _ _ _ _ hb2]
    congr 1
    have hh := halves c j
    have e5 : P * 2 ^ (8 - j) = 2 * (P * 2 ^ (8 - (j + 1))) := by
      rw [show 8 - j = (8 - (j + 1)) + 1 from by omega, Nat.pow_succ, ← Nat.mul_assoc, Nat.mul_comm 2]
    rw [e5, ← hh.2]
    generalize P * 2 ^ (8 - (j + 1)) = u at *
    generalize c / 2 ^ j = v at *
    omega
theorem of_loop {m d : Nat} (hd : Deg m d) (hm : m < 2 ^ 64) : ∀ (l pre : List Int) , By l → (pre ++ l).length ≤ 140737488355328 →
    Ev (fun k => poly_Of.l0 k (m : Int) (d : Int) ((pm m d (pol pre) : Nat) : Int) (pre ++ l) ((pre ++ l).length : Int) (pre.length : Int)) (((pm m d (pol (pre ++ l)) : Nat) : Int), 0) := by
  intro l
  induction l with
  | nil =>
    intro pre _ _
    refine Ev.step (fun k => poly_Of.l0.eq_2 ..) (Ev_ite_neg (by simp) ?_)
    rw [List.append_nil]; exact Ev.now _
  | cons c l ih =>
    intro pre hb hl
    obtain ⟨n, hn, hn2⟩ : ∃ n : Nat, c = (n : Int) ∧ n < 256 := by have := hb.head; exact ⟨c.toNat, by omega, by omega⟩
    have hlt : ((pre.length : Nat) : Int) < ((pre ++ c :: l).length : Int) := by simp; omega
    refine Ev.step (fun k => poly_Of.l0.eq_2 ..) (Ev_ite_pos hlt (Ev_ite_pos (by omega) (Ev_ite_pos hlt ?_)))
    rw [rd_at, hn]
    have g := ih (pre ++ [c]) hb.tail (by simpa using hl)
    have e : pol (pre ++ [c]) = pol pre * 2 ^ 8 + n := by rw [pol_append, pol_cons, hn]; simp [pol_nil]
    have e2 : ((pre ++ [c]).length : Int) = ((pre.length + 1 : Nat) : Int) := by simp
    rw [e, e2, List.append_assoc, List.singleton_append] at g
    rw [hn] at g
    simp only [List.length_append, List.length_cons] at hl
    exact of_inner hd hm _ pre.length (pol pre) n hn2 (by omega) _ g 8 _ (Nat.le_refl _) (by rw [Nat.div_eq_of_lt hn2]; simp)
theorem of_ev {m d : Nat} (hd : Deg m d) (hm : m < 2 ^ 64) {l : List Int} (hb : By l) (hl : l.length ≤ 140737488355328) :
    Ev (fun k => poly_Of.f k l (m : Int)) (((pm m d (pol l) : Nat) : Int), 0) := by
  have hm0 : m ≠ 0 := by
    have h5 := hd.1
    have h6 := Nat.two_pow_pos d
    omega
  unfold poly_Of.f
  refine Ev_ite_neg (by omega) ?_
  by_cases h1 : m = 1
  · subst h1
    obtain rfl := deg_one hd
    refine Ev_ite_pos rfl ?_
    rw [pm_one]; exact Ev.now _
  · refine Ev_ite_neg (by omega) (Ev.bind (deg_ev hd hm) ?_)
    have := of_loop hd hm l [] hb hl
    rw [pol_nil, pm_zero] at this
    exact this

theorem G64 : G < 2 ^ 64 := by unfold G; omega
theorem GD : Deg G 32 := ⟨G1, G2⟩

/-- the four bytes of a word -/
def word4 (s : Int) : List Int := [(s / 16777216) % 256, (s / 65536) % 256, (s / 256) % 256, s % 256]
theorem word4_by (s : Int) : By (word4 s) := by
  intro x hx; simp [word4] at hx; omega
theorem word4_pol {s : Nat} (h : s < 2 ^ 32) : pol (word4 (s : Int)) = s := by
  simp [word4, pol]; omega
theorem crc_sealed {l : List Int} : crc (l ++ word4 (crc l : Int)) = 0 := by
  have hw := word4_by (crc l : Int)
  unfold crc
  have h : pol (l ++ word4 ((crc l : Nat) : Int)) = pol l * 2 ^ 32 ^^^ crc l := by
    rw [pol_append_xor hw, word4_pol (crc_lt l)]; rfl
  have e : pm G 32 (pol l * 2 ^ 32 ^^^ crc l) = 0 := by
    rw [pm_xor G1 G2, pm_small (p := crc l) G1 G2 (crc_lt l)]; unfold crc; simp
  show pm G 32 (pol (l ++ word4 ((crc l : Nat) : Int)) * 2 ^ 32) = 0
  rw [h, ← pm_shift G1 G2, e, Nat.zero_mul, pm_zero]
def sealed (l : List Int) : List Int := l ++ word4 (crc l : Int)
theorem sealed_by {l : List Int} (h : By l) : By (sealed l) := h.append (word4_by _)
theorem sealed_length (l : List Int) : (sealed l).length = l.length + 4 := by simp [sealed, word4]
theorem clone_f {l : List Int} (hl : l.length < 140737488355328) : slices_Clone_byte_byte.f l = some l := by
  unfold slices_Clone_byte_byte.f
  rw [Option.bind_some, if_pos (by simpa using hl), List.nil_append]
theorem seal_ev {l : List Int} (hb : By l) (hl : l.length ≤ 140737488355000) : Ev (fun k => crc_Seal.f k l) (sealed l) := by
  unfold crc_Seal.f
  refine Ev.bind (bits_ev hb (by omega)) ?_
  rw [clone_f (by omega)]
  refine Ev_some (Ev_some (Ev_ite_pos (by simp; omega) ?_))
  exact Ev.now _
theorem valid_ev {l : List Int} (hb : By l) (hl : l.length ≤ 140737488355328) (h4 : 4 ≤ l.length) : Ev (fun k => crc_Valid.f k l) (decide (crc l = 0)) := by
  unfold crc_Valid.f
  refine Ev_ite_pos (by omega) (Ev.bind (bits_ev hb hl) ?_)
  have : (((crc l : Nat) : Int) == 0) = decide (crc l = 0) := by
    by_cases h : crc l = 0
    · rw [h]; rfl
    · rw [decide_eq_false h]; simpa using h
  rw [this]; exact Ev.now _
theorem awake_ev : Ev (fun k => parapetlaw02_Awake.f k) true := Ev.of parapetlaw02_Awake.mono (k := 30) (by decide +kernel)

/-- 'x' goes out of what an odd polynomial divides -/
theorem odd_cancel {m : Nat} (hm : m % 2 = 1) : ∀ (e x : Nat), Cong m (x * 2 ^ e) 0 → Cong m x 0 := by
  intro e
  induction e with
  | zero => intro x h; simpa using h
  | succ e ih =>
    intro x h
    apply ih
    rw [Nat.pow_succ, ← Nat.mul_assoc] at h
    generalize x * 2 ^ e = y at h ⊢
    obtain ⟨a, ha⟩ := h
    rw [Nat.xor_zero] at ha
    have h2 : (cm m a) % 2 = a % 2 := by
      rw [cm_comm, cm_eq, if_pos hm, xor_mod2]; omega
    have ha2 : a = 2 * (a / 2) := by omega
    rw [ha2, cm_dbl] at ha
    exact ⟨a / 2, by rw [Nat.xor_zero]; omega⟩

def xb (x y : Int) : Int := bits .xor .u8 x y
theorem xb_nat {x y : Int} (hx : 0 ≤ x ∧ x < 256) (hy : 0 ≤ y ∧ y < 256) : xb x y = ((x.toNat ^^^ y.toNat : Nat) : Int) := by
  obtain ⟨a, rfl⟩ := Int.eq_ofNat_of_zero_le hx.1
  obtain ⟨b, rfl⟩ := Int.eq_ofNat_of_zero_le hy.1
  exact u8_xor_nat a b (by omega) (by omega)
theorem xb_byte {x y : Int} (hx : 0 ≤ x ∧ x < 256) (hy : 0 ≤ y ∧ y < 256) : 0 ≤ xb x y ∧ xb x y < 256 := by
  rw [xb_nat hx hy]
  have : x.toNat ^^^ y.toNat < 2 ^ 8 := Nat.xor_lt_two_pow (by omega) (by omega)
  omega
theorem xb_comm {x y : Int} (hx : 0 ≤ x ∧ x < 256) (hy : 0 ≤ y ∧ y < 256) : xb x y = xb y x := by rw [xb_nat hx hy, xb_nat hy hx, Nat.xor_comm]
theorem xb_assoc {x y z : Int} (hx : 0 ≤ x ∧ x < 256) (hy : 0 ≤ y ∧ y < 256) (hz : 0 ≤ z ∧ z < 256) : xb (xb x y) z = xb x (xb y z) := by
  rw [xb_nat (xb_byte hx hy) hz, xb_nat hx (xb_byte hy hz), xb_nat hx hy, xb_nat hy hz, Int.toNat_natCast, Int.toNat_natCast, Nat.xor_assoc]
theorem xb_self {x : Int} (hx : 0 ≤ x ∧ x < 256) : xb x x = 0 := by rw [xb_nat hx hx, Nat.xor_self]; rfl
theorem xb_zero {x : Int} (hx : 0 ≤ x ∧ x < 256) : xb x 0 = x := by rw [xb_nat hx (by omega)]; simp; omega
/-- the bytes' sums -/
def xl (a b : List Int) : List Int := List.zipWith xb a b
theorem xl_length (a b : List Int) (h : a.length = b.length) : (xl a b).length = a.length := by simp [xl, h]
theorem xl_by : ∀ {a b : List Int}, By a → By b → By (xl a b) := by
  intro a
  induction a with
  | nil => intro b _ _ x hx; simp [xl] at hx
  | cons c a ih =>
    intro b ha hb
    cases b with
    | nil => intro x hx; simp [xl] at hx
    | cons d b =>
      intro x hx
      rcases List.mem_cons.1 hx with rfl | hx
      · exact xb_byte ha.head hb.head
      · exact ih ha.tail hb.tail x hx
theorem xl_comm : ∀ {a b : List Int}, By a → By b → xl a b = xl b a := by
  intro a
  induction a with
  | nil => intro b _ _; cases b <;> rfl
  | cons c a ih =>
    intro b ha hb
    cases b with
    | nil => rfl
    | cons d b =>
      show xb c d :: xl a b = xb d c :: xl b a
      rw [xb_comm ha.head hb.head, ih ha.tail hb.tail]
theorem xl_assoc : ∀ {a b c : List Int}, By a → By b → By c → xl (xl a b) c = xl a (xl b c) := by
  intro a
  induction a with
  | nil => intro b c _ _ _; rfl
  | cons x a ih =>
    intro b c ha hb hc
    cases b with
    | nil => rfl
    | cons y b =>
      cases c with
      | nil => rfl
      | cons z c =>
        show xb (xb x y) z :: xl (xl a b) c = xb x (xb y z) :: xl a (xl b c)
        rw [xb_assoc ha.head hb.head hc.head, ih ha.tail hb.tail hc.tail]
theorem xl_self : ∀ {a : List Int}, By a → xl a a = List.replicate a.length 0 := by
  intro a
  induction a with
  | nil => intro _; rfl
  | cons x a ih =>
    intro ha
    show xb x x :: xl a a = _
    rw [xb_self ha.head, ih ha.tail]; rfl
theorem xl_zero : ∀ {a : List Int}, By a → xl a (List.replicate a.length 0) = a := by
  intro a
  induction a with
  | nil => intro _; rfl
  | cons x a ih =>
    intro ha
    show xb x 0 :: xl a (List.replicate a.length 0) = _
    rw [xb_zero ha.head, ih ha.tail]
theorem xl_back {a b : List Int} (ha : By a) (hb : By b) (h : a.length = b.length) : xl (xl a b) b = a := by
  rw [xl_assoc ha hb hb, xl_self hb, ← h, xl_zero ha]
theorem by_take {l : List Int} (h : By l) (n : Nat) : By (l.take n) := fun x hx => h x (List.mem_of_mem_take hx)
theorem by_zeros (n : Nat) : By (List.replicate n 0) := by intro x hx; have := List.eq_of_mem_replicate hx; omega
theorem xl_snoc {a1 b1 : List Int} (h : a1.length = b1.length) (c d : Int) : xl (a1 ++ [c]) (b1 ++ [d]) = xl a1 b1 ++ [xb c d] := by
  unfold xl
  rw [List.zipWith_append h]; rfl
theorem set_mid (L : List Int) (x v : Int) (R : List Int) : (L ++ x :: R).set L.length v = L ++ v :: R := by
  rw [List.set_append_right _ _ (Nat.le_refl _), Nat.sub_self]; rfl

theorem pol_xl : ∀ {a b : List Int}, By a → By b → a.length = b.length → pol (xl a b) = pol a ^^^ pol b := by
  intro a
  induction a with
  | nil => intro b _ _ h; cases b with
    | nil => rfl
    | cons y b => cases h
  | cons x a ih =>
    intro b ha hb h
    cases b with
    | nil => cases h
    | cons y b =>
      have hl : a.length = b.length := by simpa using h
      have hx := ha x (by simp)
      have hy := hb y (by simp)
      have g := ih ha.tail hb.tail hl
      have e : xl (x :: a) (y :: b) = xb x y :: xl a b := rfl
      have hxl : pol a ^^^ pol b < 2 ^ (8 * a.length) := Nat.xor_lt_two_pow (pol_lt ha.tail) (by rw [hl]; exact pol_lt hb.tail)
      have hq := xl_length a b hl
      have en : (xb x y).toNat = x.toNat ^^^ y.toNat := by rw [xb_nat hx hy, Int.toNat_natCast]
      rw [e, pol_cons, pol_cons, pol_cons, hq, g, en, add_eq_xor hxl, add_eq_xor (pol_lt ha.tail), ← hl, add_eq_xor (by rw [hl]; exact pol_lt hb.tail), xor_shift]
      ac_rfl

theorem crc_xl {a b : List Int} (ha : By a) (hb : By b) (h : a.length = b.length) : crc (xl a b) = crc a ^^^ crc b := by
  unfold crc
  rw [pol_xl ha hb h, xor_shift, pm_xor G1 G2]
/-- The first i bytes of b, and zeros, n in all. -/
def mask (n : Nat) (b : List Int) (i : Nat) : List Int := b.take i ++ List.replicate (n - i) 0
theorem mask_len {n i : Nat} {b : List Int} (hb : i ≤ b.length) (hn : i ≤ n) : (mask n b i).length = n := by
  simp [mask]; omega
theorem mask_by {n i : Nat} {b : List Int} (hb : By b) : By (mask n b i) := By.append (by_take hb i) (by_zeros _)
theorem mask_zero (n : Nat) (b : List Int) : mask n b 0 = List.replicate n 0 := by simp [mask]
theorem mask_all {n : Nat} {b : List Int} : mask n b n = b.take n := by simp [mask]
theorem mask_at {n i j : Nat} {b : List Int} (hb : i ≤ b.length) (hj : j < n) : (mask n b i)[j]? = some (if j < i then b.getD j 0 else 0) := by
  unfold mask
  by_cases c : j < i
  · rw [if_pos c, List.getElem?_append_left (by rw [List.length_take]; omega), List.getElem?_take_of_lt c, List.getD_eq_getElem?_getD, List.getElem?_eq_getElem (by omega)]
    rfl
  · rw [if_neg c, List.getElem?_append_right (by rw [List.length_take]; omega), List.getElem?_replicate, if_pos (by rw [List.length_take]; omega)]
theorem xl_at {s m : List Int} {j : Nat} {x y : Int} (hs : s[j]? = some x) (hm : m[j]? = some y) : (xl s m)[j]? = some (xb x y) := by
  unfold xl
  rw [List.getElem?_zipWith, hs, hm]
theorem xl_mask_step {s b : List Int} {n i : Nat} (hs : s.length = n) (hi : i < n) (hb : i < b.length) : (xl s (mask n b i)).set i (xb (s.getD i 0) (b.getD i 0)) = xl s (mask n b (i + 1)) := by
  have l1 := mask_len (n := n) (i := i) (b := b) (by omega) (by omega)
  have l2 := mask_len (n := n) (i := i + 1) (b := b) (by omega) (by omega)
  apply List.ext_getElem?
  intro j
  rcases Nat.lt_or_ge j n with hj | hj
  · have hsj : s[j]? = some (s.getD j 0) := by rw [List.getD_eq_getElem?_getD, List.getElem?_eq_getElem (by omega)]; rfl
    rw [xl_at hsj (mask_at (i := i + 1) (by omega) hj), List.getElem?_set]
    by_cases e : i = j
    · subst e
      rw [if_pos rfl, if_pos (by rw [xl_length _ _ (by omega)]; omega), if_pos (by omega)]
    · rw [if_neg e, xl_at hsj (mask_at (i := i) (by omega) hj)]
      by_cases c : j < i
      · rw [if_pos c, if_pos (by omega)]
      · rw [if_neg c, if_neg (by omega)]
  · rw [List.getElem?_eq_none (by rw [List.length_set, xl_length _ _ (by omega)]; omega), List.getElem?_eq_none (by rw [xl_length _ _ (by omega)]; omega)]
theorem xl_mask_get {s b : List Int} {n i : Nat} (hb0 : By s) (hs : s.length = n) (hi : i < n) (hb : i ≤ b.length) : (xl s (mask n b i)).getD i 0 = s.getD i 0 := by
  have hsj : s[i]? = some (s.getD i 0) := by rw [List.getD_eq_getElem?_getD, List.getElem?_eq_getElem (by omega)]; rfl
  rw [List.getD_eq_getElem?_getD, xl_at hsj (mask_at hb hi), if_neg (by omega)]
  have hx : 0 ≤ s.getD i 0 ∧ s.getD i 0 < 256 := by
    rw [List.getD_eq_getElem?_getD, List.getElem?_eq_getElem (by omega)]; exact hb0 _ (List.getElem_mem _)
  show xb (s.getD i 0) 0 = _
  exact xb_zero hx
theorem xl_mask_zero {s b : List Int} {n : Nat} (hb0 : By s) (hs : s.length = n) : xl s (mask n b 0) = s := by
  subst hs; rw [mask_zero]; exact xl_zero hb0
theorem pow32_cancel {x : Nat} : pm G 32 (x * 2 ^ 32) = 0 ↔ pm G 32 x = 0 := by
  constructor
  · intro h
    have h1 := pm_cong G 32 (x * 2 ^ 32)
    rw [h] at h1
    have h2 := odd_cancel (m := G) (by unfold G; omega) 32 x h1
    have h3 := pm_eq_of_cong G1 G2 h2
    rw [h3, pm_zero]
  · intro h
    rw [← pm_shift G1 G2, h, Nat.zero_mul, pm_zero]
/-- What the pattern leaves of a sealed list. -/
theorem crc_pattern {l b : List Int} {n i : Nat} (hl : By l) (hb : By b) (hn : (sealed l).length = n) (hi : i ≤ b.length) (hin : i ≤ n) : (crc (xl (sealed l) (mask n b i)) = 0) ↔ pm G 32 (pol (mask n b i)) = 0 := by
  rw [crc_xl (sealed_by hl) (mask_by hb) (by rw [mask_len hi hin]; exact hn)]
  have h0 : crc (sealed l) = 0 := crc_sealed
  rw [h0, Nat.zero_xor]
  unfold crc
  exact pow32_cancel

end Go.Proofs.Ytcnlomknmhgpbaa.Pure
