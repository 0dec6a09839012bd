/- Lemmas on the printed functions: what each comes to, over plain numbers and lists. -/
import Derived.Test.YtcnlomknmhgpbaaPEx1
import Derived.Test.YtcnlomknmhgpbaaPEx2
import Derived.Test.YtcnlomknmhgpbaaPEx3
import Derived.Test.YtcnlomknmhgpbaaPEx4
import Derived.Test.YtcnlomknmhgpbaaBt
namespace Go.Proofs.Ytcnlomknmhgpbaa.Pure
open Go Go.RowKit Go.Proofs.Ytcnlomknmhgpbaa.PE Go.Proofs.YtcnlomknmhgpbaaW.PrintWords Go.Proofs.YtcnlomknmhgpbaaW.PrintLast Go.Proofs.YtcnlomknmhgpbaaW.PrintMore
open Go.Proofs.Ytcnlomknmhgpbaa.Gf Go.Proofs.Ytcnlomknmhgpbaa.Bt
theorem step_round {s : Nat} (h : s < 2 ^ 32) : (if ((s : Int) / 2147483648) = 0 then (((s : Int) * 2) % 4294967296) else (Go.bits .xor .u32 (((s : Int) * 2) % 4294967296) 517762881)) = ((pm G 32 (2 * s) : Nat) : Int) := by
  have h2 : 2 * s < 2 ^ (32 + 1) := by omega
  rw [pm_red G1 G2 h2]
  unfold red
  rw [testBit_top h2]
  by_cases c : s < 2147483648
  · rw [if_pos (by omega), if_neg (by simp; omega)]; omega
  · rw [if_neg (by omega), if_pos (by simp; omega)]
    have e1 : ((s : Int) * 2) % 4294967296 = ((2 * s - 2 ^ 32 : Nat) : Int) := by omega
    rw [e1, show (517762881 : Int) = ((517762881 : Nat) : Int) from rfl, xor32 (by omega) (by omega)]
    have e2 : 2 * s = 1 * 2 ^ 32 ^^^ (2 * s - 2 ^ 32) := by rw [← add_eq_xor (by omega)]; omega
    have e3 : G = 1 * 2 ^ 32 ^^^ 517762881 := by rw [← add_eq_xor (by omega)]; rfl
    conv => rhs; rw [e2, e3, xor4, Nat.xor_self, Nat.zero_xor]
theorem step_loop : ∀ (n i s : Nat), i + n = 8 → s < 2 ^ 32 → Ev (fun k => crc_step.l0 k (s : Int) (i : Int)) ((pm G 32 (s * 2 ^ n) : Nat) : Int) := by
  intro n
  induction n with
  | zero =>
    intro i s hi hs
    refine Ev.step (fun k => crc_step.l0.eq_2 ..) ?_
    refine Ev_ite_neg (by omega) ?_
    rw [Nat.pow_zero, Nat.mul_one, pm_small G1 G2 hs]
    exact Ev.now _
  | succ n ih =>
    intro i s hi hs
    refine Ev.step (fun k => crc_step.l0.eq_2 ..) ?_
    refine Ev_ite_pos (by omega) ?_
    have e : wrap64 ((i : Int) + 1) = ((i + 1 : Nat) : Int) := by rw [wrap64_id (by omega) (by omega)]; omega
    rw [e]
    have g := ih (i + 1) (pm G 32 (2 * s)) (by omega) (pm_lt G1 G2 _)
    rw [pm_shift G1 G2, Nat.mul_comm 2 s, Nat.mul_assoc, ← Nat.pow_succ', ← Nat.mul_comm 2 s, ← step_round hs] at g
    by_cases c : ((s : Int) / 2147483648) = 0
    · refine Ev_ite_pos c ?_
      rw [if_pos c] at g; exact g
    · refine Ev_ite_neg c ?_
      rw [if_neg c] at g; exact g
theorem step_ev {s : Nat} {c : Int} (hs : s < 2 ^ 32) (h0 : 0 ≤ c) (h1 : c < 256) : Ev (fun k => crc_step.f k (s : Int) c) ((stp s c.toNat : Nat) : Int) := by
  unfold crc_step.f
  have e : (((c) % 4294967296) * 16777216) % 4294967296 = ((c.toNat * 2 ^ 24 : Nat) : Int) := by omega
  rw [e, xor32 hs (by omega)]
  exact step_loop 8 0 _ rfl (Nat.xor_lt_two_pow hs (by omega))
theorem bits_loop : ∀ (l pre : List Int) (s : Nat), By l → (pre ++ l).length ≤ 140737488355328 → s < 2 ^ 32 →
    Ev (fun k => crc_Bits.l0 k (s : Int) (pre ++ l) ((pre ++ l).length : Int) (pre.length : Int)) ((crcFrom s l : Nat) : Int) := by
  intro l
  induction l with
  | nil =>
    intro pre s _ _ hs
    refine Ev.step (fun k => crc_Bits.l0.eq_2 ..) ?_
    refine Ev_ite_neg (by simp) ?_
    rw [crcFrom_nil hs]; exact Ev.now _
  | cons c l ih =>
    intro pre s hb hl hs
    have hc := hb.head
    refine Ev.step (fun k => crc_Bits.l0.eq_2 ..) ?_
    have hlt : ((pre.length : Nat) : Int) < ((pre ++ c :: l).length : Int) := by simp; omega
    refine Ev_ite_pos hlt (Ev_ite_pos (by omega) (Ev_ite_pos hlt ?_))
    rw [rd_at]
    refine Ev.bind (step_ev hs hc.1 hc.2) ?_
    rw [crcFrom_cons s c hb.tail]
    have g := ih (pre ++ [c]) (stp s c.toNat) hb.tail (by simpa using hl) (pm_lt G1 G2 _)
    have e : wrap64 ((pre.length : Int) + 1) = ((pre ++ [c]).length : Int) := by
      rw [wrap64_id (by omega) (by simp at hl; omega)]; simp
    rw [e]
    simpa using g
theorem bits_ev {l : List Int} (hb : By l) (hl : l.length ≤ 140737488355328) : Ev (fun k => crc_Bits.f k l) ((crc l : Nat) : Int) := by
  have := bits_loop l [] 0 hb hl (by omega)
  rw [crcFrom_zero] at this
  exact this
theorem generator_f : crc_Generator.f = some ((G : Nat) : Int) := rfl

/-- how many bits a number has -/
def len (a : Nat) : Nat := if a = 0 then 0 else a.log2 + 1
theorem len_zero : len 0 = 0 := rfl
theorem len_iff {a n : Nat} : len a = n + 1 ↔ 2 ^ n ≤ a ∧ a < 2 ^ (n + 1) := by
  unfold len
  by_cases h : a = 0
  · subst h
    have := Nat.two_pow_pos n
    simp
  · rw [if_neg h]
    have h1 := Nat.log2_self_le h
    have h2 := @Nat.lt_log2_self a
    constructor
    · intro e
      have : a.log2 = n := by omega
      subst this; exact ⟨h1, h2⟩
    · intro ⟨u, v⟩
      have e1 : a.log2 < n + 1 := (Nat.log2_lt h).2 v
      have e2 : n ≤ a.log2 := (Nat.le_log2 h).2 u
      omega
theorem len_pos {a : Nat} (h : a ≠ 0) : ∃ n, len a = n + 1 := ⟨a.log2, by simp [len, h]⟩
theorem len_le {a n : Nat} (h : a < 2 ^ n) : len a ≤ n := by
  by_cases z : a = 0
  · subst z; simp [len]
  · obtain ⟨m, hm⟩ := len_pos z
    rw [hm]
    have := (len_iff.1 hm).1
    apply Nat.lt_of_not_le
    intro c
    have := Nat.pow_le_pow_right (n := 2) (by omega) c
    have := Nat.pow_le_pow_right (n := 2) (by omega) (show n ≤ m + 1 - 1 from by omega)
    rw [Nat.add_sub_cancel] at this
    omega
theorem lt_of_len {a n : Nat} (h : len a ≤ n) : a < 2 ^ n := by
  by_cases z : a = 0
  · subst z; exact Nat.two_pow_pos n
  · obtain ⟨m, hm⟩ := len_pos z
    have := (len_iff.1 hm).2
    exact Nat.lt_of_lt_of_le this (Nat.pow_le_pow_right (by omega) (by omega))
theorem len_shift {a s : Nat} (h : a / 2 ^ s ≠ 0) : len a = s + len (a / 2 ^ s) := by
  obtain ⟨n, hn⟩ := len_pos h
  rw [hn]
  obtain ⟨u, v⟩ := len_iff.1 hn
  have hp := Nat.two_pow_pos s
  show len a = (s + n) + 1
  rw [len_iff, Nat.pow_add, show s + n + 1 = s + (n + 1) from rfl, Nat.pow_add 2 s]
  constructor
  · calc 2 ^ s * 2 ^ n ≤ 2 ^ s * (a / 2 ^ s) := Nat.mul_le_mul_left _ u
      _ ≤ a := Nat.mul_div_le _ _
  · rw [Nat.mul_comm]; exact (Nat.div_lt_iff_lt_mul hp).1 v
def tab : ByteArray := ⟨#[0, 1, 2, 2, 3, 3, 3, 3, 4, 4, 4, 4, 4, 4, 4, 4, 5, 5, 5, 5, 5, 5, 5, 5, 5, 5, 5, 5, 5, 5, 5, 5, 6, 6, 6, 6, 6, 6, 6, 6, 6, 6, 6, 6, 6, 6, 6, 6, 6, 6, 6, 6, 6, 6, 6, 6, 6, 6, 6, 6, 6, 6, 6, 6, 7, 7, 7, 7, 7, 7, 7, 7, 7, 7, 7, 7, 7, 7, 7, 7, 7, 7, 7, 7, 7, 7, 7, 7, 7, 7, 7, 7, 7, 7, 7, 7, 7, 7, 7, 7, 7, 7, 7, 7, 7, 7, 7, 7, 7, 7, 7, 7, 7, 7, 7, 7, 7, 7, 7, 7, 7, 7, 7, 7, 7, 7, 7, 7, 8, 8, 8, 8, 8, 8, 8, 8, 8, 8, 8, 8, 8, 8, 8, 8, 8, 8, 8, 8, 8, 8, 8, 8, 8, 8, 8, 8, 8, 8, 8, 8, 8, 8, 8, 8, 8, 8, 8, 8, 8, 8, 8, 8, 8, 8, 8, 8, 8, 8, 8, 8, 8, 8, 8, 8, 8, 8, 8, 8, 8, 8, 8, 8, 8, 8, 8, 8, 8, 8, 8, 8, 8, 8, 8, 8, 8, 8, 8, 8, 8, 8, 8, 8, 8, 8, 8, 8, 8, 8, 8, 8, 8, 8, 8, 8, 8, 8, 8, 8, 8, 8, 8, 8, 8, 8, 8, 8, 8, 8, 8, 8, 8, 8, 8, 8, 8, 8, 8, 8, 8, 8, 8, 8, 8, 8, 8, 8]⟩
theorem tab_all : ∀ c : Fin 256, bt tab ((c.val : Nat) : Int) = ((len c.val : Nat) : Int) := by decide +kernel
theorem tab_len {e : Int} {c : Nat} (he : e = (c : Int)) (h : c < 256) : wrap64 (bt (⟨#[0, 1, 2, 2, 3, 3, 3, 3, 4, 4, 4, 4, 4, 4, 4, 4, 5, 5, 5, 5, 5, 5, 5, 5, 5, 5, 5, 5, 5, 5, 5, 5, 6, 6, 6, 6, 6, 6, 6, 6, 6, 6, 6, 6, 6, 6, 6, 6, 6, 6, 6, 6, 6, 6, 6, 6, 6, 6, 6, 6, 6, 6, 6, 6, 7, 7, 7, 7, 7, 7, 7, 7, 7, 7, 7, 7, 7, 7, 7, 7, 7, 7, 7, 7, 7, 7, 7, 7, 7, 7, 7, 7, 7, 7, 7, 7, 7, 7, 7, 7, 7, 7, 7, 7, 7, 7, 7, 7, 7, 7, 7, 7, 7, 7, 7, 7, 7, 7, 7, 7, 7, 7, 7, 7, 7, 7, 7, 7, 8, 8, 8, 8, 8, 8, 8, 8, 8, 8, 8, 8, 8, 8, 8, 8, 8, 8, 8, 8, 8, 8, 8, 8, 8, 8, 8, 8, 8, 8, 8, 8, 8, 8, 8, 8, 8, 8, 8, 8, 8, 8, 8, 8, 8, 8, 8, 8, 8, 8, 8, 8, 8, 8, 8, 8, 8, 8, 8, 8, 8, 8, 8, 8, 8, 8, 8, 8, 8, 8, 8, 8, 8, 8, 8, 8, 8, 8, 8, 8, 8, 8, 8, 8, 8, 8, 8, 8, 8, 8, 8, 8, 8, 8, 8, 8, 8, 8, 8, 8, 8, 8, 8, 8, 8, 8, 8, 8, 8, 8, 8, 8, 8, 8, 8, 8, 8, 8, 8, 8, 8, 8, 8, 8, 8, 8, 8, 8]⟩ : ByteArray) e) = ((len c : Nat) : Int) := by
  subst he
  have g : bt tab (c : Int) = ((len c : Nat) : Int) := tab_all ⟨c, h⟩
  have b : len c ≤ 8 := len_le (by omega)
  have g' : bt (⟨#[0, 1, 2, 2, 3, 3, 3, 3, 4, 4, 4, 4, 4, 4, 4, 4, 5, 5, 5, 5, 5, 5, 5, 5, 5, 5, 5, 5, 5, 5, 5, 5, 6, 6, 6, 6, 6, 6, 6, 6, 6, 6, 6, 6, 6, 6, 6, 6, 6, 6, 6, 6, 6, 6, 6, 6, 6, 6, 6, 6, 6, 6, 6, 6, 7, 7, 7, 7, 7, 7, 7, 7, 7, 7, 7, 7, 7, 7, 7, 7, 7, 7, 7, 7, 7, 7, 7, 7, 7, 7, 7, 7, 7, 7, 7, 7, 7, 7, 7, 7, 7, 7, 7, 7, 7, 7, 7, 7, 7, 7, 7, 7, 7, 7, 7, 7, 7, 7, 7, 7, 7, 7, 7, 7, 7, 7, 7, 7, 8, 8, 8, 8, 8, 8, 8, 8, 8, 8, 8, 8, 8, 8, 8, 8, 8, 8, 8, 8, 8, 8, 8, 8, 8, 8, 8, 8, 8, 8, 8, 8, 8, 8, 8, 8, 8, 8, 8, 8, 8, 8, 8, 8, 8, 8, 8, 8, 8, 8, 8, 8, 8, 8, 8, 8, 8, 8, 8, 8, 8, 8, 8, 8, 8, 8, 8, 8, 8, 8, 8, 8, 8, 8, 8, 8, 8, 8, 8, 8, 8, 8, 8, 8, 8, 8, 8, 8, 8, 8, 8, 8, 8, 8, 8, 8, 8, 8, 8, 8, 8, 8, 8, 8, 8, 8, 8, 8, 8, 8, 8, 8, 8, 8, 8, 8, 8, 8, 8, 8, 8, 8, 8, 8, 8, 8, 8, 8]⟩ : ByteArray) (c : Int) = ((len c : Nat) : Int) := g
  rw [g', wrap64_id (by omega) (by omega)]
/-- m's degree is d -/
def Deg (m d : Nat) : Prop := 2 ^ d ≤ m ∧ m < 2 ^ (d + 1)
theorem Deg.ofLen {m d : Nat} (h : len m = d + 1) : Deg m d := len_iff.1 h
theorem Deg.len {m d : Nat} (h : Deg m d) : len m = d + 1 := len_iff.2 h
theorem Deg.lt {m d : Nat} (h : Deg m d) (hm : m < 2 ^ 64) : d < 64 := by
  have h1 := h.1
  apply Nat.lt_of_not_le
  intro c
  have := Nat.pow_le_pow_right (n := 2) (by omega) c
  omega
theorem exists_deg {m : Nat} (h : m ≠ 0) : ∃ d, Deg m d := exists_top h
theorem pow64 {n : Nat} (h : n ≤ 64) : 2 ^ n ≤ 2 ^ 64 := Nat.pow_le_pow_right (by omega) h
theorem halves (b i : Nat) : b / 2 ^ i % 2 = (b.testBit i).toNat ∧ b / 2 ^ i / 2 = b / 2 ^ (i + 1) := by
  constructor
  · rw [Nat.testBit_eq_decide_div_mod_eq]
    rcases Nat.mod_two_eq_zero_or_one (b / 2 ^ i) with h | h <;> simp [h]
  · rw [Nat.pow_succ, Nat.div_div_eq_div_mul]

theorem or_new {x s : Nat} (h : x % 2 ^ (s + 1) = 0) : x ||| 2 ^ s = x + 2 ^ s ∧ (x + 2 ^ s) % 2 ^ s = 0 := by
  have e : x = 2 ^ (s + 1) * (x / 2 ^ (s + 1)) := by have := Nat.div_add_mod x (2 ^ (s + 1)); omega
  have hlt : 2 ^ s < 2 ^ (s + 1) := Nat.pow_lt_pow_right (by omega) (by omega)
  constructor
  · rw [e, ← Nat.two_pow_add_eq_or_of_lt hlt]
  · rw [e, Nat.pow_succ, Nat.mul_assoc]; simp

theorem len64_j {x n : Nat} (hx : x < 2 ^ 32) (hn : n ≤ 64) : Ev (fun k => bits_Len64.j0 k (x : Int) (n : Int)) ((n + len x : Nat) : Int) := by
  refine Ev.step (fun k => bits_Len64.j0.eq_2 ..) ?_
  by_cases c1 : (x : Int) ≥ 65536
  · refine Ev_ite_pos c1 ?_
    by_cases c2 : ((x : Int) / 65536) ≥ 256
    · refine Ev_ite_pos c2 (Ev_ite_pos (by omega) (Ev_ite_pos (by omega) ?_))
      have e : (((x : Int) / 65536) / 256) % 256 = ((x / 2 ^ 24 : Nat) : Int) := by omega
      rw [tab_len e (by omega), wrap64_id (n := (n : Int) + 16) (by omega) (by omega), wrap64_id (n := (n : Int) + 16 + 8) (by omega) (by omega)]
      have b : len (x / 2 ^ 24) ≤ 8 := len_le (by omega)
      rw [wrap64_id (by omega) (by omega), len_shift (a := x) (s := 24) (by omega), show ((n : Int) + 16 + 8 + (len (x / 2 ^ 24) : Nat)) = ((n + (24 + len (x / 2 ^ 24)) : Nat) : Int) from by omega]
      exact Ev.now _
    · refine Ev_ite_neg c2 (Ev_ite_pos (by omega) (Ev_ite_pos (by omega) ?_))
      have e : ((x : Int) / 65536) % 256 = ((x / 2 ^ 16 : Nat) : Int) := by omega
      rw [tab_len e (by omega), wrap64_id (n := (n : Int) + 16) (by omega) (by omega)]
      have b : len (x / 2 ^ 16) ≤ 8 := len_le (by omega)
      rw [wrap64_id (by omega) (by omega), len_shift (a := x) (s := 16) (by omega), show ((n : Int) + 16 + (len (x / 2 ^ 16) : Nat)) = ((n + (16 + len (x / 2 ^ 16)) : Nat) : Int) from by omega]
      exact Ev.now _
  · refine Ev_ite_neg c1 ?_
    by_cases c2 : (x : Int) ≥ 256
    · refine Ev_ite_pos c2 (Ev_ite_pos (by omega) (Ev_ite_pos (by omega) ?_))
      have e : ((x : Int) / 256) % 256 = ((x / 2 ^ 8 : Nat) : Int) := by omega
      rw [tab_len e (by omega), wrap64_id (n := (n : Int) + 8) (by omega) (by omega)]
      have b : len (x / 2 ^ 8) ≤ 8 := len_le (by omega)
      rw [wrap64_id (by omega) (by omega), len_shift (a := x) (s := 8) (by omega), show ((n : Int) + 8 + (len (x / 2 ^ 8) : Nat)) = ((n + (8 + len (x / 2 ^ 8)) : Nat) : Int) from by omega]
      exact Ev.now _
    · refine Ev_ite_neg c2 (Ev_ite_pos (by omega) (Ev_ite_pos (by omega) ?_))
      have e : (x : Int) % 256 = (x : Int) := by omega
      rw [e, tab_len rfl (by omega)]
      have b : len x ≤ 8 := len_le (by omega)
      rw [wrap64_id (by omega) (by omega), show ((n : Int) + (len x : Nat)) = ((n + len x : Nat) : Int) from by omega]
      exact Ev.now _
theorem len64_ev {x : Nat} (hx : x < 2 ^ 64) : Ev (fun k => bits_Len64.f k (x : Int)) ((len x : Nat) : Int) := by
  unfold bits_Len64.f
  by_cases c : (x : Int) ≥ 4294967296
  · refine Ev_ite_pos c ?_
    rw [show (x : Int) / 4294967296 = ((x / 2 ^ 32 : Nat) : Int) from by omega, len_shift (a := x) (s := 32) (by omega)]
    exact len64_j (n := 32) (by omega) (by omega)
  · refine Ev_ite_neg c ?_
    have := len64_j (x := x) (n := 0) (by omega) (by omega)
    rwa [Nat.zero_add] at this
theorem degree_ev {x : Nat} (hx : x < 2 ^ 64) : Ev (fun k => poly_Degree.f k (x : Int)) (((len x : Nat) : Int) - 1) := by
  unfold poly_Degree.f
  refine Ev.bind (len64_ev hx) ?_
  have := len_le hx
  rw [wrap64_id (by omega) (by omega)]
  exact Ev.now _
theorem deg_ev {m d : Nat} (hd : Deg m d) (hm : m < 2 ^ 64) : Ev (fun k => poly_Degree.f k (m : Int)) (d : Int) := by
  have := degree_ev hm
  rw [hd.len, show (((d + 1 : Nat) : Int) - 1) = (d : Int) from by omega] at this
  exact this
theorem reduce_f {x m d : Nat} (hx : x < 2 ^ 64) (hm : m < 2 ^ 64) (hd : d ≤ 64) : poly_reduce.f (x : Int) (m : Int) (d : Int) = some ((red m d x : Nat) : Int) := by
  unfold poly_reduce.f red
  rw [if_pos (by omega)]
  by_cases c : x.testBit d = true
  · have : ¬ (Go.bits .and .u64 (shr .u64 (x : Int) (d : Int)) 1 = 0) := by rw [bit64_zero hx hd, c]; simp
    rw [if_neg this, if_pos c, xor64 hx hm]
  · have c' : x.testBit d = false := by simpa using c
    rw [if_pos ((bit64_zero hx hd).2 c'), if_neg c]
theorem pm_one (p : Nat) : pm 1 0 p = 0 := by
  have := pm_lt (m := 1) (d := 0) (by omega) (by omega) p
  omega
theorem deg_one {d : Nat} (h : Deg 1 d) : d = 0 := by
  have h1 := h.1
  by_cases z : d = 0
  · exact z
  · have := Nat.pow_le_pow_right (n := 2) (by omega) (show 1 ≤ d from by omega)
    omega
theorem deg_ge {m d : Nat} (h : Deg m d) (hm : 1 < m) : 1 ≤ d := by
  have h2 := h.2
  by_cases z : d = 0
  · subst z; omega
  · omega

theorem pm_bit (m d x b : Nat) (hb : b < 2) : pm m d (2 * x + b) = red m d (2 * pm m d x ^^^ b) := by
  rw [pm_eq, show (2 * x + b) / 2 = x from by omega, show (2 * x + b) % 2 = b from by omega]

theorem of_inner {m d : Nat} (hd : Deg m d) (hm : m < 2 ^ 64) (l : List Int) (i P : Nat) (c : Nat) (hc : c < 256) (hi : i < 9223372036854775807) (r : Int × Int)
    (h : Ev (fun k => poly_Of.l0 k (m : Int) (d : Int) ((pm m d (P * 2 ^ 8 + c) : Nat) : Int) l (l.length : Int) ((i + 1 : Nat) : Int)) r) :
    ∀ (j out : Nat), j ≤ 8 → out = pm m d (P * 2 ^ (8 - j) + c / 2 ^ j) →
    Ev (fun k => poly_Of.l1 k (m : Int) (d : Int) (out : Int) (c : Int) ((j : Int) - 1) l (l.length : Int) (i : Int)) r := by
  have hd64 := hd.lt hm
  intro j
  induction j with
  | zero =>
    intro out _ ho
    refine Ev.step (fun k => poly_Of.l1.eq_2 ..) (Ev_ite_neg (by omega) ?_)
    have e : wrap64 ((i : Int) + 1) = ((i + 1 : Nat) : Int) := by rw [wrap64_id (by omega) (by omega)]; omega
    rw [e, ho, Nat.pow_zero, Nat.div_one]; exact h
  | succ j ih =>
    intro out hj ho
    have e1 : ((j + 1 : Nat) : Int) - 1 = (j : Int) := by omega
    rw [e1]
    have hout : out < 2 ^ d := by rw [ho]; exact pm_lt hd.1 hd.2 _
    have hout2 : 2 * out < 2 ^ (d + 1) := by rw [Nat.pow_succ]; omega
    have h2 : 2 * out < 2 ^ 64 := Nat.lt_of_lt_of_le hout2 (pow64 (by omega))
    refine Ev.step (fun k => poly_Of.l1.eq_2 ..) (Ev_ite_pos (by omega) (Ev_ite_pos (by omega) ?_))
    have e2 : IntKind.u64.wrap ((out : Int) * 2) = ((2 * out : Nat) : Int) := by rw [wrap_u64]; omega
    have hb2 : (c.testBit j).toNat < 2 := by cases c.testBit j <;> simp
    have e3 : IntKind.u64.wrap (Go.bits .and .u8 (shr .u8 (c : Int) (j : Int)) 1) = (((c.testBit j).toNat : Nat) : Int) := by
      rw [bit8 hc (by omega), wrap_u64]; omega
    rw [e2, e3, xor64 h2 (by omega), reduce_f (Nat.xor_lt_two_pow h2 (by omega)) hm (by omega)]
    have e4 : wrap64 ((j : Int) - 1) = (j : Int) - 1 := wrap64_id (by omega) (by omega)
    rw [e4]
    refine Ev_some (ih _ (by omega) ?_)
    rw [ho, ← pm_bit _ _ _ _ hb2]
    congr 1
    have hh := halves c j
    have e5 : P * 2 ^ (8 - j) = 2 * (P * 2 ^ (8 - (j + 1))) := by
      rw [show 8 - j = (8 - (j + 1)) + 1 from by omega, Nat.pow_succ, ← Nat.mul_assoc, Nat.mul_comm 2]
    rw [e5, ← hh.2]
    generalize P * 2 ^ (8 - (j + 1)) = u at *
    generalize c / 2 ^ j = v at *
    omega
theorem of_loop {m d : Nat} (hd : Deg m d) (hm : m < 2 ^ 64) : ∀ (l pre : List Int) , By l → (pre ++ l).length ≤ 140737488355328 →
    Ev (fun k => poly_Of.l0 k (m : Int) (d : Int) ((pm m d (pol pre) : Nat) : Int) (pre ++ l) ((pre ++ l).length : Int) (pre.length : Int)) (((pm m d (pol (pre ++ l)) : Nat) : Int), 0) := by
  intro l
  induction l with
  | nil =>
    intro pre _ _
    refine Ev.step (fun k => poly_Of.l0.eq_2 ..) (Ev_ite_neg (by simp) ?_)
    rw [List.append_nil]; exact Ev.now _
  | cons c l ih =>
    intro pre hb hl
    obtain ⟨n, hn, hn2⟩ : ∃ n : Nat, c = (n : Int) ∧ n < 256 := by have := hb.head; exact ⟨c.toNat, by omega, by omega⟩
    have hlt : ((pre.length : Nat) : Int) < ((pre ++ c :: l).length : Int) := by simp; omega
    refine Ev.step (fun k => poly_Of.l0.eq_2 ..) (Ev_ite_pos hlt (Ev_ite_pos (by omega) (Ev_ite_pos hlt ?_)))
    rw [rd_at, hn]
    have g := ih (pre ++ [c]) hb.tail (by simpa using hl)
    have e : pol (pre ++ [c]) = pol pre * 2 ^ 8 + n := by rw [pol_append, pol_cons, hn]; simp [pol_nil]
    have e2 : ((pre ++ [c]).length : Int) = ((pre.length + 1 : Nat) : Int) := by simp
    rw [e, e2, List.append_assoc, List.singleton_append] at g
    rw [hn] at g
    simp only [List.length_append, List.length_cons] at hl
    exact of_inner hd hm _ pre.length (pol pre) n hn2 (by omega) _ g 8 _ (Nat.le_refl _) (by rw [Nat.div_eq_of_lt hn2]; simp)
theorem of_ev {m d : Nat} (hd : Deg m d) (hm : m < 2 ^ 64) {l : List Int} (hb : By l) (hl : l.length ≤ 140737488355328) :
    Ev (fun k => poly_Of.f k l (m : Int)) (((pm m d (pol l) : Nat) : Int), 0) := by
  have hm0 : m ≠ 0 := by
    have h5 := hd.1
    have h6 := Nat.two_pow_pos d
    omega
  unfold poly_Of.f
  refine Ev_ite_neg (by omega) ?_
  by_cases h1 : m = 1
  · subst h1
    obtain rfl := deg_one hd
    refine Ev_ite_pos rfl ?_
    rw [pm_one]; exact Ev.now _
  · refine Ev_ite_neg (by omega) (Ev.bind (deg_ev hd hm) ?_)
    have := of_loop hd hm l [] hb hl
    rw [pol_nil, pm_zero] at this
    exact this

theorem ref_degree_loop (p : Nat) (hp : p < 2 ^ 64) : ∀ (n i : Nat), i + n = 64 →
    Ev (fun k => parapetref01_Degree.l0 k (p : Int) (((len (p % 2 ^ i) : Nat) : Int) - 1) (i : Int)) (((len p : Nat) : Int) - 1) := by
  intro n
  induction n with
  | zero =>
    intro i hi
    obtain rfl : i = 64 := by omega
    refine Ev.step (fun k => parapetref01_Degree.l0.eq_2 ..) (Ev_ite_neg (by omega) ?_)
    rw [Nat.mod_eq_of_lt hp]; exact Ev.now _
  | succ n ih =>
    intro i hi
    refine Ev.step (fun k => parapetref01_Degree.l0.eq_2 ..) (Ev_ite_pos (by omega) (Ev_ite_pos (by omega) ?_))
    have e : wrap64 ((i : Int) + 1) = ((i + 1 : Nat) : Int) := by rw [wrap64_id (by omega) (by omega)]; omega
    rw [e]
    have g := ih (i + 1) (by omega)
    have hm : p % 2 ^ (i + 1) = (p.testBit i).toNat * 2 ^ i + p % 2 ^ i := by
      have hh := (halves p i).1
      rw [Nat.pow_succ, Nat.mod_mul, hh, Nat.mul_comm]; omega
    have hlt : p % 2 ^ i < 2 ^ i := Nat.mod_lt _ (Nat.two_pow_pos i)
    by_cases c : p.testBit i = true
    · refine Ev_ite_neg (by rw [bit64_zero hp (by omega), c]; simp) ?_
      rw [c] at hm
      simp only [Bool.toNat_true, Nat.one_mul] at hm
      have : len (p % 2 ^ (i + 1)) = i + 1 := len_iff.2 ⟨by omega, Nat.mod_lt _ (Nat.two_pow_pos _)⟩
      rw [this, show (((i + 1 : Nat) : Int) - 1) = (i : Int) from by omega] at g
      exact g
    · have c' : p.testBit i = false := by simpa using c
      refine Ev_ite_pos ((bit64_zero hp (by omega)).2 c') ?_
      rw [c'] at hm
      simp only [Bool.toNat_false, Nat.zero_mul, Nat.zero_add] at hm
      rw [hm] at g
      exact g
theorem ref_degree_ev {p : Nat} (hp : p < 2 ^ 64) : Ev (fun k => parapetref01_Degree.f k (p : Int)) (((len p : Nat) : Int) - 1) := by
  have := ref_degree_loop p hp 64 0 rfl
  rwa [Nat.pow_zero, Nat.mod_one] at this
theorem ref_deg_ev {m d : Nat} (hd : Deg m d) (hm : m < 2 ^ 64) : Ev (fun k => parapetref01_Degree.f k (m : Int)) (d : Int) := by
  have := ref_degree_ev hm
  rw [hd.len, show (((d + 1 : Nat) : Int) - 1) = (d : Int) from by omega] at this
  exact this

/-- the number of coefficients, the first one the highest -/
def bpol (l : List Bool) : Nat := l.foldl (fun a c => a * 2 + c.toNat) 0
theorem bpol_acc (l : List Bool) : ∀ a, l.foldl (fun a c => a * 2 + c.toNat) a = a * 2 ^ l.length + bpol l := by
  unfold bpol
  induction l with
  | nil => intro a; simp
  | cons c l ih =>
    intro a
    simp only [List.foldl_cons, List.length_cons]
    rw [ih, ih (0 * 2 + c.toNat), Nat.pow_succ, Nat.zero_mul, Nat.zero_add, Nat.add_mul, Nat.add_assoc, Nat.mul_assoc, Nat.mul_comm 2 (2 ^ l.length)]
theorem bpol_nil : bpol [] = 0 := rfl
theorem bpol_cons (c : Bool) (l : List Bool) : bpol (c :: l) = c.toNat * 2 ^ l.length + bpol l := by
  have := bpol_acc l (0 * 2 + c.toNat)
  unfold bpol at this ⊢
  rw [List.foldl_cons, this]; simp
theorem bpol_lt (l : List Bool) : bpol l < 2 ^ l.length := by
  induction l with
  | nil => simp [bpol_nil]
  | cons c l ih =>
    rw [bpol_cons, List.length_cons, Nat.pow_succ]
    cases c <;> simp <;> omega
theorem bpol_append (a b : List Bool) : bpol (a ++ b) = bpol a * 2 ^ b.length + bpol b := by
  induction a with
  | nil => simp [bpol_nil]
  | cons c a ih =>
    rw [List.cons_append, bpol_cons, ih, bpol_cons, List.length_append, Nat.pow_add, Nat.add_mul, Nat.mul_assoc, Nat.add_assoc]
theorem bpol_snoc (a : List Bool) (c : Bool) : bpol (a ++ [c]) = 2 * bpol a + c.toNat := by
  rw [bpol_append, bpol_cons, bpol_nil]; simp; omega
theorem rdOf_at (pre : List Bool) (c : Bool) (l : List Bool) : rdOf false (pre ++ c :: l) (pre.length : Int) = c := by
  unfold rdOf; simp
theorem rbits_loop {m d : Nat} (hd : Deg m d) (hm : m < 2 ^ 64) (hd1 : 1 ≤ d) : ∀ (l pre : List Bool), (pre ++ l).length ≤ 9223372036854775806 →
    Ev (fun k => parapetref01_Bits.l0 k (pre ++ l) (m : Int) (d : Int) ((pm m d (bpol pre) : Nat) : Int) (pre.length : Int)) ((pm m d (bpol (pre ++ l)) : Nat) : Int) := by
  have hd64 := hd.lt hm
  intro l
  induction l with
  | nil =>
    intro pre _
    refine Ev.step (fun k => parapetref01_Bits.l0.eq_2 ..) (Ev_ite_neg (by simp) ?_)
    rw [List.append_nil]; exact Ev.now _
  | cons c l ih =>
    intro pre hl
    have hlt : ((pre.length : Nat) : Int) < ((pre ++ c :: l).length : Int) := by simp; omega
    have hlt' := pm_lt hd.1 hd.2 (bpol pre)
    have hout2 : 2 * pm m d (bpol pre) < 2 ^ (d + 1) := by rw [Nat.pow_succ]; omega
    have h2 : 2 * pm m d (bpol pre) < 2 ^ 64 := Nat.lt_of_lt_of_le hout2 (pow64 (by omega))
    have h1 : pm m d (bpol pre) < 2 ^ 64 := by omega
    have g := ih (pre ++ [c]) (by simpa using hl)
    have e : wrap64 ((pre.length : Int) + 1) = ((pre ++ [c]).length : Int) := by
      simp only [List.length_append, List.length_cons] at hl
      rw [wrap64_id (by omega) (by omega)]; simp
    have e1 : wrap64 ((d : Int) - 1) = ((d - 1 : Nat) : Int) := by rw [wrap64_id (by omega) (by omega)]; omega
    have e2 : IntKind.u64.wrap (((pm m d (bpol pre) : Nat) : Int) * 2) = ((2 * pm m d (bpol pre) : Nat) : Int) := by rw [wrap_u64]; omega
    rw [bpol_snoc, pm_bit _ _ _ _ (by cases c <;> simp), List.append_assoc, List.singleton_append] at g
    have hbit : (2 * pm m d (bpol pre) ^^^ c.toNat).testBit d = (pm m d (bpol pre)).testBit (d - 1) := by
      obtain ⟨d', rfl⟩ : ∃ d', d = d' + 1 := ⟨d - 1, by omega⟩
      rw [Nat.testBit_xor, Nat.testBit_succ, Nat.mul_div_cancel_left _ (by omega), Nat.add_sub_cancel]
      have : c.toNat.testBit (d' + 1) = false := by
        apply Nat.testBit_lt_two_pow
        have := Nat.pow_le_pow_right (n := 2) (by omega) (show 1 ≤ d' + 1 from by omega)
        cases c <;> simp <;> omega
      rw [this, Bool.xor_false]
    unfold red at g
    rw [hbit] at g
    refine Ev.step (fun k => parapetref01_Bits.l0.eq_2 ..) (Ev_ite_pos hlt ?_)
    rw [e1]
    refine Ev_ite_pos (by omega) (Ev_ite_pos (by omega) ?_)
    rw [rdOf_at, e, e2, show (1 : Int) = ((1 : Nat) : Int) from rfl, xor64 h2 (by omega), xor64 (Nat.xor_lt_two_pow h2 (by omega)) hm, xor64 h2 hm]
    by_cases tb : (pm m d (bpol pre)).testBit (d - 1) = true
    · have tn : ¬ (Go.bits .and .u64 (shr .u64 ((pm m d (bpol pre) : Nat) : Int) ((d - 1 : Nat) : Int)) ((1 : Nat) : Int) = 0) := by
        rw [show ((1 : Nat) : Int) = 1 from rfl, bit64_zero h1 (by omega), tb]; simp
      rw [if_pos tb] at g
      cases c
      · refine Ev_ite_neg (by simp) (Ev_ite_neg tn ?_)
        simpa using g
      · refine Ev_ite_pos rfl (Ev_ite_neg tn ?_)
        simpa using g
    · have tb' : (pm m d (bpol pre)).testBit (d - 1) = false := by simpa using tb
      have tn : (Go.bits .and .u64 (shr .u64 ((pm m d (bpol pre) : Nat) : Int) ((d - 1 : Nat) : Int)) ((1 : Nat) : Int) = 0) := by
        rw [show ((1 : Nat) : Int) = 1 from rfl, bit64_zero h1 (by omega), tb']
      rw [if_neg tb] at g
      cases c
      · refine Ev_ite_neg (by simp) (Ev_ite_pos tn ?_)
        simpa using g
      · refine Ev_ite_pos rfl (Ev_ite_pos tn ?_)
        simpa using g
theorem rbits_ev {m d : Nat} (hd : Deg m d) (hm : m < 2 ^ 64) {l : List Bool} (hl : l.length ≤ 9223372036854775806) :
    Ev (fun k => parapetref01_Bits.f k l (m : Int)) ((pm m d (bpol l) : Nat) : Int) := by
  unfold parapetref01_Bits.f
  refine Ev.bind (ref_deg_ev hd hm) ?_
  by_cases h : d = 0
  · subst h
    refine Ev_ite_pos rfl ?_
    have := pm_lt hd.1 hd.2 (bpol l)
    rw [show pm m 0 (bpol l) = 0 from by omega]
    exact Ev.now _
  · refine Ev_ite_neg (by omega) ?_
    have := rbits_loop hd hm (by omega) l [] hl
    rw [bpol_nil, pm_zero] at this
    exact this

theorem rof_inner {m : Nat} (pre : List Int) (n : Nat) (l : List Int) (hn : n < 256) (hl : (pre ++ (n : Int) :: l).length ≤ 10000000) (r : Int × Int) (P : Nat)
    (h : ∀ bs : List Bool, bs.length = 8 * (pre.length + 1) → bpol bs = P * 256 + n → Ev (fun k => parapetref01_Of.l0 k (pre ++ (n : Int) :: l) (m : Int) bs ((pre.length + 1 : Nat) : Int)) r) :
    ∀ (j : Nat) (bs : List Bool), j ≤ 8 → bs.length + j = 8 * (pre.length + 1) → bpol bs = P * 2 ^ (8 - j) + n / 2 ^ j →
    Ev (fun k => parapetref01_Of.l1 k (pre ++ (n : Int) :: l) (m : Int) bs (pre.length : Int) ((j : Int) - 1)) r := by
  have hlen : (pre ++ (n : Int) :: l).length = pre.length + (l.length + 1) := by simp
  intro j
  induction j with
  | zero =>
    intro bs _ hb hp
    refine Ev.step (fun k => parapetref01_Of.l1.eq_2 ..) (Ev_ite_neg (by omega) ?_)
    rw [w_succ (by omega)]
    exact h bs (by omega) (by rw [hp, Nat.pow_zero, Nat.div_one])
  | succ j ih =>
    intro bs hj hb hp
    have e1 : ((j + 1 : Nat) : Int) - 1 = (j : Int) := by omega
    rw [e1]
    refine Ev.step (fun k => parapetref01_Of.l1.eq_2 ..) (Ev_ite_pos (by omega) (Ev_ite_pos (by omega) (Ev_ite_pos (by omega) (Ev_ite_pos (by omega) (Ev_ite_pos (by omega) ?_)))))
    rw [rd_at, bit8 hn (by omega), w_pred (by omega)]
    have eb : (((((n.testBit j).toNat : Nat) : Int)) != 0) = n.testBit j := by cases n.testBit j <;> rfl
    rw [eb]
    refine ih _ (by omega) (by rw [List.length_append, List.length_singleton]; omega) ?_
    rw [bpol_snoc, hp]
    have hh := halves n j
    have e5 : P * 2 ^ (8 - j) = 2 * (P * 2 ^ (8 - (j + 1))) := by
      rw [show 8 - j = (8 - (j + 1)) + 1 from by omega, Nat.pow_succ, ← Nat.mul_assoc, Nat.mul_comm 2]
    rw [e5, ← hh.2]
    clear h ih hp eb
    generalize P * 2 ^ (8 - (j + 1)) = u at *
    generalize n / 2 ^ j = v at *
    omega
theorem rof_loop {m d : Nat} (hd : Deg m d) (hm : m < 2 ^ 64) : ∀ (l pre : List Int) (bs : List Bool), By l → (pre ++ l).length ≤ 10000000 → bs.length = 8 * pre.length → bpol bs = pol pre →
    Ev (fun k => parapetref01_Of.l0 k (pre ++ l) (m : Int) bs (pre.length : Int)) (((pm m d (pol (pre ++ l)) : Nat) : Int), 0) := by
  intro l
  induction l with
  | nil =>
    intro pre bs _ hl hb hp
    rw [List.append_nil] at hl ⊢
    refine Ev.step (fun k => parapetref01_Of.l0.eq_2 ..) (Ev_ite_neg (by omega) (Ev.bind (rbits_ev hd hm (by omega)) ?_))
    rw [hp]; exact Ev.now _
  | cons c l ih =>
    intro pre bs hb hl hbs hp
    have hc := hb.head
    obtain ⟨n, rfl⟩ : ∃ n : Nat, c = (n : Int) := ⟨c.toNat, by omega⟩
    have hlen : (pre ++ (n : Int) :: l).length = pre.length + (l.length + 1) := by simp
    have e3 : (pre ++ [(n : Int)]).length = pre.length + 1 := by simp
    refine Ev.step (fun k => parapetref01_Of.l0.eq_2 ..) (Ev_ite_pos (by omega) ?_)
    refine rof_inner pre n l (by omega) hl _ (pol pre) (fun bs' h1 h2 => ?_) 8 bs (Nat.le_refl _) (by omega) (by rw [hp, Nat.div_eq_of_lt (by omega)]; simp)
    have g := ih (pre ++ [(n : Int)]) bs' hb.tail (by simpa using hl) (by rw [e3]; exact h1) (by rw [h2, pol_append, pol_cons]; simp [pol_nil])
    rw [List.append_assoc, List.singleton_append, e3] at g
    exact g
theorem rof_ev {m d : Nat} (hd : Deg m d) (hm : m < 2 ^ 64) {l : List Int} (hb : By l) (hl : l.length ≤ 10000000) :
    Ev (fun k => parapetref01_Of.f k l (m : Int)) (((pm m d (pol l) : Nat) : Int), 0) := by
  have hm0 : m ≠ 0 := by
    have h5 := hd.1
    have h6 := Nat.two_pow_pos d
    omega
  unfold parapetref01_Of.f
  have e : wrap64 (8 * (l.length : Int)) = ((8 * l.length : Nat) : Int) := by rw [wrap64_id (by omega) (by omega)]; omega
  rw [e]
  exact Ev_ite_neg (by omega) (Ev_ite_pos (by omega) (Ev_ite_pos (by omega) (rof_loop hd hm l [] [] hb hl rfl rfl)))

theorem G64 : G < 2 ^ 64 := by unfold G; omega
theorem GD : Deg G 32 := ⟨G1, G2⟩

/-- the four bytes of a word -/
def word4 (s : Int) : List Int := [(s / 16777216) % 256, (s / 65536) % 256, (s / 256) % 256, s % 256]
theorem word4_by (s : Int) : By (word4 s) := by
  intro x hx; simp [word4] at hx; omega
theorem word4_pol {s : Nat} (h : s < 2 ^ 32) : pol (word4 (s : Int)) = s := by
  simp [word4, pol]; omega
theorem crc_sealed {l : List Int} : crc (l ++ word4 (crc l : Int)) = 0 := by
  have hw := word4_by (crc l : Int)
  unfold crc
  have h : pol (l ++ word4 ((crc l : Nat) : Int)) = pol l * 2 ^ 32 ^^^ crc l := by
    rw [pol_append_xor hw, word4_pol (crc_lt l)]; rfl
  have e : pm G 32 (pol l * 2 ^ 32 ^^^ crc l) = 0 := by
    rw [pm_xor G1 G2, pm_small (p := crc l) G1 G2 (crc_lt l)]; unfold crc; simp
  show pm G 32 (pol (l ++ word4 ((crc l : Nat) : Int)) * 2 ^ 32) = 0
  rw [h, ← pm_shift G1 G2, e, Nat.zero_mul, pm_zero]
def sealed (l : List Int) : List Int := l ++ word4 (crc l : Int)
theorem sealed_by {l : List Int} (h : By l) : By (sealed l) := h.append (word4_by _)
theorem sealed_length (l : List Int) : (sealed l).length = l.length + 4 := by simp [sealed, word4]
theorem clone_f {l : List Int} (hl : l.length < 140737488355328) : slices_Clone_byte_byte.f l = some l := by
  unfold slices_Clone_byte_byte.f
  rw [Option.bind_some, if_pos (by simpa using hl), List.nil_append]
theorem seal_ev {l : List Int} (hb : By l) (hl : l.length ≤ 140737488355000) : Ev (fun k => crc_Seal.f k l) (sealed l) := by
  unfold crc_Seal.f
  refine Ev.bind (bits_ev hb (by omega)) ?_
  rw [clone_f (by omega)]
  refine Ev_some (Ev_some (Ev_ite_pos (by simp; omega) ?_))
  exact Ev.now _
theorem valid_ev {l : List Int} (hb : By l) (hl : l.length ≤ 140737488355328) (h4 : 4 ≤ l.length) : Ev (fun k => crc_Valid.f k l) (decide (crc l = 0)) := by
  unfold crc_Valid.f
  refine Ev_ite_pos (by omega) (Ev.bind (bits_ev hb hl) ?_)
  have : (((crc l : Nat) : Int) == 0) = decide (crc l = 0) := by
    by_cases h : crc l = 0
    · rw [h]; rfl
    · rw [decide_eq_false h]; simpa using h
  rw [this]; exact Ev.now _
theorem awake_ev : Ev (fun k => parapetlaw02_Awake.f k) true := Ev.of parapetlaw02_Awake.mono (k := 30) (by decide +kernel)

theorem or32 {a b : Nat} (ha : a < 2 ^ 32) (hb : b < 2 ^ 32) : bits .or .u32 (a : Int) (b : Int) = ((a ||| b : Nat) : Int) := u32_or_nat a b (by omega) (by omega)
theorem or_add {i a b : Nat} (h : b < 2 ^ i) : a * 2 ^ i ||| b = a * 2 ^ i + b := by rw [Nat.mul_comm a, Nat.two_pow_add_eq_or_of_lt h]
def num4 (a b c d : Nat) : Nat := a * 16777216 + b * 65536 + c * 256 + d
theorem num_or {a b c d : Nat} (ha : a < 256) (hb : b < 256) (hc : c < 256) (hd : d < 256) :
    Go.bits .or .u32 (Go.bits .or .u32 (Go.bits .or .u32 ((((a : Int) % 4294967296) * 16777216) % 4294967296) ((((b : Int) % 4294967296) * 65536) % 4294967296)) ((((c : Int) % 4294967296) * 256) % 4294967296)) ((d : Int) % 4294967296) = ((num4 a b c d : Nat) : Int) := by
  rw [show (((a : Int) % 4294967296) * 16777216) % 4294967296 = ((a * 2 ^ 24 : Nat) : Int) from by omega, show (((b : Int) % 4294967296) * 65536) % 4294967296 = ((b * 2 ^ 16 : Nat) : Int) from by omega,
    show (((c : Int) % 4294967296) * 256) % 4294967296 = ((c * 2 ^ 8 : Nat) : Int) from by omega, show ((d : Int) % 4294967296) = (d : Int) from by omega]
  rw [or32 (by omega) (by omega), or_add (by omega), or32 (by omega) (by omega), show a * 2 ^ 24 + b * 2 ^ 16 = (a * 2 ^ 8 + b) * 2 ^ 16 from by omega, or_add (by omega), or32 (by omega) (by omega),
    show (a * 2 ^ 8 + b) * 2 ^ 16 + c * 2 ^ 8 = ((a * 2 ^ 8 + b) * 2 ^ 8 + c) * 2 ^ 8 from by omega, or_add (by omega)]
  unfold num4; omega
def w4 (s : Int) : List Int := [(s / 16777216) % 256, (s / 65536) % 256, (s / 256) % 256, s % 256]
theorem w4_num {a b c d : Nat} (ha : a < 256) (hb : b < 256) (hc : c < 256) (hd : d < 256) : w4 ((num4 a b c d : Nat) : Int) = [(a : Int), (b : Int), (c : Int), (d : Int)] := by
  unfold w4 num4
  congr 1
  · omega
  congr 1
  · omega
  congr 1
  · omega
  congr 1
  omega
theorem uncons {α : Type} {l : List α} {k : Nat} (h : l.length = k + 1) : ∃ a t, l = a :: t ∧ t.length = k := by
  cases l with
  | nil => simp at h
  | cons a t => exact ⟨a, t, rfl, by simpa using h⟩
theorem w4_bytes {a : Nat} (h : a < 4294967296) : ∃ x y z v : Nat, x < 256 ∧ y < 256 ∧ z < 256 ∧ v < 256 ∧ w4 (a : Int) = [(x : Int), (y : Int), (z : Int), (v : Int)] ∧ num4 x y z v = a := by
  refine ⟨a / 16777216, a / 65536 % 256, a / 256 % 256, a % 256, by omega, by omega, by omega, by omega, ?_, ?_⟩
  · unfold w4
    congr 1
    · omega
  · unfold num4; omega

theorem rsum_ev {l : List Int} (hb : By l) (hl : l.length ≤ 9000000) : Ev (fun k => parapetref02_Sum.f k l) (crc l : Int) := by
  unfold parapetref02_Sum.f
  have e : wrap64 ((l.length : Int) + 4) = ((l.length + 4 : Nat) : Int) := by rw [wrap64_id (by omega) (by omega)]; omega
  rw [e]
  refine Ev_ite_pos (by omega) (Ev_ite_pos (by omega) (Ev_some (Ev_ite_pos (by simp; omega) (Ev_some (Ev_some (Ev_ite_pos (by simp; omega) ?_))))))
  have h0 : By [0, 0, 0, 0] := by intro x hx; simp at hx; omega
  have hz : By ([] ++ l ++ [0, 0, 0, 0]) := by rw [List.nil_append]; exact hb.append h0
  have g := rof_ev GD G64 hz (by simp; omega)
  refine Ev.bind g ?_
  have hp : pol ([] ++ l ++ [0, 0, 0, 0]) = pol l * 2 ^ 32 := by
    have h1 : pol [0, 0, 0, 0] = 0 := by simp [pol]
    rw [List.nil_append, pol_append, h1, Nat.add_zero]
    simp only [List.length_cons, List.length_nil]
  have e2 : ((pm G 32 (pol ([] ++ l ++ [0, 0, 0, 0])) : Nat) : Int) % 4294967296 = (crc l : Int) := by
    rw [hp]
    have := crc_lt l
    unfold crc at *
    omega
  show Ev _ _
  dsimp only
  rw [e2]
  exact Ev.now _
theorem rword_f (s : Int) : parapetref02_Word.f s = some (word4 s) := rfl
theorem rseal_ev {l : List Int} (hb : By l) (hl : l.length ≤ 9000000) : Ev (fun k => parapetref02_Seal.f k l) (sealed l) := by
  unfold parapetref02_Seal.f
  refine Ev_some (Ev_ite_pos (by simp; omega) (Ev_some (Ev.bind (rsum_ev hb hl) ?_)))
  rw [rword_f]
  exact Ev_some (Ev_ite_pos (by simp [word4]; omega) (Ev.now _))

theorem xor8 {a b : Nat} (ha : a < 256) (hb : b < 256) : bits .xor .u8 (a : Int) (b : Int) = ((a ^^^ b : Nat) : Int) := u8_xor_nat a b (by omega) (by omega)
theorem shr128 {j : Nat} (h : j < 8) : shr .u8 128 (j : Int) = ((2 ^ (7 - j) : Nat) : Int) := by
  have h1 : ∀ j : Fin 8, shr .u8 128 ((j.val : Nat) : Int) = ((2 ^ (7 - j.val) : Nat) : Int) := by decide +kernel
  exact h1 ⟨j, h⟩
/-- a list with the bit in this place turned -/
def flip (l : List Int) (k : Nat) : List Int := l.set (k / 8) (bits .xor .u8 (rd l ((k / 8 : Nat) : Int)) (shr .u8 128 ((k % 8 : Nat) : Int)))
theorem flip_length (l : List Int) (k : Nat) : (flip l k).length = l.length := by unfold flip; rw [List.length_set]
theorem flip_both : ∀ (l : List Int) (k : Nat), By l → k < 8 * l.length → By (flip l k) ∧ pol (flip l k) = pol l ^^^ 2 ^ (8 * l.length - 1 - k) := by
  intro l
  induction l with
  | nil => intro k _ h; simp at h
  | cons c l ih =>
    intro k hb hk
    by_cases h : k < 8
    · have e0 : k / 8 = 0 := by omega
      have e1 : k % 8 = k := by omega
      have hc := hb.head
      obtain ⟨n, rfl⟩ : ∃ n : Nat, c = (n : Int) := ⟨c.toNat, by omega⟩
      have hp : 2 ^ (7 - k) < 256 := by
        have : 2 ^ (7 - k) < 2 ^ 8 := Nat.pow_lt_pow_right (by omega) (by omega)
        simpa using this
      have hn : n < 256 := by omega
      have hx : n ^^^ 2 ^ (7 - k) < 256 := Nat.xor_lt_two_pow (n := 8) hn hp
      have er : rd ((n : Int) :: l) ((0 : Nat) : Int) = (n : Int) := by unfold rd; simp
      have hf : flip ((n : Int) :: l) k = ((n ^^^ 2 ^ (7 - k) : Nat) : Int) :: l := by
        unfold flip
        rw [e0, e1, er, shr128 h, xor8 hn hp]
        rfl
      rw [hf]
      constructor
      · intro x hx'
        rcases List.mem_cons.1 hx' with rfl | hx'
        · omega
        · exact hb.tail x hx'
      · rw [pol_cons, pol_cons, Int.toNat_natCast, Int.toNat_natCast, add_eq_xor (pol_lt hb.tail), add_eq_xor (pol_lt hb.tail), xor_shift, ← Nat.pow_add, List.length_cons]
        rw [show 7 - k + 8 * l.length = 8 * (l.length + 1) - 1 - k from by omega, Nat.xor_assoc, Nat.xor_assoc, Nat.xor_comm (2 ^ _)]
    · have e0 : k / 8 = (k - 8) / 8 + 1 := by omega
      have e1 : k % 8 = (k - 8) % 8 := by omega
      rw [List.length_cons] at hk
      obtain ⟨h1, h2⟩ := ih (k - 8) hb.tail (by omega)
      have er : rd (c :: l) ((((k - 8) / 8 + 1 : Nat)) : Int) = rd l (((k - 8) / 8 : Nat) : Int) := by
        unfold rd; rw [Int.toNat_natCast, Int.toNat_natCast, List.getD_cons_succ]
      have hf : flip (c :: l) k = c :: flip l (k - 8) := by
        unfold flip
        rw [e0, e1, er]
        rfl
      rw [hf]
      have hxl : pol l ^^^ 2 ^ (8 * l.length - 1 - (k - 8)) < 2 ^ (8 * l.length) := Nat.xor_lt_two_pow (pol_lt hb.tail) (Nat.pow_lt_pow_right (by omega) (by omega))
      constructor
      · intro x hx'
        rcases List.mem_cons.1 hx' with rfl | hx'
        · exact hb.head
        · exact h1 x hx'
      · rw [pol_cons, pol_cons, flip_length, h2, add_eq_xor hxl, add_eq_xor (pol_lt hb.tail), List.length_cons, Nat.xor_assoc]
        rw [show 8 * l.length - 1 - (k - 8) = 8 * (l.length + 1) - 1 - k from by omega]
/-- 'x' goes out of what an odd polynomial divides -/
theorem odd_cancel {m : Nat} (hm : m % 2 = 1) : ∀ (e x : Nat), Cong m (x * 2 ^ e) 0 → Cong m x 0 := by
  intro e
  induction e with
  | zero => intro x h; simpa using h
  | succ e ih =>
    intro x h
    apply ih
    rw [Nat.pow_succ, ← Nat.mul_assoc] at h
    generalize x * 2 ^ e = y at h ⊢
    obtain ⟨a, ha⟩ := h
    rw [Nat.xor_zero] at ha
    have h2 : (cm m a) % 2 = a % 2 := by
      rw [cm_comm, cm_eq, if_pos hm, xor_mod2]; omega
    have ha2 : a = 2 * (a / 2) := by omega
    rw [ha2, cm_dbl] at ha
    exact ⟨a / 2, by rw [Nat.xor_zero]; omega⟩
theorem burst_seen {w e : Nat} (h0 : w ≠ 0) (hw : w < 2 ^ 32) : pm G 32 (w * 2 ^ e) ≠ 0 := by
  intro h
  have h1 := pm_cong G 32 (w * 2 ^ e)
  rw [h] at h1
  have h2 := odd_cancel (m := G) (by unfold G; omega) e w h1
  have h3 := pm_eq_of_cong G1 G2 h2
  rw [pm_small G1 G2 hw, pm_zero] at h3
  exact h0 h3
theorem crc_xor {l l' : List Int} {p : Nat} (h : pol l' = pol l ^^^ p) (hl : crc l = 0) : crc l' = pm G 32 (p * 2 ^ 32) := by
  unfold crc at hl ⊢
  rw [h, xor_shift, pm_xor G1 G2, hl, Nat.zero_xor]

theorem byte_inj {x y : Int} (hx : 0 ≤ x ∧ x < 256) (hy : 0 ≤ y ∧ y < 256) (h : UInt8.ofNat x.toNat = UInt8.ofNat y.toNat) : x = y := by
  have g := congrArg UInt8.toNat h
  rw [UInt8.toNat_ofNat', UInt8.toNat_ofNat'] at g
  omega
theorem bytes_inj : ∀ {a b : List Int}, By a → By b → (a.map fun n => UInt8.ofNat n.toNat) = (b.map fun n => UInt8.ofNat n.toNat) → a = b
  | [], [], _, _, _ => rfl
  | [], _ :: _, _, _, h => by cases h
  | _ :: _, [], _, _, h => by cases h
  | x :: a, y :: b, ha, hb, h => by
    rw [List.map_cons, List.map_cons] at h
    injection h with h1 h2
    rw [byte_inj ha.head hb.head h1, bytes_inj ha.tail hb.tail h2]
theorem str_eq {a b : List Int} (ha : By a) (hb : By b) : ((strOfNums a).toList == (strOfNums b).toList) = decide (a = b) := by
  by_cases h : a = b
  · rw [decide_eq_true h, h]; exact beq_iff_eq.2 rfl
  · rw [decide_eq_false h]
    refine beq_eq_false_iff_ne.2 (fun e => h (bytes_inj ha hb ?_))
    rw [ByteArray.toList_eq, ByteArray.toList_eq] at e
    exact e

theorem pow32_cancel {x : Nat} : pm G 32 (x * 2 ^ 32) = 0 ↔ pm G 32 x = 0 := by
  constructor
  · intro h
    have h1 := pm_cong G 32 (x * 2 ^ 32)
    rw [h] at h1
    have h2 := odd_cancel (m := G) (by unfold G; omega) 32 x h1
    have h3 := pm_eq_of_cong G1 G2 h2
    rw [h3, pm_zero]
  · intro h
    rw [← pm_shift G1 G2, h, Nat.zero_mul, pm_zero]
theorem xor_eq_zero' {a b : Nat} : a ^^^ b = 0 ↔ b = a := by
  constructor
  · intro h; exact (xor_zero h).symm
  · intro h; rw [h]; exact Nat.xor_self a
theorem four_eq {b : List Int} (hb : By b) (hl : b.length = 4) {s : Nat} (hs : s < 2 ^ 32) : pol b = s ↔ b = word4 (s : Int) := by
  constructor
  · intro h
    match b, hl, hb with
    | [x, y, z, v], _, hb =>
      have h0 := hb x (by simp)
      have h1 := hb y (by simp)
      have h2 := hb z (by simp)
      have h3 := hb v (by simp)
      obtain ⟨x, rfl⟩ := Int.eq_ofNat_of_zero_le h0.1
      obtain ⟨y, rfl⟩ := Int.eq_ofNat_of_zero_le h1.1
      obtain ⟨z, rfl⟩ := Int.eq_ofNat_of_zero_le h2.1
      obtain ⟨v, rfl⟩ := Int.eq_ofNat_of_zero_le h3.1
      have hp : s = num4 x y z v := by
        rw [← h]
        simp [pol, num4]
        omega
      rw [hp]
      exact (w4_num (by omega) (by omega) (by omega) (by omega)).symm
  · intro h
    rw [h, word4_pol hs]
theorem valid_split {a b : List Int} (hb : By b) (hl : b.length = 4) : crc (a ++ b) = 0 ↔ b = word4 (crc a : Int) := by
  rw [← four_eq hb hl (crc_lt a)]
  have h4 : pol b < 2 ^ 32 := by have := pol_lt hb; rw [hl] at this; exact this
  unfold crc
  rw [pow32_cancel, pol_append_xor hb, hl, show 8 * 4 = 32 from rfl, pm_xor G1 G2, pm_small G1 G2 h4, xor_eq_zero']
theorem rvalid_ev {l : List Int} (hb : By l) (hl : l.length ≤ 9000000) (h4 : 4 ≤ l.length) : Ev (fun k => parapetref02_Valid.f k l) (decide (crc l = 0)) := by
  unfold parapetref02_Valid.f
  have e : wrap64 ((l.length : Int) - 4) = ((l.length - 4 : Nat) : Int) := by rw [wrap64_id (by omega) (by omega)]; omega
  rw [e, Int.toNat_natCast]
  have ha : By (l.take (l.length - 4)) := fun x hx => hb x (List.mem_of_mem_take hx)
  have hd : By (l.drop (l.length - 4)) := fun x hx => hb x (List.mem_of_mem_drop hx)
  refine Ev_ite_pos (by omega) (Ev_ite_pos (by omega) (Ev_ite_pos (by omega) (Ev.bind (rsum_ev ha (by rw [List.length_take]; omega)) ?_)))
  rw [rword_f]
  refine Ev_some ?_
  have e2 : ((strOfNums (l.drop (l.length - 4))).toList == (strOfNums (word4 (crc (l.take (l.length - 4)) : Int))).toList) = decide (crc l = 0) := by
    rw [str_eq hd (word4_by _)]
    have := valid_split (a := l.take (l.length - 4)) hd (by rw [List.length_drop]; omega)
    rw [List.take_append_drop] at this
    exact decide_eq_decide.2 this.symm
  rw [e2]
  exact Ev.now _

end Go.Proofs.Ytcnlomknmhgpbaa.Pure
