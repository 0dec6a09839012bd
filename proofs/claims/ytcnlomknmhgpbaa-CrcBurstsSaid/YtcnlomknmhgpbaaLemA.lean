/- Lemmas on the printed functions: what each comes to, over plain numbers and lists. -/
import Derived.Test.YtcnlomknmhgpbaaPAx1
import Derived.Test.YtcnlomknmhgpbaaPAx2
import Derived.Test.YtcnlomknmhgpbaaPAx3
import Derived.Test.YtcnlomknmhgpbaaPAx4
import Derived.Test.YtcnlomknmhgpbaaPAx5
import Derived.Test.YtcnlomknmhgpbaaPAx6
import Derived.Test.YtcnlomknmhgpbaaBt
namespace Go.Proofs.Ytcnlomknmhgpbaa.Pure
open Go Go.RowKit Go.Proofs.Ytcnlomknmhgpbaa.PA Go.Proofs.YtcnlomknmhgpbaaW.PrintWords Go.Proofs.YtcnlomknmhgpbaaW.PrintLast Go.Proofs.YtcnlomknmhgpbaaW.PrintMore
open Go.Proofs.Ytcnlomknmhgpbaa.Gf Go.Proofs.Ytcnlomknmhgpbaa.Bt
theorem step_round {s : Nat} (h : s < 2 ^ 32) : (if ((s : Int) / 2147483648) = 0 then (((s : Int) * 2) % 4294967296) else (Go.bits .xor .u32 (((s : Int) * 2) % 4294967296) 517762881)) = ((pm G 32 (2 * s) : Nat) : Int) := by
  have h2 : 2 * s < 2 ^ (32 + 1) := by omega
  rw [pm_red G1 G2 h2]
  unfold red
  rw [testBit_top h2]
  by_cases c : s < 2147483648
  · rw [if_pos (by omega), if_neg (by simp; omega)]; omega
  · rw [if_neg (by omega), if_pos (by simp; omega)]
    have e1 : ((s : Int) * 2) % 4294967296 = ((2 * s - 2 ^ 32 : Nat) : Int) := by omega
    rw [e1, show (517762881 : Int) = ((517762881 : Nat) : Int) from rfl, xor32 (by omega) (by omega)]
    have e2 : 2 * s = 1 * 2 ^ 32 ^^^ (2 * s - 2 ^ 32) := by rw [← add_eq_xor (by omega)]; omega
    have e3 : G = 1 * 2 ^ 32 ^^^ 517762881 := by rw [← add_eq_xor (by omega)]; rfl
    conv => rhs; rw [e2, e3, xor4, Nat.xor_self, Nat.zero_xor]
theorem step_loop : ∀ (n i s : Nat), i + n = 8 → s < 2 ^ 32 → Ev (fun k => crc_step.l0 k (s : Int) (i : Int)) ((pm G 32 (s * 2 ^ n) : Nat) : Int) := by
  intro n
  induction n with
  | zero =>
    intro i s hi hs
    refine Ev.step (fun k => crc_step.l0.eq_2 ..) ?_
    refine Ev_ite_neg (by omega) ?_
    rw [Nat.pow_zero, Nat.mul_one, pm_small G1 G2 hs]
    exact Ev.now _
  | succ n ih =>
    intro i s hi hs
    refine Ev.step (fun k => crc_step.l0.eq_2 ..) ?_
    refine Ev_ite_pos (by omega) ?_
    have e : wrap64 ((i : Int) + 1) = ((i + 1 : Nat) : Int) := by rw [wrap64_id (by omega) (by omega)]; omega
    rw [e]
    have g := ih (i + 1) (pm G 32 (2 * s)) (by omega) (pm_lt G1 G2 _)
    rw [pm_shift G1 G2, Nat.mul_comm 2 s, Nat.mul_assoc, ← Nat.pow_succ', ← Nat.mul_comm 2 s, ← step_round hs] at g
    by_cases c : ((s : Int) / 2147483648) = 0
    · refine Ev_ite_pos c ?_
      rw [if_pos c] at g; exact g
    · refine Ev_ite_neg c ?_
      rw [if_neg c] at g; exact g
theorem step_ev {s : Nat} {c : Int} (hs : s < 2 ^ 32) (h0 : 0 ≤ c) (h1 : c < 256) : Ev (fun k => crc_step.f k (s : Int) c) ((stp s c.toNat : Nat) : Int) := by
  unfold crc_step.f
  have e : (((c) % 4294967296) * 16777216) % 4294967296 = ((c.toNat * 2 ^ 24 : Nat) : Int) := by omega
  rw [e, xor32 hs (by omega)]
  exact step_loop 8 0 _ rfl (Nat.xor_lt_two_pow hs (by omega))
theorem bits_loop : ∀ (l pre : List Int) (s : Nat), By l → (pre ++ l).length ≤ 140737488355328 → s < 2 ^ 32 →
    Ev (fun k => crc_Bits.l0 k (s : Int) (pre ++ l) ((pre ++ l).length : Int) (pre.length : Int)) ((crcFrom s l : Nat) : Int) := by
  intro l
  induction l with
  | nil =>
    intro pre s _ _ hs
    refine Ev.step (fun k => crc_Bits.l0.eq_2 ..) ?_
    refine Ev_ite_neg (by simp) ?_
    rw [crcFrom_nil hs]; exact Ev.now _
  | cons c l ih =>
    intro pre s hb hl hs
    have hc := hb.head
    refine Ev.step (fun k => crc_Bits.l0.eq_2 ..) ?_
    have hlt : ((pre.length : Nat) : Int) < ((pre ++ c :: l).length : Int) := by simp; omega
    refine Ev_ite_pos hlt (Ev_ite_pos (by omega) (Ev_ite_pos hlt ?_))
    rw [rd_at]
    refine Ev.bind (step_ev hs hc.1 hc.2) ?_
    rw [crcFrom_cons s c hb.tail]
    have g := ih (pre ++ [c]) (stp s c.toNat) hb.tail (by simpa using hl) (pm_lt G1 G2 _)
    have e : wrap64 ((pre.length : Int) + 1) = ((pre ++ [c]).length : Int) := by
      rw [wrap64_id (by omega) (by simp at hl; omega)]; simp
    rw [e]
    simpa using g
theorem bits_ev {l : List Int} (hb : By l) (hl : l.length ≤ 140737488355328) : Ev (fun k => crc_Bits.f k l) ((crc l : Nat) : Int) := by
  have := bits_loop l [] 0 hb hl (by omega)
  rw [crcFrom_zero] at this
  exact this
theorem generator_f : crc_Generator.f = some ((G : Nat) : Int) := rfl

/-- how many bits a number has -/
def len (a : Nat) : Nat := if a = 0 then 0 else a.log2 + 1
theorem len_zero : len 0 = 0 := rfl
theorem len_iff {a n : Nat} : len a = n + 1 ↔ 2 ^ n ≤ a ∧ a < 2 ^ (n + 1) := by
  unfold len
  by_cases h : a = 0
  · subst h
    have := Nat.two_pow_pos n
    simp
  · rw [if_neg h]
    have h1 := Nat.log2_self_le h
    have h2 := @Nat.lt_log2_self a
    constructor
    · intro e
      have : a.log2 = n := by omega
      subst this; exact ⟨h1, h2⟩
    · intro ⟨u, v⟩
      have e1 : a.log2 < n + 1 := (Nat.log2_lt h).2 v
      have e2 : n ≤ a.log2 := (Nat.le_log2 h).2 u
      omega
theorem len_pos {a : Nat} (h : a ≠ 0) : ∃ n, len a = n + 1 := ⟨a.log2, by simp [len, h]⟩
theorem len_le {a n : Nat} (h : a < 2 ^ n) : len a ≤ n := by
  by_cases z : a = 0
  · subst z; simp [len]
  · obtain ⟨m, hm⟩ := len_pos z
    rw [hm]
    have := (len_iff.1 hm).1
    apply Nat.lt_of_not_le
    intro c
    have := Nat.pow_le_pow_right (n := 2) (by omega) c
    have := Nat.pow_le_pow_right (n := 2) (by omega) (show n ≤ m + 1 - 1 from by omega)
    rw [Nat.add_sub_cancel] at this
    omega
theorem lt_of_len {a n : Nat} (h : len a ≤ n) : a < 2 ^ n := by
  by_cases z : a = 0
  · subst z; exact Nat.two_pow_pos n
  · obtain ⟨m, hm⟩ := len_pos z
    have := (len_iff.1 hm).2
    exact Nat.lt_of_lt_of_le this (Nat.pow_le_pow_right (by omega) (by omega))
theorem len_shift {a s : Nat} (h : a / 2 ^ s ≠ 0) : len a = s + len (a / 2 ^ s) := by
  obtain ⟨n, hn⟩ := len_pos h
  rw [hn]
  obtain ⟨u, v⟩ := len_iff.1 hn
  have hp := Nat.two_pow_pos s
  show len a = (s + n) + 1
  rw [len_iff, Nat.pow_add, show s + n + 1 = s + (n + 1) from rfl, Nat.pow_add 2 s]
  constructor
  · calc 2 ^ s * 2 ^ n ≤ 2 ^ s * (a / 2 ^ s) := Nat.mul_le_mul_left _ u
      _ ≤ a := Nat.mul_div_le _ _
  · rw [Nat.mul_comm]; exact (Nat.div_lt_iff_lt_mul hp).1 v
def tab : ByteArray := ⟨#[0, 1, 2, 2, 3, 3, 3, 3, 4, 4, 4, 4, 4, 4, 4, 4, 5, 5, 5, 5, 5, 5, 5, 5, 5, 5, 5, 5, 5, 5, 5, 5, 6, 6, 6, 6, 6, 6, 6, 6, 6, 6, 6, 6, 6, 6, 6, 6, 6, 6, 6, 6, 6, 6, 6, 6, 6, 6, 6, 6, 6, 6, 6, 6, 7, 7, 7, 7, 7, 7, 7, 7, 7, 7, 7, 7, 7, 7, 7, 7, 7, 7, 7, 7, 7, 7, 7, 7, 7, 7, 7, 7, 7, 7, 7, 7, 7, 7, 7, 7, 7, 7, 7, 7, 7, 7, 7, 7, 7, 7, 7, 7, 7, 7, 7, 7, 7, 7, 7, 7, 7, 7, 7, 7, 7, 7, 7, 7, 8, 8, 8, 8, 8, 8, 8, 8, 8, 8, 8, 8, 8, 8, 8, 8, 8, 8, 8, 8, 8, 8, 8, 8, 8, 8, 8, 8, 8, 8, 8, 8, 8, 8, 8, 8, 8, 8, 8, 8, 8, 8, 8, 8, 8, 8, 8, 8, 8, 8, 8, 8, 8, 8, 8, 8, 8, 8, 8, 8, 8, 8, 8, 8, 8, 8, 8, 8, 8, 8, 8, 8, 8, 8, 8, 8, 8, 8, 8, 8, 8, 8, 8, 8, 8, 8, 8, 8, 8, 8, 8, 8, 8, 8, 8, 8, 8, 8, 8, 8, 8, 8, 8, 8, 8, 8, 8, 8, 8, 8, 8, 8, 8, 8, 8, 8, 8, 8, 8, 8, 8, 8, 8, 8, 8, 8, 8, 8]⟩
theorem tab_all : ∀ c : Fin 256, bt tab ((c.val : Nat) : Int) = ((len c.val : Nat) : Int) := by decide +kernel
theorem tab_len {e : Int} {c : Nat} (he : e = (c : Int)) (h : c < 256) : wrap64 (bt (⟨#[0, 1, 2, 2, 3, 3, 3, 3, 4, 4, 4, 4, 4, 4, 4, 4, 5, 5, 5, 5, 5, 5, 5, 5, 5, 5, 5, 5, 5, 5, 5, 5, 6, 6, 6, 6, 6, 6, 6, 6, 6, 6, 6, 6, 6, 6, 6, 6, 6, 6, 6, 6, 6, 6, 6, 6, 6, 6, 6, 6, 6, 6, 6, 6, 7, 7, 7, 7, 7, 7, 7, 7, 7, 7, 7, 7, 7, 7, 7, 7, 7, 7, 7, 7, 7, 7, 7, 7, 7, 7, 7, 7, 7, 7, 7, 7, 7, 7, 7, 7, 7, 7, 7, 7, 7, 7, 7, 7, 7, 7, 7, 7, 7, 7, 7, 7, 7, 7, 7, 7, 7, 7, 7, 7, 7, 7, 7, 7, 8, 8, 8, 8, 8, 8, 8, 8, 8, 8, 8, 8, 8, 8, 8, 8, 8, 8, 8, 8, 8, 8, 8, 8, 8, 8, 8, 8, 8, 8, 8, 8, 8, 8, 8, 8, 8, 8, 8, 8, 8, 8, 8, 8, 8, 8, 8, 8, 8, 8, 8, 8, 8, 8, 8, 8, 8, 8, 8, 8, 8, 8, 8, 8, 8, 8, 8, 8, 8, 8, 8, 8, 8, 8, 8, 8, 8, 8, 8, 8, 8, 8, 8, 8, 8, 8, 8, 8, 8, 8, 8, 8, 8, 8, 8, 8, 8, 8, 8, 8, 8, 8, 8, 8, 8, 8, 8, 8, 8, 8, 8, 8, 8, 8, 8, 8, 8, 8, 8, 8, 8, 8, 8, 8, 8, 8, 8, 8]⟩ : ByteArray) e) = ((len c : Nat) : Int) := by
  subst he
  have g : bt tab (c : Int) = ((len c : Nat) : Int) := tab_all ⟨c, h⟩
  have b : len c ≤ 8 := len_le (by omega)
  have g' : bt (⟨#[0, 1, 2, 2, 3, 3, 3, 3, 4, 4, 4, 4, 4, 4, 4, 4, 5, 5, 5, 5, 5, 5, 5, 5, 5, 5, 5, 5, 5, 5, 5, 5, 6, 6, 6, 6, 6, 6, 6, 6, 6, 6, 6, 6, 6, 6, 6, 6, 6, 6, 6, 6, 6, 6, 6, 6, 6, 6, 6, 6, 6, 6, 6, 6, 7, 7, 7, 7, 7, 7, 7, 7, 7, 7, 7, 7, 7, 7, 7, 7, 7, 7, 7, 7, 7, 7, 7, 7, 7, 7, 7, 7, 7, 7, 7, 7, 7, 7, 7, 7, 7, 7, 7, 7, 7, 7, 7, 7, 7, 7, 7, 7, 7, 7, 7, 7, 7, 7, 7, 7, 7, 7, 7, 7, 7, 7, 7, 7, 8, 8, 8, 8, 8, 8, 8, 8, 8, 8, 8, 8, 8, 8, 8, 8, 8, 8, 8, 8, 8, 8, 8, 8, 8, 8, 8, 8, 8, 8, 8, 8, 8, 8, 8, 8, 8, 8, 8, 8, 8, 8, 8, 8, 8, 8, 8, 8, 8, 8, 8, 8, 8, 8, 8, 8, 8, 8, 8, 8, 8, 8, 8, 8, 8, 8, 8, 8, 8, 8, 8, 8, 8, 8, 8, 8, 8, 8, 8, 8, 8, 8, 8, 8, 8, 8, 8, 8, 8, 8, 8, 8, 8, 8, 8, 8, 8, 8, 8, 8, 8, 8, 8, 8, 8, 8, 8, 8, 8, 8, 8, 8, 8, 8, 8, 8, 8, 8, 8, 8, 8, 8, 8, 8, 8, 8, 8, 8]⟩ : ByteArray) (c : Int) = ((len c : Nat) : Int) := g
  rw [g', wrap64_id (by omega) (by omega)]
theorem len64_j {x n : Nat} (hx : x < 2 ^ 32) (hn : n ≤ 64) : Ev (fun k => bits_Len64.j0 k (x : Int) (n : Int)) ((n + len x : Nat) : Int) := by
  refine Ev.step (fun k => bits_Len64.j0.eq_2 ..) ?_
  by_cases c1 : (x : Int) ≥ 65536
  · refine Ev_ite_pos c1 ?_
    by_cases c2 : ((x : Int) / 65536) ≥ 256
    · refine Ev_ite_pos c2 (Ev_ite_pos (by omega) (Ev_ite_pos (by omega) ?_))
      have e : (((x : Int) / 65536) / 256) % 256 = ((x / 2 ^ 24 : Nat) : Int) := by omega
      rw [tab_len e (by omega), wrap64_id (n := (n : Int) + 16) (by omega) (by omega), wrap64_id (n := (n : Int) + 16 + 8) (by omega) (by omega)]
      have b : len (x / 2 ^ 24) ≤ 8 := len_le (by omega)
      rw [wrap64_id (by omega) (by omega), len_shift (a := x) (s := 24) (by omega), show ((n : Int) + 16 + 8 + (len (x / 2 ^ 24) : Nat)) = ((n + (24 + len (x / 2 ^ 24)) : Nat) : Int) from by omega]
      exact Ev.now _
    · refine Ev_ite_neg c2 (Ev_ite_pos (by omega) (Ev_ite_pos (by omega) ?_))
      have e : ((x : Int) / 65536) % 256 = ((x / 2 ^ 16 : Nat) : Int) := by omega
      rw [tab_len e (by omega), wrap64_id (n := (n : Int) + 16) (by omega) (by omega)]
      have b : len (x / 2 ^ 16) ≤ 8 := len_le (by omega)
      rw [wrap64_id (by omega) (by omega), len_shift (a := x) (s := 16) (by omega), show ((n : Int) + 16 + (len (x / 2 ^ 16) : Nat)) = ((n + (16 + len (x / 2 ^ 16)) : Nat) : Int) from by omega]
      exact Ev.now _
  · refine Ev_ite_neg c1 ?_
    by_cases c2 : (x : Int) ≥ 256
    · refine Ev_ite_pos c2 (Ev_ite_pos (by omega) (Ev_ite_pos (by omega) ?_))
      have e : ((x : Int) / 256) % 256 = ((x / 2 ^ 8 : Nat) : Int) := by omega
      rw [tab_len e (by omega), wrap64_id (n := (n : Int) + 8) (by omega) (by omega)]
      have b : len (x / 2 ^ 8) ≤ 8 := len_le (by omega)
      rw [wrap64_id (by omega) (by omega), len_shift (a := x) (s := 8) (by omega), show ((n : Int) + 8 + (len (x / 2 ^ 8) : Nat)) = ((n + (8 + len (x / 2 ^ 8)) : Nat) : Int) from by omega]
      exact Ev.now _
    · refine Ev_ite_neg c2 (Ev_ite_pos (by omega) (Ev_ite_pos (by omega) ?_))
      have e : (x : Int) % 256 = (x : Int) := by omega
      rw [e, tab_len rfl (by omega)]
      have b : len x ≤ 8 := len_le (by omega)
      rw [wrap64_id (by omega) (by omega), show ((n : Int) + (len x : Nat)) = ((n + len x : Nat) : Int) from by omega]
      exact Ev.now _
theorem len64_ev {x : Nat} (hx : x < 2 ^ 64) : Ev (fun k => bits_Len64.f k (x : Int)) ((len x : Nat) : Int) := by
  unfold bits_Len64.f
  by_cases c : (x : Int) ≥ 4294967296
  · refine Ev_ite_pos c ?_
    rw [show (x : Int) / 4294967296 = ((x / 2 ^ 32 : Nat) : Int) from by omega, len_shift (a := x) (s := 32) (by omega)]
    exact len64_j (n := 32) (by omega) (by omega)
  · refine Ev_ite_neg c ?_
    have := len64_j (x := x) (n := 0) (by omega) (by omega)
    rwa [Nat.zero_add] at this
theorem degree_ev {x : Nat} (hx : x < 2 ^ 64) : Ev (fun k => poly_Degree.f k (x : Int)) (((len x : Nat) : Int) - 1) := by
  unfold poly_Degree.f
  refine Ev.bind (len64_ev hx) ?_
  have := len_le hx
  rw [wrap64_id (by omega) (by omega)]
  exact Ev.now _
/-- m's degree is d -/
def Deg (m d : Nat) : Prop := 2 ^ d ≤ m ∧ m < 2 ^ (d + 1)
theorem Deg.ofLen {m d : Nat} (h : len m = d + 1) : Deg m d := len_iff.1 h
theorem Deg.len {m d : Nat} (h : Deg m d) : len m = d + 1 := len_iff.2 h
theorem Deg.lt {m d : Nat} (h : Deg m d) (hm : m < 2 ^ 64) : d < 64 := by
  have h1 := h.1
  apply Nat.lt_of_not_le
  intro c
  have := Nat.pow_le_pow_right (n := 2) (by omega) c
  omega
theorem exists_deg {m : Nat} (h : m ≠ 0) : ∃ d, Deg m d := exists_top h
theorem deg_ev {m d : Nat} (hd : Deg m d) (hm : m < 2 ^ 64) : Ev (fun k => poly_Degree.f k (m : Int)) (d : Int) := by
  have := degree_ev hm
  rw [hd.len, show (((d + 1 : Nat) : Int) - 1) = (d : Int) from by omega] at this
  exact this
theorem pow64 {n : Nat} (h : n ≤ 64) : 2 ^ n ≤ 2 ^ 64 := Nat.pow_le_pow_right (by omega) h
theorem reduce_f {x m d : Nat} (hx : x < 2 ^ 64) (hm : m < 2 ^ 64) (hd : d ≤ 64) : poly_reduce.f (x : Int) (m : Int) (d : Int) = some ((red m d x : Nat) : Int) := by
  unfold poly_reduce.f red
  rw [if_pos (by omega)]
  by_cases c : x.testBit d = true
  · have : ¬ (Go.bits .and .u64 (shr .u64 (x : Int) (d : Int)) 1 = 0) := by rw [bit64_zero hx hd, c]; simp
    rw [if_neg this, if_pos c, xor64 hx hm]
  · have c' : x.testBit d = false := by simpa using c
    rw [if_pos ((bit64_zero hx hd).2 c'), if_neg c]
theorem xor_len {p q d s : Nat} (hq : Deg q d) (hp : len p = d + s + 1) : len (p ^^^ q * 2 ^ s) ≤ d + s := by
  obtain ⟨u, v⟩ := len_iff.1 hp
  have h := @red_lt (q * 2 ^ s) (d + s) p ?_ ?_ v
  · unfold red at h
    rw [testBit_top v, if_pos (by simpa using u)] at h
    exact len_le h
  · rw [Nat.pow_add]; exact Nat.mul_le_mul_right _ hq.1
  · rw [show d + s + 1 = d + 1 + s from by omega, Nat.pow_add]; exact Nat.mul_lt_mul_of_pos_right hq.2 (Nat.two_pow_pos s)
theorem or_new {x s : Nat} (h : x % 2 ^ (s + 1) = 0) : x ||| 2 ^ s = x + 2 ^ s ∧ (x + 2 ^ s) % 2 ^ s = 0 := by
  have e : x = 2 ^ (s + 1) * (x / 2 ^ (s + 1)) := by have := Nat.div_add_mod x (2 ^ (s + 1)); omega
  have hlt : 2 ^ s < 2 ^ (s + 1) := Nat.pow_lt_pow_right (by omega) (by omega)
  constructor
  · rw [e, ← Nat.two_pow_add_eq_or_of_lt hlt]
  · rw [e, Nat.pow_succ, Nat.mul_assoc]; simp
theorem div_loop {q d : Nat} (hd : Deg q d) : ∀ (n p x : Nat), len p ≤ n → p < 2 ^ 64 → x < 2 ^ 64 → (∀ s, len p = d + s + 1 → x % 2 ^ (s + 1) = 0) →
    ∃ A R, p = cm q A ^^^ R ∧ R < 2 ^ d ∧ x + A < 2 ^ 64 ∧ Ev (fun k => poly_DivMod.l0 k (p : Int) (q : Int) (d : Int) (x : Int)) (((x + A : Nat) : Int), (R : Int), 0) := by
  intro n
  induction n with
  | zero =>
    intro p x hn hp hx _
    have z : len p = 0 := by omega
    refine ⟨0, p, by simp [cm_zero], Nat.lt_of_lt_of_le (lt_of_len hn) (Nat.two_pow_pos d), hx, ?_⟩
    refine Ev.step (fun k => poly_DivMod.l0.eq_2 ..) (Ev.bind (degree_ev hp) (Ev_ite_neg (by omega) ?_))
    exact Ev.now _
  | succ n ih =>
    intro p x hn hp hx hz
    by_cases c : len p ≤ d
    · refine ⟨0, p, by simp [cm_zero], lt_of_len c, hx, ?_⟩
      refine Ev.step (fun k => poly_DivMod.l0.eq_2 ..) (Ev.bind (degree_ev hp) (Ev_ite_neg (by omega) ?_))
      exact Ev.now _
    · obtain ⟨s, hs⟩ : ∃ s, len p = d + s + 1 := ⟨len p - d - 1, by omega⟩
      have hle := len_le hp
      have hx' := or_new (hz s hs)
      have hlen := xor_len hd hs
      have hq2 : q * 2 ^ s < 2 ^ 64 := by
        have : q * 2 ^ s < 2 ^ (d + 1) * 2 ^ s := Nat.mul_lt_mul_of_pos_right hd.2 (Nat.two_pow_pos s)
        rw [← Nat.pow_add] at this
        exact Nat.lt_of_lt_of_le this (pow64 (by omega))
      have hs64 : 2 ^ s < 2 ^ 64 := Nat.pow_lt_pow_right (by omega) (by omega)
      have hxo : x + 2 ^ s < 2 ^ 64 := by rw [← hx'.1]; exact Nat.or_lt_two_pow hx hs64
      have hp' : p ^^^ q * 2 ^ s < 2 ^ 64 := Nat.xor_lt_two_pow hp hq2
      obtain ⟨A, R, h1, h2, h3, h4⟩ := ih (p ^^^ q * 2 ^ s) (x + 2 ^ s) (by omega) hp' hxo (by
        intro t ht
        have h5 := hx'.2
        have : 2 ^ s = 2 ^ (t + 1) * 2 ^ (s - (t + 1)) := by rw [← Nat.pow_add]; congr 1; omega
        rw [this] at h5 ⊢
        exact Nat.mod_eq_zero_of_dvd (Nat.dvd_trans (Nat.dvd_mul_right _ _) (Nat.dvd_of_mod_eq_zero h5)))
      have hA : 2 ^ s + A = 2 ^ s ^^^ A := by
        have hAlt : A < 2 ^ s := by
          by_cases z : A = 0
          · subst z; exact Nat.two_pow_pos s
          · obtain ⟨t, ht1, ht2⟩ := exists_top z
            have b := (cm_top hd.1 hd.2 t A ht1 ht2).1
            have b2 : cm q A ^^^ R < 2 ^ (d + s) := by rw [← h1]; exact lt_of_len hlen
            have b3 : R < 2 ^ (d + t) := Nat.lt_of_lt_of_le h2 (Nat.pow_le_pow_right (by omega) (by omega))
            have b4 := (xor_top b3 b (cm_top hd.1 hd.2 t A ht1 ht2).2).1
            rw [Nat.xor_comm] at b4
            have : t < s := by
              apply Nat.lt_of_not_le
              intro cc
              have := Nat.pow_le_pow_right (n := 2) (by omega) (show d + s ≤ d + t from by omega)
              omega
            exact Nat.lt_of_lt_of_le ht2 (Nat.pow_le_pow_right (by omega) (by omega))
        have := add_eq_xor (a := 1) hAlt
        rwa [Nat.one_mul] at this
      refine ⟨2 ^ s + A, R, ?_, h2, by omega, ?_⟩
      · rw [hA, cm_xor, cm_pow, Nat.xor_assoc, ← h1, Nat.xor_comm p, ← Nat.xor_assoc, Nat.xor_self, Nat.zero_xor]
      · refine Ev.step (fun k => poly_DivMod.l0.eq_2 ..) (Ev.bind (degree_ev hp) (Ev_ite_pos (by omega) (Ev.bind (degree_ev hp) ?_)))
        have e : wrap64 ((((len p : Nat) : Int) - 1) - (d : Int)) = (s : Int) := by rw [wrap64_id (by omega) (by omega)]; omega
        rw [e]
        refine Ev_ite_pos (by omega) ?_
        rw [shl64 (by omega), Nat.mod_eq_of_lt (by omega), xor64 hp hq2, show (1 : Int) = ((1 : Nat) : Int) from rfl, shl64 (by omega), Nat.one_mul, Nat.mod_eq_of_lt (by omega), or64 hx hs64, hx'.1, ← Nat.add_assoc]
        exact h4
/-- the division, whatever is divided -/
theorem div_ev {p q d : Nat} (hd : Deg q d) (hp : p < 2 ^ 64) (hq : q < 2 ^ 64) :
    ∃ A, p = cm q A ^^^ pm q d p ∧ A < 2 ^ 64 ∧ Ev (fun k => poly_DivMod.f k (p : Int) (q : Int)) ((A : Int), ((pm q d p : Nat) : Int), 0) := by
  obtain ⟨A, R, h1, h2, h3, h4⟩ := div_loop hd (len p) p 0 (Nat.le_refl _) hp (by omega) (fun s _ => Nat.zero_mod _)
  have hR : pm q d p = R := pm_unique hd.1 hd.2 h2 ⟨A, by rw [h1, Nat.xor_assoc, Nat.xor_self, Nat.xor_zero]⟩
  rw [hR]
  refine ⟨A, h1, by omega, ?_⟩
  unfold poly_DivMod.f
  have hq0 : q ≠ 0 := by
    have h5 := hd.1
    have h6 := Nat.two_pow_pos d
    omega
  refine Ev_ite_neg (by omega) (Ev.bind (deg_ev hd hq) ?_)
  rw [Nat.zero_add] at h4
  exact h4
theorem pm_one (p : Nat) : pm 1 0 p = 0 := by
  have := pm_lt (m := 1) (d := 0) (by omega) (by omega) p
  omega
theorem deg_one {d : Nat} (h : Deg 1 d) : d = 0 := by
  have h1 := h.1
  by_cases z : d = 0
  · exact z
  · have := Nat.pow_le_pow_right (n := 2) (by omega) (show 1 ≤ d from by omega)
    omega
theorem deg_ge {m d : Nat} (h : Deg m d) (hm : 1 < m) : 1 ≤ d := by
  have h2 := h.2
  by_cases z : d = 0
  · subst z; omega
  · omega
theorem halves (b i : Nat) : b / 2 ^ i % 2 = (b.testBit i).toNat ∧ b / 2 ^ i / 2 = b / 2 ^ (i + 1) := by
  constructor
  · rw [Nat.testBit_eq_decide_div_mod_eq]
    rcases Nat.mod_two_eq_zero_or_one (b / 2 ^ i) with h | h <;> simp [h]
  · rw [Nat.pow_succ, Nat.div_div_eq_div_mul]
theorem mul_loop {m d a b : Nat} (hd : Deg m d) (hm : m < 2 ^ 64) (ha : a < 2 ^ d) (hb : b < 2 ^ d) :
    ∀ (i out : Nat), i ≤ d → out = pm m d (cm a (b / 2 ^ i)) →
    Ev (fun k => poly_MulMod.l0 k (m : Int) (a : Int) (b : Int) (d : Int) (out : Int) ((i : Int) - 1)) (((pm m d (cm a b) : Nat) : Int), 0) := by
  have hd64 := hd.lt hm
  have hb64 : b < 2 ^ 64 := Nat.lt_of_lt_of_le hb (pow64 (by omega))
  have ha64 : a < 2 ^ 64 := Nat.lt_of_lt_of_le ha (pow64 (by omega))
  intro i
  induction i with
  | zero =>
    intro out _ ho
    refine Ev.step (fun k => poly_MulMod.l0.eq_2 ..) (Ev_ite_neg (by omega) ?_)
    rw [ho, Nat.pow_zero, Nat.div_one]; exact Ev.now _
  | succ i ih =>
    intro out hi ho
    have hout : out < 2 ^ d := by rw [ho]; exact pm_lt hd.1 hd.2 _
    have hout2 : 2 * out < 2 ^ (d + 1) := by rw [Nat.pow_succ]; omega
    have h2 : 2 * out < 2 ^ 64 := Nat.lt_of_lt_of_le hout2 (pow64 (by omega))
    have e1 : ((i + 1 : Nat) : Int) - 1 = (i : Int) := by omega
    rw [e1]
    refine Ev.step (fun k => poly_MulMod.l0.eq_2 ..) (Ev_ite_pos (by omega) ?_)
    have e2 : IntKind.u64.wrap ((out : Int) * 2) = ((2 * out : Nat) : Int) := by rw [wrap_u64]; omega
    rw [e2, reduce_f h2 hm (by omega)]
    refine Ev_some (Ev_ite_pos (by omega) ?_)
    have hr : red m d (2 * out) < 2 ^ d := red_lt hd.1 hd.2 hout2
    have e3 : wrap64 ((i : Int) - 1) = (i : Int) - 1 := wrap64_id (by omega) (by omega)
    rw [e3]
    have hh := halves b i
    have key : pm m d (cm a (b / 2 ^ i)) = red m d (2 * out) ^^^ (if b.testBit i = true then a else 0) := by
      apply pm_unique hd.1 hd.2
      · refine Nat.xor_lt_two_pow hr ?_
        split
        · exact ha
        · exact Nat.two_pow_pos d
      · rw [cm_eq, hh.2, hh.1, Nat.xor_comm]
        refine Cong.xor ?_ ?_
        · refine Cong.trans ?_ (red_cong m d _)
          rw [ho]; exact (pm_cong m d _).dbl
        · cases b.testBit i <;> simp <;> exact Cong.refl m _
    by_cases c : b.testBit i = true
    · refine Ev_ite_neg (by rw [bit64_zero hb64 (by omega), c]; simp) ?_
      rw [xor64 (Nat.lt_of_lt_of_le hr (pow64 (by omega))) ha64]
      exact ih _ (by omega) (by rw [key, if_pos c])
    · have c' : b.testBit i = false := by simpa using c
      refine Ev_ite_pos ((bit64_zero hb64 (by omega)).2 c') ?_
      exact ih _ (by omega) (by rw [key, if_neg c, Nat.xor_zero])
theorem mul_ev {p q m d : Nat} (hd : Deg m d) (hm : m < 2 ^ 64) (hp : p < 2 ^ 64) (hq : q < 2 ^ 64) :
    Ev (fun k => poly_MulMod.f k (p : Int) (q : Int) (m : Int)) (((pm m d (cm p q) : Nat) : Int), 0) := by
  have hm0 : m ≠ 0 := by
    have h5 := hd.1
    have h6 := Nat.two_pow_pos d
    omega
  unfold poly_MulMod.f
  refine Ev_ite_neg (by omega) ?_
  by_cases h1 : m = 1
  · subst h1
    obtain rfl := deg_one hd
    refine Ev_ite_pos rfl ?_
    rw [pm_one]; exact Ev.now _
  · refine Ev_ite_neg (by omega) ?_
    obtain ⟨_, _, _, ea⟩ := div_ev hd hp hm
    obtain ⟨_, _, _, eb⟩ := div_ev hd hq hm
    refine Ev.bind ea (Ev.bind eb (Ev.bind (deg_ev hd hm) ?_))
    have hd1 := deg_ge hd (by omega)
    have hd64 := hd.lt hm
    rw [wrap64_id (by omega) (by omega)]
    have g := mul_loop hd hm (pm_lt hd.1 hd.2 p) (pm_lt hd.1 hd.2 q) d 0 (Nat.le_refl _) (by rw [Nat.div_eq_of_lt (pm_lt hd.1 hd.2 q), cm_zero, pm_zero])
    rw [pm_mul hd.1 hd.2, cm_comm p, pm_mul hd.1 hd.2, cm_comm q] at g
    exact g
theorem pow_loop {m d n : Nat} (hd : Deg m d) (hm : m < 2 ^ 64) (hn : n < 2 ^ 64) :
    ∀ (i : Nat), i ≤ 64 → ∀ out : Nat, out = pm m d (2 ^ (n / 2 ^ i)) →
    Ev (fun k => poly_PowMod.l0 k (n : Int) (m : Int) (out : Int) ((i : Int) - 1)) (((pm m d (2 ^ n) : Nat) : Int), 0) := by
  have hd64 := hd.lt hm
  intro i
  induction i with
  | zero =>
    intro _ out ho
    refine Ev.step (fun k => poly_PowMod.l0.eq_2 ..) (Ev_ite_neg (by omega) ?_)
    rw [ho, Nat.pow_zero, Nat.div_one]; exact Ev.now _
  | succ i ih =>
    intro hi out ho
    have hlt : ∀ x, pm m d x < 2 ^ 64 := fun x => Nat.lt_of_lt_of_le (pm_lt hd.1 hd.2 x) (pow64 (by omega))
    have hout : out < 2 ^ 64 := by rw [ho]; exact hlt _
    have e1 : ((i + 1 : Nat) : Int) - 1 = (i : Int) := by omega
    rw [e1]
    refine Ev.step (fun k => poly_PowMod.l0.eq_2 ..) (Ev_ite_pos (by omega) (Ev.bind (mul_ev hd hm hout hout) (Ev_ite_pos (by omega) ?_)))
    have e3 : wrap64 ((i : Int) - 1) = (i : Int) - 1 := wrap64_id (by omega) (by omega)
    simp only [e3]
    have hh := halves n i
    have sq : pm m d (cm out out) = pm m d (2 ^ (2 * (n / 2 ^ (i + 1)))) := by
      rw [ho, pm_mul hd.1 hd.2, cm_comm, pm_mul hd.1 hd.2, cm_pow, ← Nat.pow_add]
      congr 2; omega
    by_cases c : n.testBit i = true
    · refine Ev_ite_neg (by rw [bit64_zero hn (by omega), c]; simp) ?_
      refine Ev.bind (mul_ev (q := 2) hd hm (hlt _) (by omega)) ?_
      refine ih (by omega) _ ?_
      rw [pm_mul hd.1 hd.2, ← Nat.pow_one 2, cm_pow, ← pm_shift hd.1 hd.2, Nat.pow_one, sq, ← Nat.pow_one 2, ← Nat.pow_mul, Nat.pow_one, Nat.one_mul, ← Nat.pow_one 2, pm_shift hd.1 hd.2, Nat.pow_one, ← Nat.pow_succ]
      congr 2
      rw [c] at hh; simp at hh; omega
    · have c' : n.testBit i = false := by simpa using c
      refine Ev_ite_pos ((bit64_zero hn (by omega)).2 c') ?_
      refine ih (by omega) _ ?_
      rw [sq]
      congr 2
      rw [c'] at hh; simp at hh; omega
theorem pow_ev {m d n : Nat} (hd : Deg m d) (hm : m < 2 ^ 64) (hn : n < 2 ^ 64) :
    Ev (fun k => poly_PowMod.f k (n : Int) (m : Int)) (((pm m d (2 ^ n) : Nat) : Int), 0) := by
  have hm0 : m ≠ 0 := by
    have h5 := hd.1
    have h6 := Nat.two_pow_pos d
    omega
  unfold poly_PowMod.f
  obtain ⟨_, _, _, ea⟩ := div_ev (p := 1) hd (by omega) hm
  have hl := len_le hn
  refine Ev_ite_neg (by omega) (Ev.bind ea (Ev.bind (len64_ev hn) ?_))
  rw [wrap64_id (by omega) (by omega)]
  refine pow_loop hd hm hn (len n) hl _ ?_
  rw [Nat.div_eq_of_lt (lt_of_len (Nat.le_refl _)), Nat.pow_zero]

theorem pm_bit (m d x b : Nat) (hb : b < 2) : pm m d (2 * x + b) = red m d (2 * pm m d x ^^^ b) := by
  rw [pm_eq, show (2 * x + b) / 2 = x from by omega, show (2 * x + b) % 2 = b from by omega]

theorem of_inner {m d : Nat} (hd : Deg m d) (hm : m < 2 ^ 64) (l : List Int) (i P : Nat) (c : Nat) (hc : c < 256) (hi : i < 9223372036854775807) (r : Int × Int)
    (h : Ev (fun k => poly_Of.l0 k (m : Int) (d : Int) ((pm m d (P * 2 ^ 8 + c) : Nat) : Int) l (l.length : Int) ((i + 1 : Nat) : Int)) r) :
    ∀ (j out : Nat), j ≤ 8 → out = pm m d (P * 2 ^ (8 - j) + c / 2 ^ j) →
    Ev (fun k => poly_Of.l1 k (m : Int) (d : Int) (out : Int) (c : Int) ((j : Int) - 1) l (l.length : Int) (i : Int)) r := by
  have hd64 := hd.lt hm
  intro j
  induction j with
  | zero =>
    intro out _ ho
    refine Ev.step (fun k => poly_Of.l1.eq_2 ..) (Ev_ite_neg (by omega) ?_)
    have e : wrap64 ((i : Int) + 1) = ((i + 1 : Nat) : Int) := by rw [wrap64_id (by omega) (by omega)]; omega
    rw [e, ho, Nat.pow_zero, Nat.div_one]; exact h
  | succ j ih =>
    intro out hj ho
    have e1 : ((j + 1 : Nat) : Int) - 1 = (j : Int) := by omega
    rw [e1]
    have hout : out < 2 ^ d := by rw [ho]; exact pm_lt hd.1 hd.2 _
    have hout2 : 2 * out < 2 ^ (d + 1) := by rw [Nat.pow_succ]; omega
    have h2 : 2 * out < 2 ^ 64 := Nat.lt_of_lt_of_le hout2 (pow64 (by omega))
    refine Ev.step (fun k => poly_Of.l1.eq_2 ..) (Ev_ite_pos (by omega) (Ev_ite_pos (by omega) ?_))
    have e2 : IntKind.u64.wrap ((out : Int) * 2) = ((2 * out : Nat) : Int) := by rw [wrap_u64]; omega
    have hb2 : (c.testBit j).toNat < 2 := by cases c.testBit j <;> simp
    have e3 : IntKind.u64.wrap (Go.bits .and .u8 (shr .u8 (c : Int) (j : Int)) 1) = (((c.testBit j).toNat : Nat) : Int) := by
      rw [bit8 hc (by omega), wrap_u64]; omega
    rw [e2, e3, xor64 h2 (by omega), reduce_f (Nat.xor_lt_two_pow h2 (by omega)) hm (by omega)]
    have e4 : wrap64 ((j : Int) - 1) = (j : Int) - 1 := wrap64_id (by omega) (by omega)
    rw [e4]
    refine Ev_some (ih _ (by omega) ?_)
    rw [ho, ← pm_bit _ _ _ _ hb2]
    congr 1
    have hh := halves c j
    have e5 : P * 2 ^ (8 - j) = 2 * (P * 2 ^ (8 - (j + 1))) := by
      rw [show 8 - j = (8 - (j + 1)) + 1 from by omega, Nat.pow_succ, ← Nat.mul_assoc, Nat.mul_comm 2]
    rw [e5, ← hh.2]
    generalize P * 2 ^ (8 - (j + 1)) = u at *
    generalize c / 2 ^ j = v at *
    omega
theorem of_loop {m d : Nat} (hd : Deg m d) (hm : m < 2 ^ 64) : ∀ (l pre : List Int) , By l → (pre ++ l).length ≤ 140737488355328 →
    Ev (fun k => poly_Of.l0 k (m : Int) (d : Int) ((pm m d (pol pre) : Nat) : Int) (pre ++ l) ((pre ++ l).length : Int) (pre.length : Int)) (((pm m d (pol (pre ++ l)) : Nat) : Int), 0) := by
  intro l
  induction l with
  | nil =>
    intro pre _ _
    refine Ev.step (fun k => poly_Of.l0.eq_2 ..) (Ev_ite_neg (by simp) ?_)
    rw [List.append_nil]; exact Ev.now _
  | cons c l ih =>
    intro pre hb hl
    obtain ⟨n, hn, hn2⟩ : ∃ n : Nat, c = (n : Int) ∧ n < 256 := by have := hb.head; exact ⟨c.toNat, by omega, by omega⟩
    have hlt : ((pre.length : Nat) : Int) < ((pre ++ c :: l).length : Int) := by simp; omega
    refine Ev.step (fun k => poly_Of.l0.eq_2 ..) (Ev_ite_pos hlt (Ev_ite_pos (by omega) (Ev_ite_pos hlt ?_)))
    rw [rd_at, hn]
    have g := ih (pre ++ [c]) hb.tail (by simpa using hl)
    have e : pol (pre ++ [c]) = pol pre * 2 ^ 8 + n := by rw [pol_append, pol_cons, hn]; simp [pol_nil]
    have e2 : ((pre ++ [c]).length : Int) = ((pre.length + 1 : Nat) : Int) := by simp
    rw [e, e2, List.append_assoc, List.singleton_append] at g
    rw [hn] at g
    simp only [List.length_append, List.length_cons] at hl
    exact of_inner hd hm _ pre.length (pol pre) n hn2 (by omega) _ g 8 _ (Nat.le_refl _) (by rw [Nat.div_eq_of_lt hn2]; simp)
theorem of_ev {m d : Nat} (hd : Deg m d) (hm : m < 2 ^ 64) {l : List Int} (hb : By l) (hl : l.length ≤ 140737488355328) :
    Ev (fun k => poly_Of.f k l (m : Int)) (((pm m d (pol l) : Nat) : Int), 0) := by
  have hm0 : m ≠ 0 := by
    have h5 := hd.1
    have h6 := Nat.two_pow_pos d
    omega
  unfold poly_Of.f
  refine Ev_ite_neg (by omega) ?_
  by_cases h1 : m = 1
  · subst h1
    obtain rfl := deg_one hd
    refine Ev_ite_pos rfl ?_
    rw [pm_one]; exact Ev.now _
  · refine Ev_ite_neg (by omega) (Ev.bind (deg_ev hd hm) ?_)
    have := of_loop hd hm l [] hb hl
    rw [pol_nil, pm_zero] at this
    exact this

theorem ref_degree_loop (p : Nat) (hp : p < 2 ^ 64) : ∀ (n i : Nat), i + n = 64 →
    Ev (fun k => parapetref01_Degree.l0 k (p : Int) (((len (p % 2 ^ i) : Nat) : Int) - 1) (i : Int)) (((len p : Nat) : Int) - 1) := by
  intro n
  induction n with
  | zero =>
    intro i hi
    obtain rfl : i = 64 := by omega
    refine Ev.step (fun k => parapetref01_Degree.l0.eq_2 ..) (Ev_ite_neg (by omega) ?_)
    rw [Nat.mod_eq_of_lt hp]; exact Ev.now _
  | succ n ih =>
    intro i hi
    refine Ev.step (fun k => parapetref01_Degree.l0.eq_2 ..) (Ev_ite_pos (by omega) (Ev_ite_pos (by omega) ?_))
    have e : wrap64 ((i : Int) + 1) = ((i + 1 : Nat) : Int) := by rw [wrap64_id (by omega) (by omega)]; omega
    rw [e]
    have g := ih (i + 1) (by omega)
    have hm : p % 2 ^ (i + 1) = (p.testBit i).toNat * 2 ^ i + p % 2 ^ i := by
      have hh := (halves p i).1
      rw [Nat.pow_succ, Nat.mod_mul, hh, Nat.mul_comm]; omega
    have hlt : p % 2 ^ i < 2 ^ i := Nat.mod_lt _ (Nat.two_pow_pos i)
    by_cases c : p.testBit i = true
    · refine Ev_ite_neg (by rw [bit64_zero hp (by omega), c]; simp) ?_
      rw [c] at hm
      simp only [Bool.toNat_true, Nat.one_mul] at hm
      have : len (p % 2 ^ (i + 1)) = i + 1 := len_iff.2 ⟨by omega, Nat.mod_lt _ (Nat.two_pow_pos _)⟩
      rw [this, show (((i + 1 : Nat) : Int) - 1) = (i : Int) from by omega] at g
      exact g
    · have c' : p.testBit i = false := by simpa using c
      refine Ev_ite_pos ((bit64_zero hp (by omega)).2 c') ?_
      rw [c'] at hm
      simp only [Bool.toNat_false, Nat.zero_mul, Nat.zero_add] at hm
      rw [hm] at g
      exact g
theorem ref_degree_ev {p : Nat} (hp : p < 2 ^ 64) : Ev (fun k => parapetref01_Degree.f k (p : Int)) (((len p : Nat) : Int) - 1) := by
  have := ref_degree_loop p hp 64 0 rfl
  rwa [Nat.pow_zero, Nat.mod_one] at this
theorem ref_deg_ev {m d : Nat} (hd : Deg m d) (hm : m < 2 ^ 64) : Ev (fun k => parapetref01_Degree.f k (m : Int)) (d : Int) := by
  have := ref_degree_ev hm
  rw [hd.len, show (((d + 1 : Nat) : Int) - 1) = (d : Int) from by omega] at this
  exact this

/-- the number of coefficients, the first one the highest -/
def bpol (l : List Bool) : Nat := l.foldl (fun a c => a * 2 + c.toNat) 0
theorem bpol_acc (l : List Bool) : ∀ a, l.foldl (fun a c => a * 2 + c.toNat) a = a * 2 ^ l.length + bpol l := by
  unfold bpol
  induction l with
  | nil => intro a; simp
  | cons c l ih =>
    intro a
    simp only [List.foldl_cons, List.length_cons]
    rw [ih, ih (0 * 2 + c.toNat), Nat.pow_succ, Nat.zero_mul, Nat.zero_add, Nat.add_mul, Nat.add_assoc, Nat.mul_assoc, Nat.mul_comm 2 (2 ^ l.length)]
theorem bpol_nil : bpol [] = 0 := rfl
theorem bpol_cons (c : Bool) (l : List Bool) : bpol (c :: l) = c.toNat * 2 ^ l.length + bpol l := by
  have := bpol_acc l (0 * 2 + c.toNat)
  unfold bpol at this ⊢
  rw [List.foldl_cons, this]; simp
theorem bpol_lt (l : List Bool) : bpol l < 2 ^ l.length := by
  induction l with
  | nil => simp [bpol_nil]
  | cons c l ih =>
    rw [bpol_cons, List.length_cons, Nat.pow_succ]
    cases c <;> simp <;> omega
theorem bpol_append (a b : List Bool) : bpol (a ++ b) = bpol a * 2 ^ b.length + bpol b := by
  induction a with
  | nil => simp [bpol_nil]
  | cons c a ih =>
    rw [List.cons_append, bpol_cons, ih, bpol_cons, List.length_append, Nat.pow_add, Nat.add_mul, Nat.mul_assoc, Nat.add_assoc]
theorem bpol_snoc (a : List Bool) (c : Bool) : bpol (a ++ [c]) = 2 * bpol a + c.toNat := by
  rw [bpol_append, bpol_cons, bpol_nil]; simp; omega
theorem rdOf_at (pre : List Bool) (c : Bool) (l : List Bool) : rdOf false (pre ++ c :: l) (pre.length : Int) = c := by
  unfold rdOf; simp
theorem rbits_loop {m d : Nat} (hd : Deg m d) (hm : m < 2 ^ 64) (hd1 : 1 ≤ d) : ∀ (l pre : List Bool), (pre ++ l).length ≤ 9223372036854775806 →
    Ev (fun k => parapetref01_Bits.l0 k (pre ++ l) (m : Int) (d : Int) ((pm m d (bpol pre) : Nat) : Int) (pre.length : Int)) ((pm m d (bpol (pre ++ l)) : Nat) : Int) := by
  have hd64 := hd.lt hm
  intro l
  induction l with
  | nil =>
    intro pre _
    refine Ev.step (fun k => parapetref01_Bits.l0.eq_2 ..) (Ev_ite_neg (by simp) ?_)
    rw [List.append_nil]; exact Ev.now _
  | cons c l ih =>
    intro pre hl
    have hlt : ((pre.length : Nat) : Int) < ((pre ++ c :: l).length : Int) := by simp; omega
    have hlt' := pm_lt hd.1 hd.2 (bpol pre)
    have hout2 : 2 * pm m d (bpol pre) < 2 ^ (d + 1) := by rw [Nat.pow_succ]; omega
    have h2 : 2 * pm m d (bpol pre) < 2 ^ 64 := Nat.lt_of_lt_of_le hout2 (pow64 (by omega))
    have h1 : pm m d (bpol pre) < 2 ^ 64 := by omega
    have g := ih (pre ++ [c]) (by simpa using hl)
    have e : wrap64 ((pre.length : Int) + 1) = ((pre ++ [c]).length : Int) := by
      simp only [List.length_append, List.length_cons] at hl
      rw [wrap64_id (by omega) (by omega)]; simp
    have e1 : wrap64 ((d : Int) - 1) = ((d - 1 : Nat) : Int) := by rw [wrap64_id (by omega) (by omega)]; omega
    have e2 : IntKind.u64.wrap (((pm m d (bpol pre) : Nat) : Int) * 2) = ((2 * pm m d (bpol pre) : Nat) : Int) := by rw [wrap_u64]; omega
    rw [bpol_snoc, pm_bit _ _ _ _ (by cases c <;> simp), List.append_assoc, List.singleton_append] at g
    have hbit : (2 * pm m d (bpol pre) ^^^ c.toNat).testBit d = (pm m d (bpol pre)).testBit (d - 1) := by
      obtain ⟨d', rfl⟩ : ∃ d', d = d' + 1 := ⟨d - 1, by omega⟩
      rw [Nat.testBit_xor, Nat.testBit_succ, Nat.mul_div_cancel_left _ (by omega), Nat.add_sub_cancel]
      have : c.toNat.testBit (d' + 1) = false := by
        apply Nat.testBit_lt_two_pow
        have := Nat.pow_le_pow_right (n := 2) (by omega) (show 1 ≤ d' + 1 from by omega)
        cases c <;> simp <;> omega
      rw [this, Bool.xor_false]
    unfold red at g
    rw [hbit] at g
    refine Ev.step (fun k => parapetref01_Bits.l0.eq_2 ..) (Ev_ite_pos hlt ?_)
    rw [e1]
    refine Ev_ite_pos (by omega) (Ev_ite_pos (by omega) ?_)
    rw [rdOf_at, e, e2, show (1 : Int) = ((1 : Nat) : Int) from rfl, xor64 h2 (by omega), xor64 (Nat.xor_lt_two_pow h2 (by omega)) hm, xor64 h2 hm]
    by_cases tb : (pm m d (bpol pre)).testBit (d - 1) = true
    · have tn : ¬ (Go.bits .and .u64 (shr .u64 ((pm m d (bpol pre) : Nat) : Int) ((d - 1 : Nat) : Int)) ((1 : Nat) : Int) = 0) := by
        rw [show ((1 : Nat) : Int) = 1 from rfl, bit64_zero h1 (by omega), tb]; simp
      rw [if_pos tb] at g
      cases c
      · refine Ev_ite_neg (by simp) (Ev_ite_neg tn ?_)
        simpa using g
      · refine Ev_ite_pos rfl (Ev_ite_neg tn ?_)
        simpa using g
    · have tb' : (pm m d (bpol pre)).testBit (d - 1) = false := by simpa using tb
      have tn : (Go.bits .and .u64 (shr .u64 ((pm m d (bpol pre) : Nat) : Int) ((d - 1 : Nat) : Int)) ((1 : Nat) : Int) = 0) := by
        rw [show ((1 : Nat) : Int) = 1 from rfl, bit64_zero h1 (by omega), tb']
      rw [if_neg tb] at g
      cases c
      · refine Ev_ite_neg (by simp) (Ev_ite_pos tn ?_)
        simpa using g
      · refine Ev_ite_pos rfl (Ev_ite_pos tn ?_)
        simpa using g
theorem rbits_ev {m d : Nat} (hd : Deg m d) (hm : m < 2 ^ 64) {l : List Bool} (hl : l.length ≤ 9223372036854775806) :
    Ev (fun k => parapetref01_Bits.f k l (m : Int)) ((pm m d (bpol l) : Nat) : Int) := by
  unfold parapetref01_Bits.f
  refine Ev.bind (ref_deg_ev hd hm) ?_
  by_cases h : d = 0
  · subst h
    refine Ev_ite_pos rfl ?_
    have := pm_lt hd.1 hd.2 (bpol l)
    rw [show pm m 0 (bpol l) = 0 from by omega]
    exact Ev.now _
  · refine Ev_ite_neg (by omega) ?_
    have := rbits_loop hd hm (by omega) l [] hl
    rw [bpol_nil, pm_zero] at this
    exact this
theorem bpol_set (l : List Bool) (j t : Nat) (h : j + t + 1 = l.length) : bpol (l.set j (!(l.getD j false))) = bpol l ^^^ 2 ^ t := by
  induction l generalizing j with
  | nil => simp at h
  | cons c l ih =>
    cases j with
    | zero =>
      simp only [List.set_cons_zero, List.getD_cons_zero, bpol_cons]
      have ht : t = l.length := by simp at h; omega
      subst ht
      rw [add_eq_xor (bpol_lt l), add_eq_xor (bpol_lt l)]
      cases c
      · simp [Nat.xor_comm]
      · simp [Nat.xor_comm, ← Nat.xor_assoc]
    | succ j =>
      simp only [List.set_cons_succ, List.getD_cons_succ, bpol_cons, List.length_set]
      have hj : j + t + 1 = l.length := by simp at h; omega
      have h1 : bpol l ^^^ 2 ^ t < 2 ^ l.length := Nat.xor_lt_two_pow (bpol_lt l) (Nat.pow_lt_pow_right (by omega) (by omega))
      rw [ih j hj, add_eq_xor h1, add_eq_xor (bpol_lt l), Nat.xor_assoc]
theorem mod_step (q k : Nat) : q % 2 ^ (k + 1) = q % 2 ^ k ^^^ (q.testBit k).toNat * 2 ^ k := by
  rw [Nat.xor_comm, ← add_eq_xor (Nat.mod_lt _ (Nat.two_pow_pos k)), Nat.pow_succ, Nat.mod_mul, (halves q k).1, Nat.mul_comm]; omega
theorem rmul_inner (p q m : Nat) (hp : p < 2 ^ 64) (hq : q < 2 ^ 64) (i : Nat) (hi : i < 64) (r : Int × Int) (X : Nat)
    (h : ∀ l : List Bool, l.length = 127 → bpol l = X ^^^ (p.testBit i).toNat * (q * 2 ^ i) → Ev (fun k => parapetref01_MulMod.l0 k (p : Int) (q : Int) (m : Int) l ((i + 1 : Nat) : Int)) r) :
    ∀ (n j : Nat), j + n = 64 → ∀ l : List Bool, l.length = 127 → bpol l = X ^^^ (p.testBit i).toNat * (q % 2 ^ j * 2 ^ i) →
    Ev (fun k => parapetref01_MulMod.l1 k (p : Int) (q : Int) (m : Int) l (i : Int) (j : Int)) r := by
  intro n
  induction n with
  | zero =>
    intro j hj l hl hb
    obtain rfl : j = 64 := by omega
    refine Ev.step (fun k => parapetref01_MulMod.l1.eq_2 ..) (Ev_ite_neg (by omega) ?_)
    have e : wrap64 ((i : Int) + 1) = ((i + 1 : Nat) : Int) := by rw [wrap64_id (by omega) (by omega)]; omega
    rw [e]
    rw [Nat.mod_eq_of_lt hq] at hb
    exact h l hl hb
  | succ n ih =>
    intro j hj l hl hb
    have e : wrap64 ((j : Int) + 1) = ((j + 1 : Nat) : Int) := by rw [wrap64_id (by omega) (by omega)]; omega
    refine Ev.step (fun k => parapetref01_MulMod.l1.eq_2 ..) (Ev_ite_pos (by omega) (Ev_ite_pos (by omega) ?_))
    rw [e]
    by_cases cp : p.testBit i = true
    · refine Ev_ite_neg (by rw [bit64_zero hp (by omega), cp]; simp) (Ev_ite_pos (by omega) ?_)
      by_cases cq : q.testBit j = true
      · refine Ev_ite_neg (by rw [bit64_zero hq (by omega), cq]; simp) ?_
        have e2 : wrap64 (wrap64 (126 - (i : Int)) - (j : Int)) = ((126 - i - j : Nat) : Int) := by
          rw [wrap64_id (n := 126 - (i : Int)) (by omega) (by omega), wrap64_id (by omega) (by omega)]; omega
        rw [e2]
        refine Ev_ite_pos (by omega) (Ev_ite_pos (by omega) ?_)
        have e3 : (((126 - i - j : Nat) : Int)).toNat = 126 - i - j := Int.toNat_natCast _
        have e4 : rdOf false l ((126 - i - j : Nat) : Int) = l.getD (126 - i - j) false := by unfold rdOf; rw [e3]
        rw [e3, e4]
        refine ih (j + 1) (by omega) _ (by rw [List.length_set]; exact hl) ?_
        rw [bpol_set l _ (i + j) (by omega), hb, cp, mod_step, cq]
        simp only [Bool.toNat_true, Nat.one_mul]
        rw [xor_shift, ← Nat.pow_add, Nat.add_comm j i, Nat.xor_assoc]
      · have cq' : q.testBit j = false := by simpa using cq
        refine Ev_ite_pos ((bit64_zero hq (by omega)).2 cq') ?_
        refine ih (j + 1) (by omega) l hl ?_
        rw [hb, mod_step, cq']; simp
    · have cp' : p.testBit i = false := by simpa using cp
      refine Ev_ite_pos ((bit64_zero hp (by omega)).2 cp') ?_
      refine ih (j + 1) (by omega) l hl ?_
      rw [hb, cp']; simp
theorem rmul_loop {m d : Nat} (hd : Deg m d) (hm : m < 2 ^ 64) (p q : Nat) (hp : p < 2 ^ 64) (hq : q < 2 ^ 64) :
    ∀ (n i : Nat), i + n = 64 → ∀ l : List Bool, l.length = 127 → bpol l = cm q (p % 2 ^ i) →
    Ev (fun k => parapetref01_MulMod.l0 k (p : Int) (q : Int) (m : Int) l (i : Int)) (((pm m d (cm p q) : Nat) : Int), 0) := by
  intro n
  induction n with
  | zero =>
    intro i hi l hl hb
    obtain rfl : i = 64 := by omega
    refine Ev.step (fun k => parapetref01_MulMod.l0.eq_2 ..) (Ev_ite_neg (by omega) (Ev.bind (rbits_ev hd hm (by omega)) ?_))
    rw [hb, Nat.mod_eq_of_lt hp, cm_comm]; exact Ev.now _
  | succ n ih =>
    intro i hi l hl hb
    refine Ev.step (fun k => parapetref01_MulMod.l0.eq_2 ..) (Ev_ite_pos (by omega) ?_)
    refine rmul_inner p q m hp hq i (by omega) _ (cm q (p % 2 ^ i)) ?_ 64 0 rfl l hl (by rw [hb, Nat.pow_zero, Nat.mod_one]; simp)
    intro l' hl' hb'
    refine ih (i + 1) (by omega) l' hl' ?_
    rw [hb', mod_step, cm_xor]
    congr 1
    cases p.testBit i
    · simp [cm_zero]
    · simp [cm_pow]
theorem rmul_ev {p q m d : Nat} (hd : Deg m d) (hm : m < 2 ^ 64) (hp : p < 2 ^ 64) (hq : q < 2 ^ 64) :
    Ev (fun k => parapetref01_MulMod.f k (p : Int) (q : Int) (m : Int)) (((pm m d (cm p q) : Nat) : Int), 0) := by
  have hm0 : m ≠ 0 := by
    have h5 := hd.1
    have h6 := Nat.two_pow_pos d
    omega
  unfold parapetref01_MulMod.f
  refine Ev_ite_neg (by omega) (Ev_ite_pos (by omega) ?_)
  refine rmul_loop hd hm p q hp hq 64 0 rfl _ (by simp) ?_
  rw [Nat.pow_zero, Nat.mod_one, cm_zero]
  decide +kernel
theorem rpow_ev {m d : Nat} (hd : Deg m d) (hm : m < 2 ^ 64) : ∀ n : Nat, n < 2 ^ 64 →
    Ev (fun k => parapetref01_PowMod.f k (n : Int) (m : Int)) (((pm m d (2 ^ n) : Nat) : Int), 0) := by
  have hd64 := hd.lt hm
  have hm0 : m ≠ 0 := by
    have h5 := hd.1
    have h6 := Nat.two_pow_pos d
    omega
  have hlt : ∀ x, pm m d x < 2 ^ 64 := fun x => Nat.lt_of_lt_of_le (pm_lt hd.1 hd.2 x) (pow64 (by omega))
  intro n
  induction n using Nat.strongRecOn with
  | ind n ih =>
    intro hn
    refine Ev.step (fun k => parapetref01_PowMod.f.eq_2 ..) (Ev_ite_neg (by omega) ?_)
    by_cases hz : n = 0
    · subst hz
      refine Ev_ite_pos rfl (Ev.bind (rbits_ev hd hm (by simp)) ?_)
      have : bpol [true] = 2 ^ 0 := rfl
      rw [this]; exact Ev.now _
    · refine Ev_ite_neg (by omega) ?_
      have e1 : IntKind.u64.wrap (Int.tdiv (n : Int) 2) = ((n / 2 : Nat) : Int) := by
        rw [wrap_u64, Int.tdiv_eq_ediv_of_nonneg (by omega)]; omega
      have e2 : Int.tmod (n : Int) 2 = ((n % 2 : Nat) : Int) := by rw [Int.tmod_eq_emod_of_nonneg (by omega)]; omega
      rw [e1, e2]
      refine Ev.bind (ih (n / 2) (by omega) (by omega)) (Ev.bind (rmul_ev hd hm (hlt _) (hlt _)) ?_)
      have sq : pm m d (cm (pm m d (2 ^ (n / 2))) (pm m d (2 ^ (n / 2)))) = pm m d (2 ^ (2 * (n / 2))) := by
        rw [pm_mul hd.1 hd.2, cm_comm, pm_mul hd.1 hd.2, cm_pow, ← Nat.pow_add]
        congr 2; omega
      by_cases c : n % 2 = 0
      · refine Ev_ite_pos (by omega) ?_
        simp only [sq]
        rw [show 2 * (n / 2) = n from by omega]; exact Ev.now _
      · refine Ev_ite_neg (by omega) (Ev.bind (rmul_ev (q := 2) hd hm (hlt _) (by omega)) ?_)
        have e3 : pm m d (cm (pm m d (cm (pm m d (2 ^ (n / 2))) (pm m d (2 ^ (n / 2))))) 2) = pm m d (2 ^ n) := by
          rw [sq]
          have := cm_pow (pm m d (2 ^ (2 * (n / 2)))) 1
          rw [Nat.pow_one] at this
          rw [this]
          have := pm_shift hd.1 hd.2 (2 ^ (2 * (n / 2))) 1
          rw [Nat.pow_one] at this
          rw [this, ← Nat.pow_succ]
          congr 2; omega
        simp only [e3]; exact Ev.now _

theorem G64 : G < 2 ^ 64 := by unfold G; omega
theorem GD : Deg G 32 := ⟨G1, G2⟩

/-- the four bytes of a word -/
def word4 (s : Int) : List Int := [(s / 16777216) % 256, (s / 65536) % 256, (s / 256) % 256, s % 256]
theorem word4_by (s : Int) : By (word4 s) := by
  intro x hx; simp [word4] at hx; omega
theorem word4_pol {s : Nat} (h : s < 2 ^ 32) : pol (word4 (s : Int)) = s := by
  simp [word4, pol]; omega
theorem crc_sealed {l : List Int} : crc (l ++ word4 (crc l : Int)) = 0 := by
  have hw := word4_by (crc l : Int)
  unfold crc
  have h : pol (l ++ word4 ((crc l : Nat) : Int)) = pol l * 2 ^ 32 ^^^ crc l := by
    rw [pol_append_xor hw, word4_pol (crc_lt l)]; rfl
  have e : pm G 32 (pol l * 2 ^ 32 ^^^ crc l) = 0 := by
    rw [pm_xor G1 G2, pm_small (p := crc l) G1 G2 (crc_lt l)]; unfold crc; simp
  show pm G 32 (pol (l ++ word4 ((crc l : Nat) : Int)) * 2 ^ 32) = 0
  rw [h, ← pm_shift G1 G2, e, Nat.zero_mul, pm_zero]
def sealed (l : List Int) : List Int := l ++ word4 (crc l : Int)
theorem sealed_by {l : List Int} (h : By l) : By (sealed l) := h.append (word4_by _)
theorem sealed_length (l : List Int) : (sealed l).length = l.length + 4 := by simp [sealed, word4]
theorem clone_f {l : List Int} (hl : l.length < 140737488355328) : slices_Clone_byte_byte.f l = some l := by
  unfold slices_Clone_byte_byte.f
  rw [Option.bind_some, if_pos (by simpa using hl), List.nil_append]
theorem seal_ev {l : List Int} (hb : By l) (hl : l.length ≤ 140737488355000) : Ev (fun k => crc_Seal.f k l) (sealed l) := by
  unfold crc_Seal.f
  refine Ev.bind (bits_ev hb (by omega)) ?_
  rw [clone_f (by omega)]
  refine Ev_some (Ev_some (Ev_ite_pos (by simp; omega) ?_))
  exact Ev.now _
theorem valid_ev {l : List Int} (hb : By l) (hl : l.length ≤ 140737488355328) (h4 : 4 ≤ l.length) : Ev (fun k => crc_Valid.f k l) (decide (crc l = 0)) := by
  unfold crc_Valid.f
  refine Ev_ite_pos (by omega) (Ev.bind (bits_ev hb hl) ?_)
  have : (((crc l : Nat) : Int) == 0) = decide (crc l = 0) := by
    by_cases h : crc l = 0
    · rw [h]; rfl
    · rw [decide_eq_false h]; simpa using h
  rw [this]; exact Ev.now _
theorem awake_ev : Ev (fun k => parapetlaw02_Awake.f k) true := Ev.of parapetlaw02_Awake.mono (k := 30) (by decide +kernel)

theorem xor8 {a b : Nat} (ha : a < 256) (hb : b < 256) : bits .xor .u8 (a : Int) (b : Int) = ((a ^^^ b : Nat) : Int) := u8_xor_nat a b (by omega) (by omega)
theorem shr128 {j : Nat} (h : j < 8) : shr .u8 128 (j : Int) = ((2 ^ (7 - j) : Nat) : Int) := by
  have h1 : ∀ j : Fin 8, shr .u8 128 ((j.val : Nat) : Int) = ((2 ^ (7 - j.val) : Nat) : Int) := by decide +kernel
  exact h1 ⟨j, h⟩
/-- a list with the bit in this place turned -/
def flip (l : List Int) (k : Nat) : List Int := l.set (k / 8) (bits .xor .u8 (rd l ((k / 8 : Nat) : Int)) (shr .u8 128 ((k % 8 : Nat) : Int)))
theorem flip_length (l : List Int) (k : Nat) : (flip l k).length = l.length := by unfold flip; rw [List.length_set]
theorem flip_both : ∀ (l : List Int) (k : Nat), By l → k < 8 * l.length → By (flip l k) ∧ pol (flip l k) = pol l ^^^ 2 ^ (8 * l.length - 1 - k) := by
  intro l
  induction l with
  | nil => intro k _ h; simp at h
  | cons c l ih =>
    intro k hb hk
    by_cases h : k < 8
    · have e0 : k / 8 = 0 := by omega
      have e1 : k % 8 = k := by omega
      have hc := hb.head
      obtain ⟨n, rfl⟩ : ∃ n : Nat, c = (n : Int) := ⟨c.toNat, by omega⟩
      have hp : 2 ^ (7 - k) < 256 := by
        have : 2 ^ (7 - k) < 2 ^ 8 := Nat.pow_lt_pow_right (by omega) (by omega)
        simpa using this
      have hn : n < 256 := by omega
      have hx : n ^^^ 2 ^ (7 - k) < 256 := Nat.xor_lt_two_pow (n := 8) hn hp
      have er : rd ((n : Int) :: l) ((0 : Nat) : Int) = (n : Int) := by unfold rd; simp
      have hf : flip ((n : Int) :: l) k = ((n ^^^ 2 ^ (7 - k) : Nat) : Int) :: l := by
        unfold flip
        rw [e0, e1, er, shr128 h, xor8 hn hp]
        rfl
      rw [hf]
      constructor
      · intro x hx'
        rcases List.mem_cons.1 hx' with rfl | hx'
        · omega
        · exact hb.tail x hx'
      · rw [pol_cons, pol_cons, Int.toNat_natCast, Int.toNat_natCast, add_eq_xor (pol_lt hb.tail), add_eq_xor (pol_lt hb.tail), xor_shift, ← Nat.pow_add, List.length_cons]
        rw [show 7 - k + 8 * l.length = 8 * (l.length + 1) - 1 - k from by omega, Nat.xor_assoc, Nat.xor_assoc, Nat.xor_comm (2 ^ _)]
    · have e0 : k / 8 = (k - 8) / 8 + 1 := by omega
      have e1 : k % 8 = (k - 8) % 8 := by omega
      rw [List.length_cons] at hk
      obtain ⟨h1, h2⟩ := ih (k - 8) hb.tail (by omega)
      have er : rd (c :: l) ((((k - 8) / 8 + 1 : Nat)) : Int) = rd l (((k - 8) / 8 : Nat) : Int) := by
        unfold rd; rw [Int.toNat_natCast, Int.toNat_natCast, List.getD_cons_succ]
      have hf : flip (c :: l) k = c :: flip l (k - 8) := by
        unfold flip
        rw [e0, e1, er]
        rfl
      rw [hf]
      have hxl : pol l ^^^ 2 ^ (8 * l.length - 1 - (k - 8)) < 2 ^ (8 * l.length) := Nat.xor_lt_two_pow (pol_lt hb.tail) (Nat.pow_lt_pow_right (by omega) (by omega))
      constructor
      · intro x hx'
        rcases List.mem_cons.1 hx' with rfl | hx'
        · exact hb.head
        · exact h1 x hx'
      · rw [pol_cons, pol_cons, flip_length, h2, add_eq_xor hxl, add_eq_xor (pol_lt hb.tail), List.length_cons, Nat.xor_assoc]
        rw [show 8 * l.length - 1 - (k - 8) = 8 * (l.length + 1) - 1 - k from by omega]
/-- 'x' goes out of what an odd polynomial divides -/
theorem odd_cancel {m : Nat} (hm : m % 2 = 1) : ∀ (e x : Nat), Cong m (x * 2 ^ e) 0 → Cong m x 0 := by
  intro e
  induction e with
  | zero => intro x h; simpa using h
  | succ e ih =>
    intro x h
    apply ih
    rw [Nat.pow_succ, ← Nat.mul_assoc] at h
    generalize x * 2 ^ e = y at h ⊢
    obtain ⟨a, ha⟩ := h
    rw [Nat.xor_zero] at ha
    have h2 : (cm m a) % 2 = a % 2 := by
      rw [cm_comm, cm_eq, if_pos hm, xor_mod2]; omega
    have ha2 : a = 2 * (a / 2) := by omega
    rw [ha2, cm_dbl] at ha
    exact ⟨a / 2, by rw [Nat.xor_zero]; omega⟩
theorem burst_seen {w e : Nat} (h0 : w ≠ 0) (hw : w < 2 ^ 32) : pm G 32 (w * 2 ^ e) ≠ 0 := by
  intro h
  have h1 := pm_cong G 32 (w * 2 ^ e)
  rw [h] at h1
  have h2 := odd_cancel (m := G) (by unfold G; omega) e w h1
  have h3 := pm_eq_of_cong G1 G2 h2
  rw [pm_small G1 G2 hw, pm_zero] at h3
  exact h0 h3
theorem crc_xor {l l' : List Int} {p : Nat} (h : pol l' = pol l ^^^ p) (hl : crc l = 0) : crc l' = pm G 32 (p * 2 ^ 32) := by
  unfold crc at hl ⊢
  rw [h, xor_shift, pm_xor G1 G2, hl, Nat.zero_xor]

theorem u_nat (x : Int) : ∃ a : Nat, IntKind.u64.wrap x = (a : Int) := ⟨(x % 18446744073709551616).toNat, by rw [wrap_u64]; omega⟩
theorem w_mod {a r : Nat} (h0 : 0 < r) (h : r < 4611686018427387904) : wrap64 (Int.tmod (a : Int) (r : Int)) = ((a % r : Nat) : Int) := by
  have hlt := Nat.mod_lt a h0
  rw [Int.tmod_eq_emod_of_nonneg (by omega), ← Int.natCast_emod, wrap64_id (by omega) (by omega)]

/-- how many of the lowest n bits are 1 -/
def wt : Nat → Nat → Nat
  | 0, _ => 0
  | n + 1, x => x % 2 + wt n (x / 2)
theorem wt_zero (n : Nat) : wt n 0 = 0 := by
  induction n with
  | zero => rfl
  | succ n ih => show 0 % 2 + wt n (0 / 2) = 0; rw [Nat.zero_mod, Nat.zero_div, ih]
theorem wt_add (a b x : Nat) : wt (a + b) x = wt a x + wt b (x / 2 ^ a) := by
  induction a generalizing x with
  | zero => simp [wt]
  | succ a ih =>
    rw [show a + 1 + b = (a + b) + 1 from by omega]
    show x % 2 + wt (a + b) (x / 2) = x % 2 + wt a (x / 2) + wt b (x / 2 ^ (a + 1))
    rw [ih, Nat.div_div_eq_div_mul, ← Nat.pow_succ', Nat.add_assoc]
theorem wt_mod (a x : Nat) : wt a (x % 2 ^ a) = wt a x := by
  induction a generalizing x with
  | zero => rfl
  | succ a ih =>
    show x % 2 ^ (a + 1) % 2 + wt a (x % 2 ^ (a + 1) / 2) = x % 2 + wt a (x / 2)
    have e1 : x % 2 ^ (a + 1) % 2 = x % 2 := by
      rw [Nat.pow_succ, Nat.mul_comm]; exact Nat.mod_mul_right_mod x 2 (2 ^ a)
    have e2 : x % 2 ^ (a + 1) / 2 = (x / 2) % 2 ^ a := by
      rw [Nat.pow_succ, Nat.mul_comm, Nat.mod_mul_right_div_self]
    rw [e1, e2, ih]
theorem wt_bytes (n x : Nat) : wt (8 + n) x = wt 8 (x % 256) + wt n (x / 256) := by
  rw [wt_add, ← wt_mod 8 x]
/-- a byte by byte map of the lowest n bytes -/
def mapB (f : Nat → Nat) : Nat → Nat → Nat
  | 0, _ => 0
  | n + 1, x => f (x % 256) + 256 * mapB f n (x / 256)
def maskN (m : Nat) : Nat → Nat
  | 0 => 0
  | n + 1 => m + 256 * maskN m n
theorem mapB_congr {f g : Nat → Nat} (h : ∀ b, b < 256 → f b = g b) : ∀ n x, mapB f n x = mapB g n x := by
  intro n
  induction n with
  | zero => intro x; rfl
  | succ n ih => intro x; show f _ + _ = g _ + _; rw [h _ (Nat.mod_lt _ (by omega)), ih]
theorem mapB_lt {f : Nat → Nat} (h : ∀ b, b < 256 → f b < 256) : ∀ n x, mapB f n x < 256 ^ n := by
  intro n
  induction n with
  | zero => intro x; simp [mapB]
  | succ n ih =>
    intro x
    have h1 := h (x % 256) (Nat.mod_lt _ (by omega))
    have h2 := ih (x / 256)
    rw [Nat.pow_succ]; show f _ + 256 * mapB f n _ < _
    omega
theorem mapB_comp {f g : Nat → Nat} (h : ∀ b, b < 256 → f b < 256) : ∀ n x, mapB g n (mapB f n x) = mapB (fun b => g (f b)) n x := by
  intro n
  induction n with
  | zero => intro x; rfl
  | succ n ih =>
    intro x
    have h1 := h (x % 256) (Nat.mod_lt _ (by omega))
    show g ((f _ + 256 * mapB f n _) % 256) + 256 * mapB g n ((f _ + 256 * mapB f n _) / 256) = g (f _) + 256 * mapB (fun b => g (f b)) n _
    rw [show (f (x % 256) + 256 * mapB f n (x / 256)) % 256 = f (x % 256) from by omega, show (f (x % 256) + 256 * mapB f n (x / 256)) / 256 = mapB f n (x / 256) from by omega, ih]
theorem mapB_add (f g : Nat → Nat) : ∀ n x, mapB f n x + mapB g n x = mapB (fun b => f b + g b) n x := by
  intro n
  induction n with
  | zero => intro x; rfl
  | succ n ih =>
    intro x
    show f _ + 256 * mapB f n _ + (g _ + 256 * mapB g n _) = (f _ + g _) + 256 * mapB (fun b => f b + g b) n _
    rw [← ih]; omega
theorem and_split (x y : Nat) : x &&& y = (x % 256 &&& y % 256) + 256 * (x / 256 &&& y / 256) := by
  have h1 : (x &&& y) % 2 ^ 8 = x % 2 ^ 8 &&& y % 2 ^ 8 := Nat.and_mod_two_pow
  have h2 : (x &&& y) / 2 ^ 8 = x / 2 ^ 8 &&& y / 2 ^ 8 := Nat.and_div_two_pow
  have := Nat.div_add_mod (x &&& y) 256
  rw [show (2 : Nat) ^ 8 = 256 from rfl] at h1 h2
  omega
theorem and_mask {m : Nat} (hm : m < 256) : ∀ n x, x &&& maskN m n = mapB (fun b => b &&& m) n x := by
  intro n
  induction n with
  | zero => intro x; simp [maskN, mapB]
  | succ n ih =>
    intro x
    rw [and_split]
    show (x % 256 &&& (m + 256 * maskN m n) % 256) + 256 * (x / 256 &&& (m + 256 * maskN m n) / 256) = (x % 256 &&& m) + 256 * mapB _ n _
    rw [show (m + 256 * maskN m n) % 256 = m from by omega, show (m + 256 * maskN m n) / 256 = maskN m n from by omega, ih]
theorem and_mask_shift {m k : Nat} (hm : m < 256) (hk : ∀ y, y < 256 * 2 ^ k → (y / 2 ^ k) &&& m = (y % 256 / 2 ^ k) &&& m) : ∀ n x, (x / 2 ^ k) &&& maskN m n = mapB (fun b => (b / 2 ^ k) &&& m) n x := by
  intro n
  induction n with
  | zero => intro x; simp [maskN, mapB]
  | succ n ih =>
    intro x
    rw [and_split]
    show (x / 2 ^ k % 256 &&& (m + 256 * maskN m n) % 256) + 256 * (x / 2 ^ k / 256 &&& (m + 256 * maskN m n) / 256) = ((x % 256 / 2 ^ k) &&& m) + 256 * mapB _ n _
    rw [show (m + 256 * maskN m n) % 256 = m from by omega, show (m + 256 * maskN m n) / 256 = maskN m n from by omega, Nat.div_div_eq_div_mul, Nat.mul_comm (2 ^ k), ← Nat.div_div_eq_div_mul, ih]
    congr 1
    have h1 := hk (x % (256 * 2 ^ k)) (Nat.mod_lt _ (Nat.mul_pos (by omega) (Nat.two_pow_pos k)))
    rw [Nat.mod_mul_right_mod] at h1
    rw [← h1, Nat.mul_comm 256, Nat.mod_mul_right_div_self]
def A8 (b : Nat) : Nat := ((b / 2 ^ 1) &&& 85) + (b &&& 85)
def B8 (b : Nat) : Nat := ((b / 2 ^ 2) &&& 51) + (b &&& 51)
theorem swar1 (x : Nat) : (x / 2 &&& 6148914691236517205) + (x &&& 6148914691236517205) = mapB A8 8 x := by
  have hm : maskN 85 8 = 6148914691236517205 := by decide
  have h1 := and_mask_shift (m := 85) (k := 1) (by omega) (by decide +kernel) 8 x
  have h2 := and_mask (m := 85) (by omega) 8 x
  rw [hm] at h1 h2
  rw [Nat.pow_one] at h1
  rw [h1, h2, mapB_add]; rfl
theorem swar2 (x : Nat) : (x / 4 &&& 3689348814741910323) + (x &&& 3689348814741910323) = mapB B8 8 x := by
  have hm : maskN 51 8 = 3689348814741910323 := by decide
  have h1 := and_mask_shift (m := 51) (k := 2) (by omega) (by decide +kernel) 8 x
  have h2 := and_mask (m := 51) (by omega) 8 x
  rw [hm] at h1 h2
  rw [show (4 : Nat) = 2 ^ 2 from rfl, h1, h2, mapB_add]; rfl
/-- every byte's halves are at most 4 -/
def Nib : Nat → Nat → Prop
  | 0, _ => True
  | n + 1, x => x % 16 ≤ 4 ∧ x / 16 % 16 ≤ 4 ∧ Nib n (x / 256)
theorem swar3 : ∀ n x, Nib n x → x < 256 ^ n → (x / 16 + x) &&& maskN 15 n = mapB (fun b => (b / 16 + b) % 16) n x := by
  intro n
  induction n with
  | zero => intro x _ _; simp [maskN, mapB]
  | succ n ih =>
    intro x h hx
    obtain ⟨h1, h2, h3⟩ := h
    have h5 : x / 256 = x / 16 / 16 := by omega
    have h4 : x / 256 % 16 ≤ 4 := by
      cases n with
      | zero => rw [Nat.pow_one] at hx; omega
      | succ n => exact h3.1
    rw [and_split]
    show ((x / 16 + x) % 256 &&& (15 + 256 * maskN 15 n) % 256) + 256 * ((x / 16 + x) / 256 &&& (15 + 256 * maskN 15 n) / 256) = (x % 256 / 16 + x % 256) % 16 + 256 * mapB _ n _
    rw [show (15 + 256 * maskN 15 n) % 256 = 2 ^ 4 - 1 from by omega, show (15 + 256 * maskN 15 n) / 256 = maskN 15 n from by omega, show (x / 16 + x) / 256 = x / 256 / 16 + x / 256 from by omega, ih _ h3 (Nat.div_lt_of_lt_mul (by rw [Nat.pow_succ, Nat.mul_comm] at hx; exact hx)), Nat.and_two_pow_sub_one_eq_mod]
    omega
theorem nib_B : ∀ n x, Nib n (mapB (fun b => B8 (A8 b)) n x) := by
  have h : ∀ b, b < 256 → B8 (A8 b) % 16 ≤ 4 ∧ B8 (A8 b) / 16 ≤ 4 := by decide +kernel
  intro n
  induction n with
  | zero => intro x; trivial
  | succ n ih =>
    intro x
    obtain ⟨h1, h2⟩ := h (x % 256) (Nat.mod_lt _ (by omega))
    have e : mapB (fun b => B8 (A8 b)) (n + 1) x = B8 (A8 (x % 256)) + 256 * mapB (fun b => B8 (A8 b)) n (x / 256) := rfl
    rw [e]
    refine ⟨by omega, by omega, ?_⟩
    rw [show (B8 (A8 (x % 256)) + 256 * mapB (fun b => B8 (A8 b)) n (x / 256)) / 256 = mapB (fun b => B8 (A8 b)) n (x / 256) from by omega]
    exact ih _
theorem pc8 : ∀ b, b < 256 → (B8 (A8 b) / 16 + B8 (A8 b)) % 16 = wt 8 b := by decide +kernel
theorem a8_lt : ∀ b, b < 256 → A8 b < 256 := by decide +kernel
theorem b8_lt : ∀ b, b < 256 → B8 b < 256 := by decide +kernel
theorem wt8_le : ∀ b, b < 256 → wt 8 b ≤ 8 := by decide +kernel
theorem swar (x : Nat) : (mapB B8 8 (mapB A8 8 x) / 16 + mapB B8 8 (mapB A8 8 x)) &&& 1085102592571150095 = mapB (wt 8) 8 x := by
  have hm : maskN 15 8 = 1085102592571150095 := by decide
  rw [← hm, mapB_comp a8_lt]
  have h8 : ∀ b, b < 256 → B8 (A8 b) < 256 := fun b h => b8_lt _ (a8_lt b h)
  rw [swar3 8 _ (nib_B 8 x) (mapB_lt h8 8 x), mapB_comp h8]
  exact mapB_congr pc8 8 x
theorem wt_sum {x : Nat} : wt 64 x = wt 8 (x % 256) + (wt 8 (x / 256 % 256) + (wt 8 (x / 256 / 256 % 256) + (wt 8 (x / 256 / 256 / 256 % 256) + (wt 8 (x / 256 / 256 / 256 / 256 % 256) + (wt 8 (x / 256 / 256 / 256 / 256 / 256 % 256) + (wt 8 (x / 256 / 256 / 256 / 256 / 256 / 256 % 256) + wt 8 (x / 256 / 256 / 256 / 256 / 256 / 256 / 256 % 256))))))) := by
  rw [show 64 = 8 + 56 from rfl, wt_bytes, show 56 = 8 + 48 from rfl, wt_bytes, show 48 = 8 + 40 from rfl, wt_bytes, show 40 = 8 + 32 from rfl, wt_bytes, show 32 = 8 + 24 from rfl, wt_bytes, show 24 = 8 + 16 from rfl, wt_bytes, show 16 = 8 + 8 from rfl, wt_bytes, ← wt_mod 8 (x / 256 / 256 / 256 / 256 / 256 / 256 / 256)]
theorem sums1 {c a T : Nat} (hc : c ≤ 255) (h : a = c + 256 * T) : a / 256 = T := by omega
theorem sums2 {D c d A B : Nat} (hc : c ≤ 255) (hd : d ≤ 255) (h : D = c + 256 * d + 65536 * (A + B)) : D / 65536 = A + B := by omega
theorem sums3 {E a b c d A : Nat} (ha : a ≤ 255) (hb : b ≤ 255) (hc : c ≤ 255) (hd : d ≤ 255) (h : E = a + 256 * b + 65536 * c + 16777216 * d + 4294967296 * A) : E / 4294967296 = A := by omega
theorem sums4 {F s A : Nat} (hs : s ≤ 64) (h : F = s + 256 * A) : F % 128 = s := by omega
theorem up {c T a n : Nat} (hc : c ≤ 8) (hT : T ≤ n) (h : a = c + 256 * T) : a ≤ 8 + 256 * n := by omega
theorem swar_fin {c0 c1 c2 c3 c4 c5 c6 c7 C T1 T2 T3 T4 T5 T6 T7 : Nat} (l0 : c0 ≤ 8) (l1 : c1 ≤ 8) (l2 : c2 ≤ 8) (l3 : c3 ≤ 8) (l4 : c4 ≤ 8) (l5 : c5 ≤ 8) (l6 : c6 ≤ 8) (l7 : c7 ≤ 8)
    (h7 : T7 = c7) (h6 : T6 = c6 + 256 * T7) (h5 : T5 = c5 + 256 * T6) (h4 : T4 = c4 + 256 * T5) (h3 : T3 = c3 + 256 * T4) (h2 : T2 = c2 + 256 * T3) (h1 : T1 = c1 + 256 * T2) (h0 : C = c0 + 256 * T1) :
    C ≤ 578721382704613384 ∧ C / 256 = T1 ∧ (C + T1) / 65536 = T2 + T3 ∧ (C + T1 + (T2 + T3)) / 4294967296 = T4 + T5 + (T6 + T7) ∧
    (C + T1 + (T2 + T3) + (T4 + T5 + (T6 + T7))) % 128 = c0 + (c1 + (c2 + (c3 + (c4 + (c5 + (c6 + c7)))))) ∧ C + T1 + (T2 + T3) + (T4 + T5 + (T6 + T7)) < 2 ^ 63 := by
  have b7 : T7 ≤ 8 := by omega
  have b6 := up l6 b7 h6
  have b5 := up l5 b6 h5
  have b4 := up l4 b5 h4
  have b3 := up l3 b4 h3
  have b2 := up l2 b3 h2
  have b1 := up l1 b2 h1
  have b0 := up l0 b1 h0
  refine ⟨b0, sums1 (by omega) h0, sums2 (c := c0 + c1) (d := c1 + c2) (by omega) (by omega) ?_, sums3 (a := c0 + c1 + c2 + c3) (b := c1 + c2 + c3 + c4) (c := c2 + c3 + c4 + c5) (d := c3 + c4 + c5 + c6) (by omega) (by omega) (by omega) (by omega) ?_,
    sums4 (A := T1 + T2 + T3 + T4 + T5 + T6 + T7) (by omega) ?_, ?_⟩
  · rw [h0, h1, h2]; clear h0 h1 h2 h3 h4 h5 h6 h7 b0 b1 b2 b3 b4 b5 b6 b7; omega
  · have e0 : C = c0 + 256 * c1 + 65536 * c2 + 16777216 * c3 + 4294967296 * T4 := by rw [h0, h1, h2, h3]; clear h0 h1 h2 h3 h4 h5 h6 h7 b0 b1 b2 b3 b4 b5 b6 b7; omega
    have e1 : T1 = c1 + 256 * c2 + 65536 * c3 + 16777216 * c4 + 4294967296 * T5 := by rw [h1, h2, h3, h4]; clear h0 h1 h2 h3 h4 h5 h6 h7 b0 b1 b2 b3 b4 b5 b6 b7; omega
    have e2 : T2 = c2 + 256 * c3 + 65536 * c4 + 16777216 * c5 + 4294967296 * T6 := by rw [h2, h3, h4, h5]; clear h0 h1 h2 h3 h4 h5 h6 h7 b0 b1 b2 b3 b4 b5 b6 b7; omega
    have e3 : T3 = c3 + 256 * c4 + 65536 * c5 + 16777216 * c6 + 4294967296 * T7 := by rw [h3, h4, h5, h6]; clear h0 h1 h2 h3 h4 h5 h6 h7 b0 b1 b2 b3 b4 b5 b6 b7; omega
    rw [e0, e1, e2, e3]; clear h0 h1 h2 h3 h4 h5 h6 h7 b0 b1 b2 b3 b4 b5 b6 b7; omega
  · rw [h0]
    have e : T1 + (T2 + T3) + (T4 + T5 + (T6 + T7)) = c1 + c2 + c3 + c4 + c5 + c6 + c7 + 256 * (T2 + T3 + T4 + T5 + T6 + T7) := by
      conv => lhs; rw [h1, h2, h3, h4, h5, h6, h7]
      conv => rhs; rw [h2, h3, h4, h5, h6, h7]
      clear h0 h1 h2 h3 h4 h5 h6 h7 b0 b1 b2 b3 b4 b5 b6 b7; omega
    clear h0 h1 h2 h3 h4 h5 h6 h7 b0 b1 b2 b3 b4 b5 b6 b7; omega
  · clear h0 h1 h2 h3 h4 h5 h6 h7; omega
/-- the last three sums -/
theorem swar_end {x C : Nat} (hC : C = mapB (wt 8) 8 x) : C ≤ 578721382704613384 ∧ C + C / 256 + (C + C / 256) / 65536 + (C + C / 256 + (C + C / 256) / 65536) / 4294967296 < 2 ^ 63 ∧
    (C + C / 256 + (C + C / 256) / 65536 + (C + C / 256 + (C + C / 256) / 65536) / 4294967296) % 128 = wt 64 x := by
  have h := swar_fin (wt8_le (x % 256) (Nat.mod_lt _ (by omega))) (wt8_le (x / 256 % 256) (Nat.mod_lt _ (by omega))) (wt8_le (x / 256 / 256 % 256) (Nat.mod_lt _ (by omega))) (wt8_le (x / 256 / 256 / 256 % 256) (Nat.mod_lt _ (by omega)))
    (wt8_le (x / 256 / 256 / 256 / 256 % 256) (Nat.mod_lt _ (by omega))) (wt8_le (x / 256 / 256 / 256 / 256 / 256 % 256) (Nat.mod_lt _ (by omega))) (wt8_le (x / 256 / 256 / 256 / 256 / 256 / 256 % 256) (Nat.mod_lt _ (by omega))) (wt8_le (x / 256 / 256 / 256 / 256 / 256 / 256 / 256 % 256) (Nat.mod_lt _ (by omega)))
    rfl rfl rfl rfl rfl rfl rfl (C := C) hC
  obtain ⟨g0, g1, g2, g3, g4, g5⟩ := h
  rw [← wt_sum] at g4
  rw [g1, g2, g3]
  exact ⟨g0, g5, g4⟩

theorem red3 (r b : Nat) (hr : r < 2) (hb : b < 2) : red 3 1 (2 * r ^^^ b) = (b + r) % 2 := by
  have h : ∀ r, r < 2 → ∀ b, b < 2 → red 3 1 (2 * r ^^^ b) = (b + r) % 2 := by decide +kernel
  exact h r hr b hb
theorem pm3 : ∀ (n p : Nat), p < 2 ^ n → pm 3 1 p = wt n p % 2 := by
  intro n
  induction n with
  | zero => intro p hp; obtain rfl : p = 0 := by omega
            rw [pm_zero]; rfl
  | succ n ih =>
    intro p hp
    rw [pm_eq, red3 _ _ (by rw [ih _ (by omega)]; omega) (by omega), ih _ (by omega)]
    show _ = (p % 2 + wt n (p / 2)) % 2
    omega

end Go.Proofs.Ytcnlomknmhgpbaa.Pure
