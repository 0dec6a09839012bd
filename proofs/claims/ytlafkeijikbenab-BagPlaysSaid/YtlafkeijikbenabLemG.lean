/- Lemmas on the printed functions: what each comes to, over plain numbers and lists. -/
import Derived.Test.YtlafkeijikbenabPGx1
import Derived.Test.YtlafkeijikbenabPGx2
import Derived.Test.YtlafkeijikbenabPGx3
import Derived.Test.YtlafkeijikbenabBt
namespace Go.Proofs.Ytlafkeijikbenab.Pure
open Go Go.RowKit Go.Proofs.Ytlafkeijikbenab.PG Go.Proofs.YtlafkeijikbenabW.PrintWords Go.Proofs.YtlafkeijikbenabW.PrintLast Go.Proofs.YtlafkeijikbenabW.PrintMore
open Go.Proofs.Ytlafkeijikbenab.Gf Go.Proofs.Ytlafkeijikbenab.Bt

theorem step_round {s : Nat} (h : s < 2 ^ 32) : (if ((s : Int) / 2147483648) = 0 then (((s : Int) * 2) % 4294967296) else (Go.bits .xor .u32 (((s : Int) * 2) % 4294967296) 517762881)) = ((pm G 32 (2 * s) : Nat) : Int) := by
  have h2 : 2 * s < 2 ^ (32 + 1) := by omega
  rw [pm_red G1 G2 h2]
  unfold red
  rw [testBit_top h2]
  by_cases c : s < 2147483648
  · rw [if_pos (by omega), if_neg (by simp; omega)]; omega
  · rw [if_neg (by omega), if_pos (by simp; omega)]
    have e1 : ((s : Int) * 2) % 4294967296 = ((2 * s - 2 ^ 32 : Nat) : Int) := by omega
    rw [e1, show (517762881 : Int) = ((517762881 : Nat) : Int) from rfl, xor32 (by omega) (by omega)]
    have e2 : 2 * s = 1 * 2 ^ 32 ^^^ (2 * s - 2 ^ 32) := by rw [← add_eq_xor (by omega)]; omega
    have e3 : G = 1 * 2 ^ 32 ^^^ 517762881 := by rw [← add_eq_xor (by omega)]; rfl
    conv => rhs; rw [e2, e3, xor4, Nat.xor_self, Nat.zero_xor]
theorem step_loop : ∀ (n i s : Nat), i + n = 8 → s < 2 ^ 32 → Ev (fun k => crc_step.l0 k (s : Int) (i : Int)) ((pm G 32 (s * 2 ^ n) : Nat) : Int) := by
  intro n
  induction n with
  | zero =>
    intro i s hi hs
    refine Ev.step (fun k => crc_step.l0.eq_2 ..) ?_
    refine Ev_ite_neg (by omega) ?_
    rw [Nat.pow_zero, Nat.mul_one, pm_small G1 G2 hs]
    exact Ev.now _
  | succ n ih =>
    intro i s hi hs
    refine Ev.step (fun k => crc_step.l0.eq_2 ..) ?_
    refine Ev_ite_pos (by omega) ?_
    have e : wrap64 ((i : Int) + 1) = ((i + 1 : Nat) : Int) := by rw [wrap64_id (by omega) (by omega)]; omega
    rw [e]
    have g := ih (i + 1) (pm G 32 (2 * s)) (by omega) (pm_lt G1 G2 _)
    rw [pm_shift G1 G2, Nat.mul_comm 2 s, Nat.mul_assoc, ← Nat.pow_succ', ← Nat.mul_comm 2 s, ← step_round hs] at g
    by_cases c : ((s : Int) / 2147483648) = 0
    · refine Ev_ite_pos c ?_
      rw [if_pos c] at g; exact g
    · refine Ev_ite_neg c ?_
      rw [if_neg c] at g; exact g
theorem step_ev {s : Nat} {c : Int} (hs : s < 2 ^ 32) (h0 : 0 ≤ c) (h1 : c < 256) : Ev (fun k => crc_step.f k (s : Int) c) ((stp s c.toNat : Nat) : Int) := by
  unfold crc_step.f
  have e : (((c) % 4294967296) * 16777216) % 4294967296 = ((c.toNat * 2 ^ 24 : Nat) : Int) := by omega
  rw [e, xor32 hs (by omega)]
  exact step_loop 8 0 _ rfl (Nat.xor_lt_two_pow hs (by omega))
theorem bits_loop : ∀ (l pre : List Int) (s : Nat), By l → (pre ++ l).length ≤ 140737488355328 → s < 2 ^ 32 →
    Ev (fun k => crc_Bits.l0 k (s : Int) (pre ++ l) ((pre ++ l).length : Int) (pre.length : Int)) ((crcFrom s l : Nat) : Int) := by
  intro l
  induction l with
  | nil =>
    intro pre s _ _ hs
    refine Ev.step (fun k => crc_Bits.l0.eq_2 ..) ?_
    refine Ev_ite_neg (by simp) ?_
    rw [crcFrom_nil hs]; exact Ev.now _
  | cons c l ih =>
    intro pre s hb hl hs
    have hc := hb.head
    refine Ev.step (fun k => crc_Bits.l0.eq_2 ..) ?_
    have hlt : ((pre.length : Nat) : Int) < ((pre ++ c :: l).length : Int) := by simp; omega
    refine Ev_ite_pos hlt (Ev_ite_pos (by omega) (Ev_ite_pos hlt ?_))
    rw [rd_at]
    refine Ev.bind (step_ev hs hc.1 hc.2) ?_
    rw [crcFrom_cons s c hb.tail]
    have g := ih (pre ++ [c]) (stp s c.toNat) hb.tail (by simpa using hl) (pm_lt G1 G2 _)
    have e : wrap64 ((pre.length : Int) + 1) = ((pre ++ [c]).length : Int) := by
      rw [wrap64_id (by omega) (by simp at hl; omega)]; simp
    rw [e]
    simpa using g
theorem bits_ev {l : List Int} (hb : By l) (hl : l.length ≤ 140737488355328) : Ev (fun k => crc_Bits.f k l) ((crc l : Nat) : Int) := by
  have := bits_loop l [] 0 hb hl (by omega)
  rw [crcFrom_zero] at this
  exact this

/-- how many bits a number has -/
def len (a : Nat) : Nat := if a = 0 then 0 else a.log2 + 1
theorem len_zero : len 0 = 0 := rfl
theorem len_iff {a n : Nat} : len a = n + 1 ↔ 2 ^ n ≤ a ∧ a < 2 ^ (n + 1) := by
  unfold len
  by_cases h : a = 0
  · subst h
    have := Nat.two_pow_pos n
    simp
  · rw [if_neg h]
    have h1 := Nat.log2_self_le h
    have h2 := @Nat.lt_log2_self a
    constructor
    · intro e
      have : a.log2 = n := by omega
      subst this; exact ⟨h1, h2⟩
    · intro ⟨u, v⟩
      have e1 : a.log2 < n + 1 := (Nat.log2_lt h).2 v
      have e2 : n ≤ a.log2 := (Nat.le_log2 h).2 u
      omega
theorem len_pos {a : Nat} (h : a ≠ 0) : ∃ n, len a = n + 1 := ⟨a.log2, by simp [len, h]⟩
theorem len_le {a n : Nat} (h : a < 2 ^ n) : len a ≤ n := by
  by_cases z : a = 0
  · subst z; simp [len]
  · obtain ⟨m, hm⟩ := len_pos z
    rw [hm]
    have := (len_iff.1 hm).1
    apply Nat.lt_of_not_le
    intro c
    have := Nat.pow_le_pow_right (n := 2) (by omega) c
    have := Nat.pow_le_pow_right (n := 2) (by omega) (show n ≤ m + 1 - 1 from by omega)
    rw [Nat.add_sub_cancel] at this
    omega
theorem lt_of_len {a n : Nat} (h : len a ≤ n) : a < 2 ^ n := by
  by_cases z : a = 0
  · subst z; exact Nat.two_pow_pos n
  · obtain ⟨m, hm⟩ := len_pos z
    have := (len_iff.1 hm).2
    exact Nat.lt_of_lt_of_le this (Nat.pow_le_pow_right (by omega) (by omega))
theorem len_shift {a s : Nat} (h : a / 2 ^ s ≠ 0) : len a = s + len (a / 2 ^ s) := by
  obtain ⟨n, hn⟩ := len_pos h
  rw [hn]
  obtain ⟨u, v⟩ := len_iff.1 hn
  have hp := Nat.two_pow_pos s
  show len a = (s + n) + 1
  rw [len_iff, Nat.pow_add, show s + n + 1 = s + (n + 1) from rfl, Nat.pow_add 2 s]
  constructor
  · calc 2 ^ s * 2 ^ n ≤ 2 ^ s * (a / 2 ^ s) := Nat.mul_le_mul_left _ u
      _ ≤ a := Nat.mul_div_le _ _
  · rw [Nat.mul_comm]; exact (Nat.div_lt_iff_lt_mul hp).1 v
def tab : ByteArray := ⟨#[0, 1, 2, 2, 3, 3, 3, 3, 4, 4, 4, 4, 4, 4, 4, 4, 5, 5, 5, 5, 5, 5, 5, 5, 5, 5, 5, 5, 5, 5, 5, 5, 6, 6, 6, 6, 6, 6, 6, 6, 6, 6, 6, 6, 6, 6, 6, 6, 6, 6, 6, 6, 6, 6, 6, 6, 6, 6, 6, 6, 6, 6, 6, 6, 7, 7, 7, 7, 7, 7, 7, 7, 7, 7, 7, 7, 7, 7, 7, 7, 7, 7, 7, 7, 7, 7, 7, 7, 7, 7, 7, 7, 7, 7, 7, 7, 7, 7, 7, 7, 7, 7, 7, 7, 7, 7, 7, 7, 7, 7, 7, 7, 7, 7, 7, 7, 7, 7, 7, 7, 7, 7, 7, 7, 7, 7, 7, 7, 8, 8, 8, 8, 8, 8, 8, 8, 8, 8, 8, 8, 8, 8, 8, 8, 8, 8, 8, 8, 8, 8, 8, 8, 8, 8, 8, 8, 8, 8, 8, 8, 8, 8, 8, 8, 8, 8, 8, 8, 8, 8, 8, 8, 8, 8, 8, 8, 8, 8, 8, 8, 8, 8, 8, 8, 8, 8, 8, 8, 8, 8, 8, 8, 8, 8, 8, 8, 8, 8, 8, 8, 8, 8, 8, 8, 8, 8, 8, 8, 8, 8, 8, 8, 8, 8, 8, 8, 8, 8, 8, 8, 8, 8, 8, 8, 8, 8, 8, 8, 8, 8, 8, 8, 8, 8, 8, 8, 8, 8, 8, 8, 8, 8, 8, 8, 8, 8, 8, 8, 8, 8, 8, 8, 8, 8, 8, 8]⟩
theorem tab_all : ∀ c : Fin 256, bt tab ((c.val : Nat) : Int) = ((len c.val : Nat) : Int) := by decide +kernel
theorem tab_len {e : Int} {c : Nat} (he : e = (c : Int)) (h : c < 256) : wrap64 (bt (⟨#[0, 1, 2, 2, 3, 3, 3, 3, 4, 4, 4, 4, 4, 4, 4, 4, 5, 5, 5, 5, 5, 5, 5, 5, 5, 5, 5, 5, 5, 5, 5, 5, 6, 6, 6, 6, 6, 6, 6, 6, 6, 6, 6, 6, 6, 6, 6, 6, 6, 6, 6, 6, 6, 6, 6, 6, 6, 6, 6, 6, 6, 6, 6, 6, 7, 7, 7, 7, 7, 7, 7, 7, 7, 7, 7, 7, 7, 7, 7, 7, 7, 7, 7, 7, 7, 7, 7, 7, 7, 7, 7, 7, 7, 7, 7, 7, 7, 7, 7, 7, 7, 7, 7, 7, 7, 7, 7, 7, 7, 7, 7, 7, 7, 7, 7, 7, 7, 7, 7, 7, 7, 7, 7, 7, 7, 7, 7, 7, 8, 8, 8, 8, 8, 8, 8, 8, 8, 8, 8, 8, 8, 8, 8, 8, 8, 8, 8, 8, 8, 8, 8, 8, 8, 8, 8, 8, 8, 8, 8, 8, 8, 8, 8, 8, 8, 8, 8, 8, 8, 8, 8, 8, 8, 8, 8, 8, 8, 8, 8, 8, 8, 8, 8, 8, 8, 8, 8, 8, 8, 8, 8, 8, 8, 8, 8, 8, 8, 8, 8, 8, 8, 8, 8, 8, 8, 8, 8, 8, 8, 8, 8, 8, 8, 8, 8, 8, 8, 8, 8, 8, 8, 8, 8, 8, 8, 8, 8, 8, 8, 8, 8, 8, 8, 8, 8, 8, 8, 8, 8, 8, 8, 8, 8, 8, 8, 8, 8, 8, 8, 8, 8, 8, 8, 8, 8, 8]⟩ : ByteArray) e) = ((len c : Nat) : Int) := by
  subst he
  have g : bt tab (c : Int) = ((len c : Nat) : Int) := tab_all ⟨c, h⟩
  have b : len c ≤ 8 := len_le (by omega)
  have g' : bt (⟨#[0, 1, 2, 2, 3, 3, 3, 3, 4, 4, 4, 4, 4, 4, 4, 4, 5, 5, 5, 5, 5, 5, 5, 5, 5, 5, 5, 5, 5, 5, 5, 5, 6, 6, 6, 6, 6, 6, 6, 6, 6, 6, 6, 6, 6, 6, 6, 6, 6, 6, 6, 6, 6, 6, 6, 6, 6, 6, 6, 6, 6, 6, 6, 6, 7, 7, 7, 7, 7, 7, 7, 7, 7, 7, 7, 7, 7, 7, 7, 7, 7, 7, 7, 7, 7, 7, 7, 7, 7, 7, 7, 7, 7, 7, 7, 7, 7, 7, 7, 7, 7, 7, 7, 7, 7, 7, 7, 7, 7, 7, 7, 7, 7, 7, 7, 7, 7, 7, 7, 7, 7, 7, 7, 7, 7, 7, 7, 7, 8, 8, 8, 8, 8, 8, 8, 8, 8, 8, 8, 8, 8, 8, 8, 8, 8, 8, 8, 8, 8, 8, 8, 8, 8, 8, 8, 8, 8, 8, 8, 8, 8, 8, 8, 8, 8, 8, 8, 8, 8, 8, 8, 8, 8, 8, 8, 8, 8, 8, 8, 8, 8, 8, 8, 8, 8, 8, 8, 8, 8, 8, 8, 8, 8, 8, 8, 8, 8, 8, 8, 8, 8, 8, 8, 8, 8, 8, 8, 8, 8, 8, 8, 8, 8, 8, 8, 8, 8, 8, 8, 8, 8, 8, 8, 8, 8, 8, 8, 8, 8, 8, 8, 8, 8, 8, 8, 8, 8, 8, 8, 8, 8, 8, 8, 8, 8, 8, 8, 8, 8, 8, 8, 8, 8, 8, 8, 8]⟩ : ByteArray) (c : Int) = ((len c : Nat) : Int) := g
  rw [g', wrap64_id (by omega) (by omega)]
/-- m's degree is d -/
def Deg (m d : Nat) : Prop := 2 ^ d ≤ m ∧ m < 2 ^ (d + 1)
theorem Deg.ofLen {m d : Nat} (h : len m = d + 1) : Deg m d := len_iff.1 h
theorem Deg.len {m d : Nat} (h : Deg m d) : len m = d + 1 := len_iff.2 h
theorem Deg.lt {m d : Nat} (h : Deg m d) (hm : m < 2 ^ 64) : d < 64 := by
  have h1 := h.1
  apply Nat.lt_of_not_le
  intro c
  have := Nat.pow_le_pow_right (n := 2) (by omega) c
  omega
theorem exists_deg {m : Nat} (h : m ≠ 0) : ∃ d, Deg m d := exists_top h
theorem pow64 {n : Nat} (h : n ≤ 64) : 2 ^ n ≤ 2 ^ 64 := Nat.pow_le_pow_right (by omega) h
theorem halves (b i : Nat) : b / 2 ^ i % 2 = (b.testBit i).toNat ∧ b / 2 ^ i / 2 = b / 2 ^ (i + 1) := by
  constructor
  · rw [Nat.testBit_eq_decide_div_mod_eq]
    rcases Nat.mod_two_eq_zero_or_one (b / 2 ^ i) with h | h <;> simp [h]
  · rw [Nat.pow_succ, Nat.div_div_eq_div_mul]

theorem or_new {x s : Nat} (h : x % 2 ^ (s + 1) = 0) : x ||| 2 ^ s = x + 2 ^ s ∧ (x + 2 ^ s) % 2 ^ s = 0 := by
  have e : x = 2 ^ (s + 1) * (x / 2 ^ (s + 1)) := by have := Nat.div_add_mod x (2 ^ (s + 1)); omega
  have hlt : 2 ^ s < 2 ^ (s + 1) := Nat.pow_lt_pow_right (by omega) (by omega)
  constructor
  · rw [e, ← Nat.two_pow_add_eq_or_of_lt hlt]
  · rw [e, Nat.pow_succ, Nat.mul_assoc]; simp

theorem pm_bit (m d x b : Nat) (hb : b < 2) : pm m d (2 * x + b) = red m d (2 * pm m d x ^^^ b) := by
  rw [pm_eq, show (2 * x + b) / 2 = x from by omega, show (2 * x + b) % 2 = b from by omega]

theorem ref_degree_loop (p : Nat) (hp : p < 2 ^ 64) : ∀ (n i : Nat), i + n = 64 →
    Ev (fun k => parapetref01_Degree.l0 k (p : Int) (((len (p % 2 ^ i) : Nat) : Int) - 1) (i : Int)) (((len p : Nat) : Int) - 1) := by
  intro n
  induction n with
  | zero =>
    intro i hi
    obtain rfl : i = 64 := by omega
    refine Ev.step (fun k => parapetref01_Degree.l0.eq_2 ..) (Ev_ite_neg (by omega) ?_)
    rw [Nat.mod_eq_of_lt hp]; exact Ev.now _
  | succ n ih =>
    intro i hi
    refine Ev.step (fun k => parapetref01_Degree.l0.eq_2 ..) (Ev_ite_pos (by omega) (Ev_ite_pos (by omega) ?_))
    have e : wrap64 ((i : Int) + 1) = ((i + 1 : Nat) : Int) := by rw [wrap64_id (by omega) (by omega)]; omega
    rw [e]
    have g := ih (i + 1) (by omega)
    have hm : p % 2 ^ (i + 1) = (p.testBit i).toNat * 2 ^ i + p % 2 ^ i := by
      have hh := (halves p i).1
      rw [Nat.pow_succ, Nat.mod_mul, hh, Nat.mul_comm]; omega
    have hlt : p % 2 ^ i < 2 ^ i := Nat.mod_lt _ (Nat.two_pow_pos i)
    by_cases c : p.testBit i = true
    · refine Ev_ite_neg (by rw [bit64_zero hp (by omega), c]; simp) ?_
      rw [c] at hm
      simp only [Bool.toNat_true, Nat.one_mul] at hm
      have : len (p % 2 ^ (i + 1)) = i + 1 := len_iff.2 ⟨by omega, Nat.mod_lt _ (Nat.two_pow_pos _)⟩
      rw [this, show (((i + 1 : Nat) : Int) - 1) = (i : Int) from by omega] at g
      exact g
    · have c' : p.testBit i = false := by simpa using c
      refine Ev_ite_pos ((bit64_zero hp (by omega)).2 c') ?_
      rw [c'] at hm
      simp only [Bool.toNat_false, Nat.zero_mul, Nat.zero_add] at hm
      rw [hm] at g
      exact g
theorem ref_degree_ev {p : Nat} (hp : p < 2 ^ 64) : Ev (fun k => parapetref01_Degree.f k (p : Int)) (((len p : Nat) : Int) - 1) := by
  have := ref_degree_loop p hp 64 0 rfl
  rwa [Nat.pow_zero, Nat.mod_one] at this
theorem ref_deg_ev {m d : Nat} (hd : Deg m d) (hm : m < 2 ^ 64) : Ev (fun k => parapetref01_Degree.f k (m : Int)) (d : Int) := by
  have := ref_degree_ev hm
  rw [hd.len, show (((d + 1 : Nat) : Int) - 1) = (d : Int) from by omega] at this
  exact this

theorem pm_one (p : Nat) : pm 1 0 p = 0 := by
  have := pm_lt (m := 1) (d := 0) (by omega) (by omega) p
  omega
theorem deg_one {d : Nat} (h : Deg 1 d) : d = 0 := by
  have h1 := h.1
  by_cases z : d = 0
  · exact z
  · have := Nat.pow_le_pow_right (n := 2) (by omega) (show 1 ≤ d from by omega)
    omega
theorem deg_ge {m d : Nat} (h : Deg m d) (hm : 1 < m) : 1 ≤ d := by
  have h2 := h.2
  by_cases z : d = 0
  · subst z; omega
  · omega

def orAt (l : List Int) (k : Nat) : List Int := l.set (k / 8) (bits .or .u8 (rd l ((k / 8 : Nat) : Int)) (shr .u8 128 ((k % 8 : Nat) : Int)))
theorem orAt_length (l : List Int) (k : Nat) : (orAt l k).length = l.length := by unfold orAt; rw [List.length_set]
/-- the bits of a word from a place on, one after the other -/
def mkl (w s at' : Nat) : Nat → Nat → List Int → List Int
  | 0, _, l => l
  | m + 1, i, l => mkl w s at' m (i + 1) (if w.testBit (s - 1 - i) then orAt l (at' + i) else l)
theorem mkl_length (w s at' : Nat) : ∀ m i l, (mkl w s at' m i l).length = l.length := by
  intro m
  induction m with
  | zero => intro i l; rfl
  | succ m ih => intro i l; show (mkl w s at' m (i + 1) _).length = _; rw [ih]; split <;> simp [orAt_length]
theorem make_loop {w s at' : Nat} (hw : w < 2 ^ 32) (hs : s ≤ 32) (ha : at' < 1000000) : ∀ (m i : Nat) (l : List Int), i + m = s → at' + s ≤ 8 * l.length →
    Ev (fun k => burst_Make.l0 k (at' : Int) (w : Int) l (s : Int) (s : Int) (i : Int)) (mkl w s at' m i l, 0) := by
  intro m
  induction m with
  | zero =>
    intro i l hi _
    exact Ev.step (fun k => burst_Make.l0.eq_2 ..) (Ev_ite_neg (by omega) (Ev.now _))
  | succ m ih =>
    intro i l hi hl
    have hsi : i < s := by omega
    refine Ev.step (fun k => burst_Make.l0.eq_2 ..) (Ev_ite_pos (by omega) ?_)
    rw [w_sub2 hsi (by omega), w_succ (by omega), w_add (by omega), w_div8 (by omega), t_mod8]
    refine Ev_ite_pos (by omega) ?_
    by_cases c : w.testBit (s - 1 - i) = true
    · refine Ev_ite_neg (by rw [bit32_zero hw (by omega), c]; simp) (Ev_ite_pos (by omega) (Ev_ite_pos (by omega) (Ev_ite_pos (by omega) ?_)))
      rw [Int.toNat_natCast]
      have g := ih (i + 1) (orAt l (at' + i)) (by omega) (by rw [orAt_length]; exact hl)
      show Ev _ (mkl w s at' m (i + 1) (if w.testBit (s - 1 - i) then orAt l (at' + i) else l), 0)
      rw [if_pos c]; exact g
    · refine Ev_ite_pos ((bit32_zero hw (by omega)).2 (by simpa using c)) ?_
      have g := ih (i + 1) l (by omega) hl
      show Ev _ (mkl w s at' m (i + 1) (if w.testBit (s - 1 - i) then orAt l (at' + i) else l), 0)
      rw [if_neg c]; exact g
theorem len32_f {x : Nat} (hx : x < 2 ^ 32) : bits_Len32.f (x : Int) = some ((len x : Nat) : Int) := by
  unfold bits_Len32.f
  by_cases c1 : (x : Int) ≥ 65536
  · rw [if_pos c1]
    by_cases c2 : ((x : Int) / 65536) ≥ 256
    · have e : (((x : Int) / 65536) / 256) % 256 = ((x / 2 ^ 24 : Nat) : Int) := by omega
      have b : len (x / 2 ^ 24) ≤ 8 := len_le (by omega)
      rw [if_pos c2, if_pos (by omega), if_pos (by omega), tab_len e (by omega), wrap64_id (by omega) (by omega), len_shift (a := x) (s := 24) (by omega)]
      congr 1
    · have e : ((x : Int) / 65536) % 256 = ((x / 2 ^ 16 : Nat) : Int) := by omega
      have b : len (x / 2 ^ 16) ≤ 8 := len_le (by omega)
      rw [if_neg c2, if_pos (by omega), if_pos (by omega), tab_len e (by omega), wrap64_id (by omega) (by omega), len_shift (a := x) (s := 16) (by omega)]
      congr 1
  · rw [if_neg c1]
    by_cases c2 : (x : Int) ≥ 256
    · have e : ((x : Int) / 256) % 256 = ((x / 2 ^ 8 : Nat) : Int) := by omega
      have b : len (x / 2 ^ 8) ≤ 8 := len_le (by omega)
      rw [if_pos c2, if_pos (by omega), if_pos (by omega), tab_len e (by omega), wrap64_id (by omega) (by omega), len_shift (a := x) (s := 8) (by omega)]
      congr 1
    · have e : (x : Int) % 256 = (x : Int) := by omega
      have b : len x ≤ 8 := len_le (by omega)
      rw [if_neg c2, if_pos (by omega), if_pos (by omega), e, tab_len rfl (by omega), wrap64_id (by omega) (by omega)]
      congr 1; omega
/-- what Make answers -/
theorem make_ev (n at' : Int) {w : Nat} (hw : w < 2 ^ 32) (hn : -9223372036854775808 ≤ n ∧ n < 9223372036854775808) :
    ((n < 0 ∨ n > 65536) ∧ Ev (fun k => burst_Make.f k n at' (w : Int)) ([], 2)) ∨
    (0 ≤ n ∧ n ≤ 65536 ∧ (w = 0 ∨ at' < 0 ∨ at' > 8 * n - (len w : Nat)) ∧ Ev (fun k => burst_Make.f k n at' (w : Int)) ([], 30)) ∨
    (∃ N A : Nat, n = (N : Int) ∧ at' = (A : Int) ∧ N ≤ 65536 ∧ w ≠ 0 ∧ A + len w ≤ 8 * N ∧ Ev (fun k => burst_Make.f k n at' (w : Int)) (mkl w (len w) A (len w) 0 (List.replicate N 0), 0)) := by
  have hlw := len_le hw
  unfold burst_Make.f
  by_cases c1 : n < 0
  · exact .inl ⟨.inl c1, Ev_ite_pos c1 (Ev.step (fun _ => burst_Make.j0.eq_2 ..) (Ev_ite_pos rfl (Ev.now _)))⟩
  by_cases c2 : n > 65536
  · refine .inl ⟨.inr c2, Ev_ite_neg c1 ?_⟩
    rw [decide_eq_true c2]
    exact Ev.step (fun _ => burst_Make.j0.eq_2 ..) (Ev_ite_pos rfl (Ev.now _))
  obtain ⟨N, rfl⟩ : ∃ N : Nat, n = (N : Int) := ⟨n.toNat, by omega⟩
  have no : Ev (fun k => burst_Make.j1 k (N : Int) at' (w : Int) true) ([], 30) := Ev.step (fun _ => burst_Make.j1.eq_2 ..) (Ev_ite_pos rfl (Ev.now _))
  by_cases z : w = 0
  · subst z
    refine .inr (.inl ⟨by omega, by omega, .inl rfl, Ev_ite_neg c1 ?_⟩)
    rw [decide_eq_false c2]
    exact Ev.step (fun _ => burst_Make.j0.eq_2 ..) (Ev_ite_neg (by simp) (Ev_ite_pos rfl no))
  by_cases c3 : at' < 0
  · refine .inr (.inl ⟨by omega, by omega, .inr (.inl c3), Ev_ite_neg c1 ?_⟩)
    rw [decide_eq_false c2]
    exact Ev.step (fun _ => burst_Make.j0.eq_2 ..) (Ev_ite_neg (by simp) (Ev_ite_neg (by omega) (Ev_ite_pos c3 no)))
  have e1 : wrap64 (wrap64 (8 * (N : Int)) - ((len w : Nat) : Int)) = 8 * (N : Int) - ((len w : Nat) : Int) := by
    rw [wrap64_id (n := 8 * (N : Int)) (by omega) (by omega), wrap64_id (by omega) (by omega)]
  by_cases c4 : at' > 8 * (N : Int) - ((len w : Nat) : Int)
  · refine .inr (.inl ⟨by omega, by omega, .inr (.inr c4), Ev_ite_neg c1 ?_⟩)
    rw [decide_eq_false c2]
    refine Ev.step (fun _ => burst_Make.j0.eq_2 ..) (Ev_ite_neg (by simp) (Ev_ite_neg (by omega) (Ev_ite_neg c3 ?_)))
    rw [len32_f hw]
    refine Ev_some ?_
    rw [e1, decide_eq_true c4]; exact no
  obtain ⟨A, rfl⟩ : ∃ A : Nat, at' = (A : Int) := ⟨at'.toNat, by omega⟩
  refine .inr (.inr ⟨N, A, rfl, rfl, by omega, z, by omega, Ev_ite_neg c1 ?_⟩)
  rw [decide_eq_false c2]
  refine Ev.step (fun _ => burst_Make.j0.eq_2 ..) (Ev_ite_neg (by simp) (Ev_ite_neg (by omega) (Ev_ite_neg c3 ?_)))
  rw [len32_f hw]
  refine Ev_some ?_
  rw [e1, decide_eq_false c4]
  clear e1
  refine Ev.step (fun _ => burst_Make.j1.eq_2 ..) (Ev_ite_neg (by simp) (Ev_ite_pos (by omega) (Ev_ite_pos (by omega) ?_)))
  rw [len32_f hw, Int.toNat_natCast]
  refine Ev_some ?_
  exact make_loop hw (by omega) (by omega) (len w) 0 (List.replicate N 0) (by omega) (by simp; omega)

def xb (x y : Int) : Int := bits .xor .u8 x y
theorem xb_nat {x y : Int} (hx : 0 ≤ x ∧ x < 256) (hy : 0 ≤ y ∧ y < 256) : xb x y = ((x.toNat ^^^ y.toNat : Nat) : Int) := by
  obtain ⟨a, rfl⟩ := Int.eq_ofNat_of_zero_le hx.1
  obtain ⟨b, rfl⟩ := Int.eq_ofNat_of_zero_le hy.1
  exact u8_xor_nat a b (by omega) (by omega)
theorem xb_byte {x y : Int} (hx : 0 ≤ x ∧ x < 256) (hy : 0 ≤ y ∧ y < 256) : 0 ≤ xb x y ∧ xb x y < 256 := by
  rw [xb_nat hx hy]
  have : x.toNat ^^^ y.toNat < 2 ^ 8 := Nat.xor_lt_two_pow (by omega) (by omega)
  omega
theorem xb_comm {x y : Int} (hx : 0 ≤ x ∧ x < 256) (hy : 0 ≤ y ∧ y < 256) : xb x y = xb y x := by rw [xb_nat hx hy, xb_nat hy hx, Nat.xor_comm]
theorem xb_assoc {x y z : Int} (hx : 0 ≤ x ∧ x < 256) (hy : 0 ≤ y ∧ y < 256) (hz : 0 ≤ z ∧ z < 256) : xb (xb x y) z = xb x (xb y z) := by
  rw [xb_nat (xb_byte hx hy) hz, xb_nat hx (xb_byte hy hz), xb_nat hx hy, xb_nat hy hz, Int.toNat_natCast, Int.toNat_natCast, Nat.xor_assoc]
theorem xb_self {x : Int} (hx : 0 ≤ x ∧ x < 256) : xb x x = 0 := by rw [xb_nat hx hx, Nat.xor_self]; rfl
theorem xb_zero {x : Int} (hx : 0 ≤ x ∧ x < 256) : xb x 0 = x := by rw [xb_nat hx (by omega)]; simp; omega
/-- the bytes' sums -/
def xl (a b : List Int) : List Int := List.zipWith xb a b
theorem xl_length (a b : List Int) (h : a.length = b.length) : (xl a b).length = a.length := by simp [xl, h]
theorem xl_by : ∀ {a b : List Int}, By a → By b → By (xl a b) := by
  intro a
  induction a with
  | nil => intro b _ _ x hx; simp [xl] at hx
  | cons c a ih =>
    intro b ha hb
    cases b with
    | nil => intro x hx; simp [xl] at hx
    | cons d b =>
      intro x hx
      rcases List.mem_cons.1 hx with rfl | hx
      · exact xb_byte ha.head hb.head
      · exact ih ha.tail hb.tail x hx
theorem xl_comm : ∀ {a b : List Int}, By a → By b → xl a b = xl b a := by
  intro a
  induction a with
  | nil => intro b _ _; cases b <;> rfl
  | cons c a ih =>
    intro b ha hb
    cases b with
    | nil => rfl
    | cons d b =>
      show xb c d :: xl a b = xb d c :: xl b a
      rw [xb_comm ha.head hb.head, ih ha.tail hb.tail]
theorem xl_assoc : ∀ {a b c : List Int}, By a → By b → By c → xl (xl a b) c = xl a (xl b c) := by
  intro a
  induction a with
  | nil => intro b c _ _ _; rfl
  | cons x a ih =>
    intro b c ha hb hc
    cases b with
    | nil => rfl
    | cons y b =>
      cases c with
      | nil => rfl
      | cons z c =>
        show xb (xb x y) z :: xl (xl a b) c = xb x (xb y z) :: xl a (xl b c)
        rw [xb_assoc ha.head hb.head hc.head, ih ha.tail hb.tail hc.tail]
theorem xl_self : ∀ {a : List Int}, By a → xl a a = List.replicate a.length 0 := by
  intro a
  induction a with
  | nil => intro _; rfl
  | cons x a ih =>
    intro ha
    show xb x x :: xl a a = _
    rw [xb_self ha.head, ih ha.tail]; rfl
theorem xl_zero : ∀ {a : List Int}, By a → xl a (List.replicate a.length 0) = a := by
  intro a
  induction a with
  | nil => intro _; rfl
  | cons x a ih =>
    intro ha
    show xb x 0 :: xl a (List.replicate a.length 0) = _
    rw [xb_zero ha.head, ih ha.tail]
theorem xl_back {a b : List Int} (ha : By a) (hb : By b) (h : a.length = b.length) : xl (xl a b) b = a := by
  rw [xl_assoc ha hb hb, xl_self hb, ← h, xl_zero ha]
theorem by_take {l : List Int} (h : By l) (n : Nat) : By (l.take n) := fun x hx => h x (List.mem_of_mem_take hx)
theorem by_zeros (n : Nat) : By (List.replicate n 0) := by intro x hx; have := List.eq_of_mem_replicate hx; omega
theorem xl_snoc {a1 b1 : List Int} (h : a1.length = b1.length) (c d : Int) : xl (a1 ++ [c]) (b1 ++ [d]) = xl a1 b1 ++ [xb c d] := by
  unfold xl
  rw [List.zipWith_append h]; rfl
theorem set_mid (L : List Int) (x v : Int) (R : List Int) : (L ++ x :: R).set L.length v = L ++ v :: R := by
  rw [List.set_append_right _ _ (Nat.le_refl _), Nat.sub_self]; rfl

theorem turn_loop : ∀ (a2 b2 a1 b1 : List Int), a1.length = b1.length → a2.length = b2.length → (a1 ++ a2).length ≤ 140737488355328 →
    Ev (fun k => burst_Turn.l0 k (a1 ++ a2) (b1 ++ b2) (xl a1 b1 ++ List.replicate a2.length 0) ((a1 ++ a2).length : Int) (a1.length : Int)) (xl (a1 ++ a2) (b1 ++ b2), 0) := by
  intro a2
  induction a2 with
  | nil =>
    intro b2 a1 b1 h1 h2 _
    have : b2 = [] := List.length_eq_zero_iff.1 (by simpa using h2.symm)
    subst this
    refine Ev.step (fun k => burst_Turn.l0.eq_2 ..) (Ev_ite_neg (by simp) ?_)
    simp only [List.append_nil, List.length_nil, List.replicate_zero]
    exact Ev.now _
  | cons c a2 ih =>
    intro b2 a1 b1 h1 h2 hl
    cases b2 with
    | nil => simp at h2
    | cons d b2 =>
      have h2' : a2.length = b2.length := by simpa using h2
      have g := ih b2 (a1 ++ [c]) (b1 ++ [d]) (by simp [h1]) h2' (by simpa using hl)
      have hlt : ((a1.length : Nat) : Int) < ((a1 ++ c :: a2).length : Int) := by simp; omega
      have hlt2 : ((a1.length : Nat) : Int) < ((b1 ++ d :: b2).length : Int) := by simp; omega
      have hxl := xl_length a1 b1 h1
      refine Ev.step (fun k => burst_Turn.l0.eq_2 ..) (Ev_ite_pos hlt (Ev_ite_pos (by omega) (Ev_ite_pos hlt (Ev_ite_pos hlt2 (Ev_ite_pos (by simp [hxl]; omega) ?_)))))
      have e1 : rd (b1 ++ d :: b2) (a1.length : Int) = d := by rw [h1]; exact rd_at b1 d b2
      have e2 : (xl a1 b1 ++ List.replicate (c :: a2).length 0).set ((a1.length : Nat) : Int).toNat (Go.bits .xor .u8 c d) = xl (a1 ++ [c]) (b1 ++ [d]) ++ List.replicate a2.length 0 := by
        rw [Int.toNat_natCast, ← hxl, List.length_cons, List.replicate_succ, set_mid, xl_snoc h1, List.append_assoc]; rfl
      rw [rd_at, e1, e2, w_succ (by simp at hl; omega)]
      have e3 : ((a1 ++ [c]).length : Int) = ((a1.length + 1 : Nat) : Int) := by simp
      rw [List.append_assoc, List.append_assoc, List.singleton_append, List.singleton_append, e3] at g
      exact g
theorem turn_ev {a b : List Int} (h : a.length = b.length) (hl : a.length ≤ 140737488355328) : Ev (fun k => burst_Turn.f k a b) (xl a b, 0) := by
  unfold burst_Turn.f
  refine Ev_ite_pos (by omega) (Ev_ite_pos (by omega) (Ev_ite_pos (by omega) ?_))
  exact turn_loop a b [] [] rfl h hl

theorem rturn_loop : ∀ (a2 b2 a1 b1 : List Int), a1.length = b1.length → a2.length = b2.length → (a1 ++ a2).length ≤ 140737488355328 →
    Ev (fun k => parapetref03_Turn.l0 k (a1 ++ a2) (b1 ++ b2) (xl a1 b1 ++ List.replicate a2.length 0) (a1.length : Int)) (xl (a1 ++ a2) (b1 ++ b2), 0) := by
  intro a2
  induction a2 with
  | nil =>
    intro b2 a1 b1 h1 h2 _
    have : b2 = [] := List.length_eq_zero_iff.1 (by simpa using h2.symm)
    subst this
    refine Ev.step (fun k => parapetref03_Turn.l0.eq_2 ..) (Ev_ite_neg (by simp) ?_)
    simp only [List.append_nil, List.length_nil, List.replicate_zero]
    exact Ev.now _
  | cons c a2 ih =>
    intro b2 a1 b1 h1 h2 hl
    cases b2 with
    | nil => simp at h2
    | cons d b2 =>
      have h2' : a2.length = b2.length := by simpa using h2
      have g := ih b2 (a1 ++ [c]) (b1 ++ [d]) (by simp [h1]) h2' (by simpa using hl)
      have hlt : ((a1.length : Nat) : Int) < ((a1 ++ c :: a2).length : Int) := by simp; omega
      have hlt2 : ((a1.length : Nat) : Int) < ((b1 ++ d :: b2).length : Int) := by simp; omega
      have hxl := xl_length a1 b1 h1
      refine Ev.step (fun k => parapetref03_Turn.l0.eq_2 ..) (Ev_ite_pos hlt (Ev_ite_pos (by omega) (Ev_ite_pos hlt2 (Ev_ite_pos (by simp [hxl]; omega) ?_))))
      have e1 : rd (b1 ++ d :: b2) (a1.length : Int) = d := by rw [h1]; exact rd_at b1 d b2
      have e2 : (xl a1 b1 ++ List.replicate (c :: a2).length 0).set ((a1.length : Nat) : Int).toNat (Go.bits .xor .u8 c d) = xl (a1 ++ [c]) (b1 ++ [d]) ++ List.replicate a2.length 0 := by
        rw [Int.toNat_natCast, ← hxl, List.length_cons, List.replicate_succ, set_mid, xl_snoc h1, List.append_assoc]; rfl
      rw [rd_at, e1, e2, w_succ (by simp at hl; omega)]
      have e3 : ((a1 ++ [c]).length : Int) = ((a1.length + 1 : Nat) : Int) := by simp
      rw [List.append_assoc, List.append_assoc, List.singleton_append, List.singleton_append, e3] at g
      exact g
theorem rturn_ev {a b : List Int} (h : a.length = b.length) (hl : a.length ≤ 140737488355328) : Ev (fun k => parapetref03_Turn.f k a b) (xl a b, 0) := by
  unfold parapetref03_Turn.f
  refine Ev_ite_pos (by omega) (Ev_ite_pos (by omega) (Ev_ite_pos (by omega) ?_))
  exact rturn_loop a b [] [] rfl h hl

theorem rmake_loop {w s at' : Nat} (hw : w < 2 ^ 32) (hs : s ≤ 32) (ha : at' < 1000000) : ∀ (m i : Nat) (l : List Int), i + m = s → at' + s ≤ 8 * l.length →
    Ev (fun k => parapetref03_Make.l0 k (at' : Int) (w : Int) (s : Int) l (i : Int)) (mkl w s at' m i l, 0) := by
  intro m
  induction m with
  | zero =>
    intro i l hi _
    exact Ev.step (fun k => parapetref03_Make.l0.eq_2 ..) (Ev_ite_neg (by omega) (Ev.now _))
  | succ m ih =>
    intro i l hi hl
    have hsi : i < s := by omega
    refine Ev.step (fun k => parapetref03_Make.l0.eq_2 ..) (Ev_ite_pos (by omega) ?_)
    rw [w_sub2 hsi (by omega), w_succ (by omega), w_add (by omega), w_div8 (by omega), t_mod8]
    refine Ev_ite_pos (by omega) ?_
    by_cases c : w.testBit (s - 1 - i) = true
    · refine Ev_ite_neg (by rw [bit32_zero hw (by omega), c]; simp) (Ev_ite_pos (by omega) (Ev_ite_pos (by omega) (Ev_ite_pos (by omega) ?_)))
      rw [Int.toNat_natCast]
      have g := ih (i + 1) (orAt l (at' + i)) (by omega) (by rw [orAt_length]; exact hl)
      show Ev _ (mkl w s at' m (i + 1) (if w.testBit (s - 1 - i) then orAt l (at' + i) else l), 0)
      rw [if_pos c]; exact g
    · refine Ev_ite_pos ((bit32_zero hw (by omega)).2 (by simpa using c)) ?_
      have g := ih (i + 1) l (by omega) hl
      show Ev _ (mkl w s at' m (i + 1) (if w.testBit (s - 1 - i) then orAt l (at' + i) else l), 0)
      rw [if_neg c]; exact g
theorem rmake_ev (n at' : Int) {w : Nat} (hw : w < 2 ^ 32) :
    ((n < 0 ∨ n > 65536) → Ev (fun k => parapetref03_Make.f k n at' (w : Int)) ([], 2)) ∧
    (0 ≤ n → n ≤ 65536 → (w = 0 ∨ at' < 0 ∨ at' > 8 * n - (len w : Nat)) → Ev (fun k => parapetref03_Make.f k n at' (w : Int)) ([], 30)) ∧
    (∀ N A : Nat, n = (N : Int) → at' = (A : Int) → N ≤ 65536 → w ≠ 0 → A + len w ≤ 8 * N → Ev (fun k => parapetref03_Make.f k n at' (w : Int)) (mkl w (len w) A (len w) 0 (List.replicate N 0), 0)) := by
  have hlw := len_le hw
  have eu : IntKind.u64.wrap (w : Int) = (w : Int) := by rw [wrap_u64]; omega
  have hdeg := ref_degree_ev (p := w) (by omega)
  rw [← eu] at hdeg
  have el : wrap64 ((((len w : Nat) : Int) - 1) + 1) = ((len w : Nat) : Int) := by rw [wrap64_id (by omega) (by omega)]; omega
  have no : ∀ x, Ev (fun k => parapetref03_Make.j1 k n at' (w : Int) x true) ([], 30) := fun x => Ev.step (fun _ => parapetref03_Make.j1.eq_2 ..) (Ev_ite_pos rfl (Ev.now _))
  refine ⟨fun h => ?_, fun h0 h1 h => ?_, ?_⟩
  · unfold parapetref03_Make.f
    rcases h with h | h
    · exact Ev_ite_pos h (Ev.step (fun _ => parapetref03_Make.j0.eq_2 ..) (Ev_ite_pos rfl (Ev.now _)))
    · refine Ev_ite_neg (by omega) ?_
      rw [decide_eq_true h]
      exact Ev.step (fun _ => parapetref03_Make.j0.eq_2 ..) (Ev_ite_pos rfl (Ev.now _))
  · have e8 : wrap64 (8 * n) = 8 * n := wrap64_id (by omega) (by omega)
    unfold parapetref03_Make.f
    refine Ev_ite_neg (by omega) ?_
    rw [decide_eq_false (by omega)]
    refine Ev.step (fun _ => parapetref03_Make.j0.eq_2 ..) (Ev_ite_neg (by simp) (Ev.bind hdeg ?_))
    rw [el, e8]
    clear el e8 eu hdeg
    by_cases z : len w = 0
    · exact Ev_ite_pos (by omega) (no _)
    have hw0 : w ≠ 0 := by intro c; subst c; exact z rfl
    refine Ev_ite_neg (by omega) ?_
    by_cases c : at' < 0
    · exact Ev_ite_pos c (no _)
    refine Ev_ite_neg c ?_
    by_cases c2 : at' > 8 * n
    · exact Ev_ite_pos c2 (no _)
    refine Ev_ite_neg c2 ?_
    rw [wrap64_id (n := at' + ((len w : Nat) : Int)) (by omega) (by omega), decide_eq_true (by omega)]
    exact no _
  · rintro N A rfl rfl hN hw0 hA
    have e8 : wrap64 (8 * (N : Int)) = 8 * (N : Int) := wrap64_id (by omega) (by omega)
    have z : len w ≠ 0 := by obtain ⟨m, hm⟩ := len_pos hw0; omega
    unfold parapetref03_Make.f
    refine Ev_ite_neg (by omega) ?_
    rw [decide_eq_false (by omega)]
    refine Ev.step (fun _ => parapetref03_Make.j0.eq_2 ..) (Ev_ite_neg (by simp) (Ev.bind hdeg ?_))
    rw [el, e8]
    clear el e8 eu hdeg
    refine Ev_ite_neg (by omega) (Ev_ite_neg (by omega) (Ev_ite_neg (by omega) ?_))
    rw [wrap64_id (n := (A : Int) + ((len w : Nat) : Int)) (by omega) (by omega), decide_eq_false (by omega)]
    refine Ev.step (fun _ => parapetref03_Make.j1.eq_2 ..) (Ev_ite_neg (by simp) (Ev_ite_pos (by omega) (Ev_ite_pos (by omega) ?_)))
    rw [Int.toNat_natCast]
    exact rmake_loop hw (by omega) (by omega) (len w) 0 (List.replicate N 0) (by omega) (by simp; omega)

theorem G64 : G < 2 ^ 64 := by unfold G; omega
theorem GD : Deg G 32 := ⟨G1, G2⟩


/-- the four bytes of a word -/
def word4 (s : Int) : List Int := [(s / 16777216) % 256, (s / 65536) % 256, (s / 256) % 256, s % 256]
theorem word4_by (s : Int) : By (word4 s) := by
  intro x hx; simp [word4] at hx; omega
theorem word4_pol {s : Nat} (h : s < 2 ^ 32) : pol (word4 (s : Int)) = s := by
  simp [word4, pol]; omega
theorem crc_sealed {l : List Int} : crc (l ++ word4 (crc l : Int)) = 0 := by
  have hw := word4_by (crc l : Int)
  unfold crc
  have h : pol (l ++ word4 ((crc l : Nat) : Int)) = pol l * 2 ^ 32 ^^^ crc l := by
    rw [pol_append_xor hw, word4_pol (crc_lt l)]; rfl
  have e : pm G 32 (pol l * 2 ^ 32 ^^^ crc l) = 0 := by
    rw [pm_xor G1 G2, pm_small (p := crc l) G1 G2 (crc_lt l)]; unfold crc; simp
  show pm G 32 (pol (l ++ word4 ((crc l : Nat) : Int)) * 2 ^ 32) = 0
  rw [h, ← pm_shift G1 G2, e, Nat.zero_mul, pm_zero]
def sealed (l : List Int) : List Int := l ++ word4 (crc l : Int)
theorem sealed_by {l : List Int} (h : By l) : By (sealed l) := h.append (word4_by _)
theorem sealed_length (l : List Int) : (sealed l).length = l.length + 4 := by simp [sealed, word4]
theorem clone_f {l : List Int} (hl : l.length < 140737488355328) : slices_Clone_byte_byte.f l = some l := by
  unfold slices_Clone_byte_byte.f
  rw [Option.bind_some, if_pos (by simpa using hl), List.nil_append]
theorem seal_ev {l : List Int} (hb : By l) (hl : l.length ≤ 140737488355000) : Ev (fun k => crc_Seal.f k l) (sealed l) := by
  unfold crc_Seal.f
  refine Ev.bind (bits_ev hb (by omega)) ?_
  rw [clone_f (by omega)]
  refine Ev_some (Ev_some (Ev_ite_pos (by simp; omega) ?_))
  exact Ev.now _
theorem valid_ev {l : List Int} (hb : By l) (hl : l.length ≤ 140737488355328) (h4 : 4 ≤ l.length) : Ev (fun k => crc_Valid.f k l) (decide (crc l = 0)) := by
  unfold crc_Valid.f
  refine Ev_ite_pos (by omega) (Ev.bind (bits_ev hb hl) ?_)
  have : (((crc l : Nat) : Int) == 0) = decide (crc l = 0) := by
    by_cases h : crc l = 0
    · rw [h]; rfl
    · rw [decide_eq_false h]; simpa using h
  rw [this]; exact Ev.now _

theorem xor8 {a b : Nat} (ha : a < 256) (hb : b < 256) : bits .xor .u8 (a : Int) (b : Int) = ((a ^^^ b : Nat) : Int) := u8_xor_nat a b (by omega) (by omega)
theorem shr128 {j : Nat} (h : j < 8) : shr .u8 128 (j : Int) = ((2 ^ (7 - j) : Nat) : Int) := by
  have h1 : ∀ j : Fin 8, shr .u8 128 ((j.val : Nat) : Int) = ((2 ^ (7 - j.val) : Nat) : Int) := by decide +kernel
  exact h1 ⟨j, h⟩
/-- a list with the bit in this place turned -/
def flip (l : List Int) (k : Nat) : List Int := l.set (k / 8) (bits .xor .u8 (rd l ((k / 8 : Nat) : Int)) (shr .u8 128 ((k % 8 : Nat) : Int)))
theorem flip_length (l : List Int) (k : Nat) : (flip l k).length = l.length := by unfold flip; rw [List.length_set]
theorem flip_both : ∀ (l : List Int) (k : Nat), By l → k < 8 * l.length → By (flip l k) ∧ pol (flip l k) = pol l ^^^ 2 ^ (8 * l.length - 1 - k) := by
  intro l
  induction l with
  | nil => intro k _ h; simp at h
  | cons c l ih =>
    intro k hb hk
    by_cases h : k < 8
    · have e0 : k / 8 = 0 := by omega
      have e1 : k % 8 = k := by omega
      have hc := hb.head
      obtain ⟨n, rfl⟩ : ∃ n : Nat, c = (n : Int) := ⟨c.toNat, by omega⟩
      have hp : 2 ^ (7 - k) < 256 := by
        have : 2 ^ (7 - k) < 2 ^ 8 := Nat.pow_lt_pow_right (by omega) (by omega)
        simpa using this
      have hn : n < 256 := by omega
      have hx : n ^^^ 2 ^ (7 - k) < 256 := Nat.xor_lt_two_pow (n := 8) hn hp
      have er : rd ((n : Int) :: l) ((0 : Nat) : Int) = (n : Int) := by unfold rd; simp
      have hf : flip ((n : Int) :: l) k = ((n ^^^ 2 ^ (7 - k) : Nat) : Int) :: l := by
        unfold flip
        rw [e0, e1, er, shr128 h, xor8 hn hp]
        rfl
      rw [hf]
      constructor
      · intro x hx'
        rcases List.mem_cons.1 hx' with rfl | hx'
        · omega
        · exact hb.tail x hx'
      · rw [pol_cons, pol_cons, Int.toNat_natCast, Int.toNat_natCast, add_eq_xor (pol_lt hb.tail), add_eq_xor (pol_lt hb.tail), xor_shift, ← Nat.pow_add, List.length_cons]
        rw [show 7 - k + 8 * l.length = 8 * (l.length + 1) - 1 - k from by omega, Nat.xor_assoc, Nat.xor_assoc, Nat.xor_comm (2 ^ _)]
    · have e0 : k / 8 = (k - 8) / 8 + 1 := by omega
      have e1 : k % 8 = (k - 8) % 8 := by omega
      rw [List.length_cons] at hk
      obtain ⟨h1, h2⟩ := ih (k - 8) hb.tail (by omega)
      have er : rd (c :: l) ((((k - 8) / 8 + 1 : Nat)) : Int) = rd l (((k - 8) / 8 : Nat) : Int) := by
        unfold rd; rw [Int.toNat_natCast, Int.toNat_natCast, List.getD_cons_succ]
      have hf : flip (c :: l) k = c :: flip l (k - 8) := by
        unfold flip
        rw [e0, e1, er]
        rfl
      rw [hf]
      have hxl : pol l ^^^ 2 ^ (8 * l.length - 1 - (k - 8)) < 2 ^ (8 * l.length) := Nat.xor_lt_two_pow (pol_lt hb.tail) (Nat.pow_lt_pow_right (by omega) (by omega))
      constructor
      · intro x hx'
        rcases List.mem_cons.1 hx' with rfl | hx'
        · exact hb.head
        · exact h1 x hx'
      · rw [pol_cons, pol_cons, flip_length, h2, add_eq_xor hxl, add_eq_xor (pol_lt hb.tail), List.length_cons, Nat.xor_assoc]
        rw [show 8 * l.length - 1 - (k - 8) = 8 * (l.length + 1) - 1 - k from by omega]
/-- 'x' goes out of what an odd polynomial divides -/
theorem odd_cancel {m : Nat} (hm : m % 2 = 1) : ∀ (e x : Nat), Cong m (x * 2 ^ e) 0 → Cong m x 0 := by
  intro e
  induction e with
  | zero => intro x h; simpa using h
  | succ e ih =>
    intro x h
    apply ih
    rw [Nat.pow_succ, ← Nat.mul_assoc] at h
    generalize x * 2 ^ e = y at h ⊢
    obtain ⟨a, ha⟩ := h
    rw [Nat.xor_zero] at ha
    have h2 : (cm m a) % 2 = a % 2 := by
      rw [cm_comm, cm_eq, if_pos hm, xor_mod2]; omega
    have ha2 : a = 2 * (a / 2) := by omega
    rw [ha2, cm_dbl] at ha
    exact ⟨a / 2, by rw [Nat.xor_zero]; omega⟩
theorem burst_seen {w e : Nat} (h0 : w ≠ 0) (hw : w < 2 ^ 32) : pm G 32 (w * 2 ^ e) ≠ 0 := by
  intro h
  have h1 := pm_cong G 32 (w * 2 ^ e)
  rw [h] at h1
  have h2 := odd_cancel (m := G) (by unfold G; omega) e w h1
  have h3 := pm_eq_of_cong G1 G2 h2
  rw [pm_small G1 G2 hw, pm_zero] at h3
  exact h0 h3
theorem crc_xor {l l' : List Int} {p : Nat} (h : pol l' = pol l ^^^ p) (hl : crc l = 0) : crc l' = pm G 32 (p * 2 ^ 32) := by
  unfold crc at hl ⊢
  rw [h, xor_shift, pm_xor G1 G2, hl, Nat.zero_xor]

theorem or_shift (a b n : Nat) : (a ||| b) * 2 ^ n = a * 2 ^ n ||| b * 2 ^ n := by
  rw [Nat.mul_comm _ (2 ^ n), Nat.mul_comm a, Nat.mul_comm b]
  apply Nat.eq_of_testBit_eq
  intro j
  rw [Nat.testBit_or, Nat.testBit_two_pow_mul, Nat.testBit_two_pow_mul, Nat.testBit_two_pow_mul, Nat.testBit_or]
  cases decide (j ≥ n) <;> simp
theorem add_or {i a b : Nat} (h : b < 2 ^ i) : a * 2 ^ i + b = a * 2 ^ i ||| b := by
  rw [Nat.mul_comm a, Nat.two_pow_add_eq_or_of_lt h]
theorem or_both : ∀ (l : List Int) (k : Nat), By l → k < 8 * l.length → By (orAt l k) ∧ pol (orAt l k) = pol l ||| 2 ^ (8 * l.length - 1 - k) := by
  intro l
  induction l with
  | nil => intro k _ h; simp at h
  | cons c l ih =>
    intro k hb hk
    by_cases h : k < 8
    · have e0 : k / 8 = 0 := by omega
      have e1 : k % 8 = k := by omega
      have hc := hb.head
      obtain ⟨n, rfl⟩ : ∃ n : Nat, c = (n : Int) := ⟨c.toNat, by omega⟩
      have hp : 2 ^ (7 - k) < 256 := by
        have : 2 ^ (7 - k) < 2 ^ 8 := Nat.pow_lt_pow_right (by omega) (by omega)
        simpa using this
      have hn : n < 256 := by omega
      have hx : n ||| 2 ^ (7 - k) < 256 := Nat.or_lt_two_pow (n := 8) hn hp
      have er : rd ((n : Int) :: l) ((0 : Nat) : Int) = (n : Int) := by unfold rd; simp
      have hf : orAt ((n : Int) :: l) k = ((n ||| 2 ^ (7 - k) : Nat) : Int) :: l := by
        unfold orAt
        rw [e0, e1, er, shr128 h, u8_or_nat n _ (by omega) (by omega)]
        rfl
      rw [hf]
      constructor
      · intro x hx'
        rcases List.mem_cons.1 hx' with rfl | hx'
        · omega
        · exact hb.tail x hx'
      · rw [pol_cons, pol_cons, Int.toNat_natCast, Int.toNat_natCast, add_or (pol_lt hb.tail), add_or (pol_lt hb.tail), or_shift, ← Nat.pow_add, List.length_cons]
        rw [show 7 - k + 8 * l.length = 8 * (l.length + 1) - 1 - k from by omega, Nat.or_assoc, Nat.or_assoc, Nat.or_comm (2 ^ _)]
    · have e0 : k / 8 = (k - 8) / 8 + 1 := by omega
      have e1 : k % 8 = (k - 8) % 8 := by omega
      rw [List.length_cons] at hk
      obtain ⟨h1, h2⟩ := ih (k - 8) hb.tail (by omega)
      have er : rd (c :: l) ((((k - 8) / 8 + 1 : Nat)) : Int) = rd l (((k - 8) / 8 : Nat) : Int) := by
        unfold rd; rw [Int.toNat_natCast, Int.toNat_natCast, List.getD_cons_succ]
      have hf : orAt (c :: l) k = c :: orAt l (k - 8) := by
        unfold orAt
        rw [e0, e1, er]
        rfl
      rw [hf]
      have hxl : pol l ||| 2 ^ (8 * l.length - 1 - (k - 8)) < 2 ^ (8 * l.length) := Nat.or_lt_two_pow (pol_lt hb.tail) (Nat.pow_lt_pow_right (by omega) (by omega))
      constructor
      · intro x hx'
        rcases List.mem_cons.1 hx' with rfl | hx'
        · exact hb.head
        · exact h1 x hx'
      · rw [pol_cons, pol_cons, orAt_length, h2, add_or hxl, add_or (pol_lt hb.tail), List.length_cons, Nat.or_assoc]
        rw [show 8 * l.length - 1 - (k - 8) = 8 * (l.length + 1) - 1 - k from by omega]
def Reads (l : List Int) (x : Nat) : Prop := By l ∧ pol l = x
theorem mkl_pol (w s at' t : Nat) : ∀ (m i : Nat) (l : List Int), i + m = s → at' + s + t = 8 * l.length → Reads l ((w / 2 ^ (s - i)) * 2 ^ (t + (s - i))) → Reads (mkl w s at' m i l) (w * 2 ^ t) := by
  intro m
  induction m with
  | zero =>
    intro i l hi hl h
    obtain rfl : i = s := by omega
    rw [Nat.sub_self, Nat.pow_zero, Nat.div_one, Nat.add_zero] at h
    exact h
  | succ m ih =>
    intro i l hi hl h
    have q1 : s - 1 - i + 1 = s - i := by omega
    have q2 : s - (i + 1) = s - 1 - i := by omega
    have q3 : 8 * l.length - 1 - (at' + i) = t + (s - 1 - i) := by omega
    have q4 : t + (s - i) = t + (s - 1 - i) + 1 := by omega
    have q5 : at' + i < 8 * l.length := by omega
    have him : i + 1 + m = s := by omega
    clear hi
    show Reads (mkl w s at' m (i + 1) (if w.testBit (s - 1 - i) then orAt l (at' + i) else l)) (w * 2 ^ t)
    refine ih (i + 1) _ him (by split <;> simp [orAt_length, hl]) ?_
    have hh := halves w (s - 1 - i)
    rw [q1] at hh
    rw [q2]
    obtain ⟨hb, hp⟩ := h
    rw [q4] at hp
    have hdiv : pol l % 2 ^ (t + (s - 1 - i) + 1) = 0 := by rw [hp]; exact Nat.mul_mod_left _ _
    have hw : w / 2 ^ (s - 1 - i) = 2 * (w / 2 ^ (s - i)) + (w.testBit (s - 1 - i)).toNat := by
      have h3 := Nat.div_add_mod (w / 2 ^ (s - 1 - i)) 2
      rw [hh.1, hh.2] at h3
      exact h3.symm
    have key : (w / 2 ^ (s - 1 - i)) * 2 ^ (t + (s - 1 - i)) = pol l + (w.testBit (s - 1 - i)).toNat * 2 ^ (t + (s - 1 - i)) := by
      rw [hw, Nat.add_mul, hp, Nat.pow_succ, Nat.mul_comm 2, Nat.mul_assoc, Nat.mul_comm 2]
    by_cases c : w.testBit (s - 1 - i) = true
    · rw [if_pos c]
      obtain ⟨g1, g2⟩ := or_both l (at' + i) hb q5
      refine ⟨g1, ?_⟩
      rw [g2, q3, (or_new hdiv).1, key, c, Bool.toNat_true, Nat.one_mul]
    · rw [if_neg c]
      have c' : w.testBit (s - 1 - i) = false := by simpa using c
      refine ⟨hb, ?_⟩
      rw [key, c', Bool.toNat_false, Nat.zero_mul, Nat.add_zero]
theorem pol_zeros (n : Nat) : pol (List.replicate n 0) = 0 := by
  induction n with
  | zero => rfl
  | succ n ih => rw [List.replicate_succ, pol_cons, ih]; simp

theorem pol_xl : ∀ {a b : List Int}, By a → By b → a.length = b.length → pol (xl a b) = pol a ^^^ pol b := by
  intro a
  induction a with
  | nil => intro b _ _ h; cases b with
    | nil => rfl
    | cons y b => cases h
  | cons x a ih =>
    intro b ha hb h
    cases b with
    | nil => cases h
    | cons y b =>
      have hl : a.length = b.length := by simpa using h
      have hx := ha x (by simp)
      have hy := hb y (by simp)
      have g := ih ha.tail hb.tail hl
      have e : xl (x :: a) (y :: b) = xb x y :: xl a b := rfl
      have hxl : pol a ^^^ pol b < 2 ^ (8 * a.length) := Nat.xor_lt_two_pow (pol_lt ha.tail) (by rw [hl]; exact pol_lt hb.tail)
      have hq := xl_length a b hl
      have en : (xb x y).toNat = x.toNat ^^^ y.toNat := by rw [xb_nat hx hy, Int.toNat_natCast]
      rw [e, pol_cons, pol_cons, pol_cons, hq, g, en, add_eq_xor hxl, add_eq_xor (pol_lt ha.tail), ← hl, add_eq_xor (by rw [hl]; exact pol_lt hb.tail), xor_shift]
      ac_rfl
/-- What Make makes is a burst. -/
theorem mkl_burst {w N A : Nat} (hA : A + len w ≤ 8 * N) : By (mkl w (len w) A (len w) 0 (List.replicate N 0)) ∧ pol (mkl w (len w) A (len w) 0 (List.replicate N 0)) = w * 2 ^ (8 * N - (A + len w)) := by
  refine mkl_pol w (len w) A (8 * N - (A + len w)) (len w) 0 (List.replicate N 0) (by omega) (by simp; omega) ⟨by_zeros N, ?_⟩
  rw [pol_zeros, Nat.sub_zero, Nat.div_eq_of_lt (lt_of_len (Nat.le_refl _)), Nat.zero_mul]

end Go.Proofs.Ytlafkeijikbenab.Pure
