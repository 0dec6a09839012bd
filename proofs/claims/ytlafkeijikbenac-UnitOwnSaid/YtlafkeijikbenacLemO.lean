/- Lemmas on the printed functions: what each comes to, over plain numbers and lists. -/
import Derived.Test.YtlafkeijikbenacPOx1
import Derived.Test.YtlafkeijikbenacPOx2
import Derived.Test.YtlafkeijikbenacPOx3
import Derived.Test.YtlafkeijikbenacPOx4
import Derived.Test.YtlafkeijikbenacBt
namespace Go.Proofs.Ytlafkeijikbenac.Pure
open Go Go.RowKit Go.Proofs.Ytlafkeijikbenac.PO Go.Proofs.YtlafkeijikbenacW.PrintWords Go.Proofs.YtlafkeijikbenacW.PrintLast Go.Proofs.YtlafkeijikbenacW.PrintMore
open Go.Proofs.Ytlafkeijikbenac.Gf Go.Proofs.Ytlafkeijikbenac.Bt

theorem step_round {s : Nat} (h : s < 2 ^ 32) : (if ((s : Int) / 2147483648) = 0 then (((s : Int) * 2) % 4294967296) else (Go.bits .xor .u32 (((s : Int) * 2) % 4294967296) 517762881)) = ((pm G 32 (2 * s) : Nat) : Int) := by
  have h2 : 2 * s < 2 ^ (32 + 1) := by omega
  rw [pm_red G1 G2 h2]
  unfold red
  rw [testBit_top h2]
  by_cases c : s < 2147483648
  · rw [if_pos (by omega), if_neg (by simp; omega)]; omega
  · rw [if_neg (by omega), if_pos (by simp; omega)]
    have e1 : ((s : Int) * 2) % 4294967296 = ((2 * s - 2 ^ 32 : Nat) : Int) := by omega
    rw [e1, show (517762881 : Int) = ((517762881 : Nat) : Int) from rfl, xor32 (by omega) (by omega)]
    have e2 : 2 * s = 1 * 2 ^ 32 ^^^ (2 * s - 2 ^ 32) := by rw [← add_eq_xor (by omega)]; omega
    have e3 : G = 1 * 2 ^ 32 ^^^ 517762881 := by rw [← add_eq_xor (by omega)]; rfl
    conv => rhs; rw [e2, e3, xor4, Nat.xor_self, Nat.zero_xor]
theorem step_loop : ∀ (n i s : Nat), i + n = 8 → s < 2 ^ 32 → Ev (fun k => crc_step.l0 k (s : Int) (i : Int)) ((pm G 32 (s * 2 ^ n) : Nat) : Int) := by
  intro n
  induction n with
  | zero =>
    intro i s hi hs
    refine Ev.step (fun k => crc_step.l0.eq_2 ..) ?_
    refine Ev_ite_neg (by omega) ?_
    rw [Nat.pow_zero, Nat.mul_one, pm_small G1 G2 hs]
    exact Ev.now _
  | succ n ih =>
    intro i s hi hs
    refine Ev.step (fun k => crc_step.l0.eq_2 ..) ?_
    refine Ev_ite_pos (by omega) ?_
    have e : wrap64 ((i : Int) + 1) = ((i + 1 : Nat) : Int) := by rw [wrap64_id (by omega) (by omega)]; omega
    rw [e]
    have g := ih (i + 1) (pm G 32 (2 * s)) (by omega) (pm_lt G1 G2 _)
    rw [pm_shift G1 G2, Nat.mul_comm 2 s, Nat.mul_assoc, ← Nat.pow_succ', ← Nat.mul_comm 2 s, ← step_round hs] at g
    by_cases c : ((s : Int) / 2147483648) = 0
    · refine Ev_ite_pos c ?_
      rw [if_pos c] at g; exact g
    · refine Ev_ite_neg c ?_
      rw [if_neg c] at g; exact g
theorem step_ev {s : Nat} {c : Int} (hs : s < 2 ^ 32) (h0 : 0 ≤ c) (h1 : c < 256) : Ev (fun k => crc_step.f k (s : Int) c) ((stp s c.toNat : Nat) : Int) := by
  unfold crc_step.f
  have e : (((c) % 4294967296) * 16777216) % 4294967296 = ((c.toNat * 2 ^ 24 : Nat) : Int) := by omega
  rw [e, xor32 hs (by omega)]
  exact step_loop 8 0 _ rfl (Nat.xor_lt_two_pow hs (by omega))
theorem bits_loop : ∀ (l pre : List Int) (s : Nat), By l → (pre ++ l).length ≤ 140737488355328 → s < 2 ^ 32 →
    Ev (fun k => crc_Bits.l0 k (s : Int) (pre ++ l) ((pre ++ l).length : Int) (pre.length : Int)) ((crcFrom s l : Nat) : Int) := by
  intro l
  induction l with
  | nil =>
    intro pre s _ _ hs
    refine Ev.step (fun k => crc_Bits.l0.eq_2 ..) ?_
    refine Ev_ite_neg (by simp) ?_
    rw [crcFrom_nil hs]; exact Ev.now _
  | cons c l ih =>
    intro pre s hb hl hs
    have hc := hb.head
    refine Ev.step (fun k => crc_Bits.l0.eq_2 ..) ?_
    have hlt : ((pre.length : Nat) : Int) < ((pre ++ c :: l).length : Int) := by simp; omega
    refine Ev_ite_pos hlt (Ev_ite_pos (by omega) (Ev_ite_pos hlt ?_))
    rw [rd_at]
    refine Ev.bind (step_ev hs hc.1 hc.2) ?_
    rw [crcFrom_cons s c hb.tail]
    have g := ih (pre ++ [c]) (stp s c.toNat) hb.tail (by simpa using hl) (pm_lt G1 G2 _)
    have e : wrap64 ((pre.length : Int) + 1) = ((pre ++ [c]).length : Int) := by
      rw [wrap64_id (by omega) (by simp at hl; omega)]; simp
    rw [e]
    simpa using g
theorem bits_ev {l : List Int} (hb : By l) (hl : l.length ≤ 140737488355328) : Ev (fun k => crc_Bits.f k l) ((crc l : Nat) : Int) := by
  have := bits_loop l [] 0 hb hl (by omega)
  rw [crcFrom_zero] at this
  exact this

/-- how many bits a number has -/
def len (a : Nat) : Nat := if a = 0 then 0 else a.log2 + 1
theorem len_zero : len 0 = 0 := rfl
theorem len_iff {a n : Nat} : len a = n + 1 ↔ 2 ^ n ≤ a ∧ a < 2 ^ (n + 1) := by
  unfold len
  by_cases h : a = 0
  · subst h
    have := Nat.two_pow_pos n
    simp
  · rw [if_neg h]
    have h1 := Nat.log2_self_le h
    have h2 := @Nat.lt_log2_self a
    constructor
    · intro e
      have : a.log2 = n := by omega
      subst this; exact ⟨h1, h2⟩
    · intro ⟨u, v⟩
      have e1 : a.log2 < n + 1 := (Nat.log2_lt h).2 v
      have e2 : n ≤ a.log2 := (Nat.le_log2 h).2 u
      omega
theorem len_pos {a : Nat} (h : a ≠ 0) : ∃ n, len a = n + 1 := ⟨a.log2, by simp [len, h]⟩
theorem len_le {a n : Nat} (h : a < 2 ^ n) : len a ≤ n := by
  by_cases z : a = 0
  · subst z; simp [len]
  · obtain ⟨m, hm⟩ := len_pos z
    rw [hm]
    have := (len_iff.1 hm).1
    apply Nat.lt_of_not_le
    intro c
    have := Nat.pow_le_pow_right (n := 2) (by omega) c
    have := Nat.pow_le_pow_right (n := 2) (by omega) (show n ≤ m + 1 - 1 from by omega)
    rw [Nat.add_sub_cancel] at this
    omega
theorem lt_of_len {a n : Nat} (h : len a ≤ n) : a < 2 ^ n := by
  by_cases z : a = 0
  · subst z; exact Nat.two_pow_pos n
  · obtain ⟨m, hm⟩ := len_pos z
    have := (len_iff.1 hm).2
    exact Nat.lt_of_lt_of_le this (Nat.pow_le_pow_right (by omega) (by omega))
theorem len_shift {a s : Nat} (h : a / 2 ^ s ≠ 0) : len a = s + len (a / 2 ^ s) := by
  obtain ⟨n, hn⟩ := len_pos h
  rw [hn]
  obtain ⟨u, v⟩ := len_iff.1 hn
  have hp := Nat.two_pow_pos s
  show len a = (s + n) + 1
  rw [len_iff, Nat.pow_add, show s + n + 1 = s + (n + 1) from rfl, Nat.pow_add 2 s]
  constructor
  · calc 2 ^ s * 2 ^ n ≤ 2 ^ s * (a / 2 ^ s) := Nat.mul_le_mul_left _ u
      _ ≤ a := Nat.mul_div_le _ _
  · rw [Nat.mul_comm]; exact (Nat.div_lt_iff_lt_mul hp).1 v
def tab : ByteArray := ⟨#[0, 1, 2, 2, 3, 3, 3, 3, 4, 4, 4, 4, 4, 4, 4, 4, 5, 5, 5, 5, 5, 5, 5, 5, 5, 5, 5, 5, 5, 5, 5, 5, 6, 6, 6, 6, 6, 6, 6, 6, 6, 6, 6, 6, 6, 6, 6, 6, 6, 6, 6, 6, 6, 6, 6, 6, 6, 6, 6, 6, 6, 6, 6, 6, 7, 7, 7, 7, 7, 7, 7, 7, 7, 7, 7, 7, 7, 7, 7, 7, 7, 7, 7, 7, 7, 7, 7, 7, 7, 7, 7, 7, 7, 7, 7, 7, 7, 7, 7, 7, 7, 7, 7, 7, 7, 7, 7, 7, 7, 7, 7, 7, 7, 7, 7, 7, 7, 7, 7, 7, 7, 7, 7, 7, 7, 7, 7, 7, 8, 8, 8, 8, 8, 8, 8, 8, 8, 8, 8, 8, 8, 8, 8, 8, 8, 8, 8, 8, 8, 8, 8, 8, 8, 8, 8, 8, 8, 8, 8, 8, 8, 8, 8, 8, 8, 8, 8, 8, 8, 8, 8, 8, 8, 8, 8, 8, 8, 8, 8, 8, 8, 8, 8, 8, 8, 8, 8, 8, 8, 8, 8, 8, 8, 8, 8, 8, 8, 8, 8, 8, 8, 8, 8, 8, 8, 8, 8, 8, 8, 8, 8, 8, 8, 8, 8, 8, 8, 8, 8, 8, 8, 8, 8, 8, 8, 8, 8, 8, 8, 8, 8, 8, 8, 8, 8, 8, 8, 8, 8, 8, 8, 8, 8, 8, 8, 8, 8, 8, 8, 8, 8, 8, 8, 8, 8, 8]⟩
theorem tab_all : ∀ c : Fin 256, bt tab ((c.val : Nat) : Int) = ((len c.val : Nat) : Int) := by decide +kernel
theorem tab_len {e : Int} {c : Nat} (he : e = (c : Int)) (h : c < 256) : wrap64 (bt (⟨#[0, 1, 2, 2, 3, 3, 3, 3, 4, 4, 4, 4, 4, 4, 4, 4, 5, 5, 5, 5, 5, 5, 5, 5, 5, 5, 5, 5, 5, 5, 5, 5, 6, 6, 6, 6, 6, 6, 6, 6, 6, 6, 6, 6, 6, 6, 6, 6, 6, 6, 6, 6, 6, 6, 6, 6, 6, 6, 6, 6, 6, 6, 6, 6, 7, 7, 7, 7, 7, 7, 7, 7, 7, 7, 7, 7, 7, 7, 7, 7, 7, 7, 7, 7, 7, 7, 7, 7, 7, 7, 7, 7, 7, 7, 7, 7, 7, 7, 7, 7, 7, 7, 7, 7, 7, 7, 7, 7, 7, 7, 7, 7, 7, 7, 7, 7, 7, 7, 7, 7, 7, 7, 7, 7, 7, 7, 7, 7, 8, 8, 8, 8, 8, 8, 8, 8, 8, 8, 8, 8, 8, 8, 8, 8, 8, 8, 8, 8, 8, 8, 8, 8, 8, 8, 8, 8, 8, 8, 8, 8, 8, 8, 8, 8, 8, 8, 8, 8, 8, 8, 8, 8, 8, 8, 8, 8, 8, 8, 8, 8, 8, 8, 8, 8, 8, 8, 8, 8, 8, 8, 8, 8, 8, 8, 8, 8, 8, 8, 8, 8, 8, 8, 8, 8, 8, 8, 8, 8, 8, 8, 8, 8, 8, 8, 8, 8, 8, 8, 8, 8, 8, 8, 8, 8, 8, 8, 8, 8, 8, 8, 8, 8, 8, 8, 8, 8, 8, 8, 8, 8, 8, 8, 8, 8, 8, 8, 8, 8, 8, 8, 8, 8, 8, 8, 8, 8]⟩ : ByteArray) e) = ((len c : Nat) : Int) := by
  subst he
  have g : bt tab (c : Int) = ((len c : Nat) : Int) := tab_all ⟨c, h⟩
  have b : len c ≤ 8 := len_le (by omega)
  have g' : bt (⟨#[0, 1, 2, 2, 3, 3, 3, 3, 4, 4, 4, 4, 4, 4, 4, 4, 5, 5, 5, 5, 5, 5, 5, 5, 5, 5, 5, 5, 5, 5, 5, 5, 6, 6, 6, 6, 6, 6, 6, 6, 6, 6, 6, 6, 6, 6, 6, 6, 6, 6, 6, 6, 6, 6, 6, 6, 6, 6, 6, 6, 6, 6, 6, 6, 7, 7, 7, 7, 7, 7, 7, 7, 7, 7, 7, 7, 7, 7, 7, 7, 7, 7, 7, 7, 7, 7, 7, 7, 7, 7, 7, 7, 7, 7, 7, 7, 7, 7, 7, 7, 7, 7, 7, 7, 7, 7, 7, 7, 7, 7, 7, 7, 7, 7, 7, 7, 7, 7, 7, 7, 7, 7, 7, 7, 7, 7, 7, 7, 8, 8, 8, 8, 8, 8, 8, 8, 8, 8, 8, 8, 8, 8, 8, 8, 8, 8, 8, 8, 8, 8, 8, 8, 8, 8, 8, 8, 8, 8, 8, 8, 8, 8, 8, 8, 8, 8, 8, 8, 8, 8, 8, 8, 8, 8, 8, 8, 8, 8, 8, 8, 8, 8, 8, 8, 8, 8, 8, 8, 8, 8, 8, 8, 8, 8, 8, 8, 8, 8, 8, 8, 8, 8, 8, 8, 8, 8, 8, 8, 8, 8, 8, 8, 8, 8, 8, 8, 8, 8, 8, 8, 8, 8, 8, 8, 8, 8, 8, 8, 8, 8, 8, 8, 8, 8, 8, 8, 8, 8, 8, 8, 8, 8, 8, 8, 8, 8, 8, 8, 8, 8, 8, 8, 8, 8, 8, 8]⟩ : ByteArray) (c : Int) = ((len c : Nat) : Int) := g
  rw [g', wrap64_id (by omega) (by omega)]
/-- m's degree is d -/
def Deg (m d : Nat) : Prop := 2 ^ d ≤ m ∧ m < 2 ^ (d + 1)
theorem Deg.ofLen {m d : Nat} (h : len m = d + 1) : Deg m d := len_iff.1 h
theorem Deg.len {m d : Nat} (h : Deg m d) : len m = d + 1 := len_iff.2 h
theorem Deg.lt {m d : Nat} (h : Deg m d) (hm : m < 2 ^ 64) : d < 64 := by
  have h1 := h.1
  apply Nat.lt_of_not_le
  intro c
  have := Nat.pow_le_pow_right (n := 2) (by omega) c
  omega
theorem exists_deg {m : Nat} (h : m ≠ 0) : ∃ d, Deg m d := exists_top h
theorem pow64 {n : Nat} (h : n ≤ 64) : 2 ^ n ≤ 2 ^ 64 := Nat.pow_le_pow_right (by omega) h
theorem halves (b i : Nat) : b / 2 ^ i % 2 = (b.testBit i).toNat ∧ b / 2 ^ i / 2 = b / 2 ^ (i + 1) := by
  constructor
  · rw [Nat.testBit_eq_decide_div_mod_eq]
    rcases Nat.mod_two_eq_zero_or_one (b / 2 ^ i) with h | h <;> simp [h]
  · rw [Nat.pow_succ, Nat.div_div_eq_div_mul]

theorem pm_one (p : Nat) : pm 1 0 p = 0 := by
  have := pm_lt (m := 1) (d := 0) (by omega) (by omega) p
  omega
theorem deg_one {d : Nat} (h : Deg 1 d) : d = 0 := by
  have h1 := h.1
  by_cases z : d = 0
  · exact z
  · have := Nat.pow_le_pow_right (n := 2) (by omega) (show 1 ≤ d from by omega)
    omega
theorem deg_ge {m d : Nat} (h : Deg m d) (hm : 1 < m) : 1 ≤ d := by
  have h2 := h.2
  by_cases z : d = 0
  · subst z; omega
  · omega

theorem G64 : G < 2 ^ 64 := by unfold G; omega
theorem GD : Deg G 32 := ⟨G1, G2⟩


/-- the four bytes of a word -/
def word4 (s : Int) : List Int := [(s / 16777216) % 256, (s / 65536) % 256, (s / 256) % 256, s % 256]
theorem word4_by (s : Int) : By (word4 s) := by
  intro x hx; simp [word4] at hx; omega
theorem word4_pol {s : Nat} (h : s < 2 ^ 32) : pol (word4 (s : Int)) = s := by
  simp [word4, pol]; omega
theorem crc_sealed {l : List Int} : crc (l ++ word4 (crc l : Int)) = 0 := by
  have hw := word4_by (crc l : Int)
  unfold crc
  have h : pol (l ++ word4 ((crc l : Nat) : Int)) = pol l * 2 ^ 32 ^^^ crc l := by
    rw [pol_append_xor hw, word4_pol (crc_lt l)]; rfl
  have e : pm G 32 (pol l * 2 ^ 32 ^^^ crc l) = 0 := by
    rw [pm_xor G1 G2, pm_small (p := crc l) G1 G2 (crc_lt l)]; unfold crc; simp
  show pm G 32 (pol (l ++ word4 ((crc l : Nat) : Int)) * 2 ^ 32) = 0
  rw [h, ← pm_shift G1 G2, e, Nat.zero_mul, pm_zero]
def sealed (l : List Int) : List Int := l ++ word4 (crc l : Int)
theorem sealed_by {l : List Int} (h : By l) : By (sealed l) := h.append (word4_by _)
theorem sealed_length (l : List Int) : (sealed l).length = l.length + 4 := by simp [sealed, word4]
theorem clone_f {l : List Int} (hl : l.length < 140737488355328) : slices_Clone_byte_byte.f l = some l := by
  unfold slices_Clone_byte_byte.f
  rw [Option.bind_some, if_pos (by simpa using hl), List.nil_append]
theorem seal_ev {l : List Int} (hb : By l) (hl : l.length ≤ 140737488355000) : Ev (fun k => crc_Seal.f k l) (sealed l) := by
  unfold crc_Seal.f
  refine Ev.bind (bits_ev hb (by omega)) ?_
  rw [clone_f (by omega)]
  refine Ev_some (Ev_some (Ev_ite_pos (by simp; omega) ?_))
  exact Ev.now _
theorem valid_ev {l : List Int} (hb : By l) (hl : l.length ≤ 140737488355328) (h4 : 4 ≤ l.length) : Ev (fun k => crc_Valid.f k l) (decide (crc l = 0)) := by
  unfold crc_Valid.f
  refine Ev_ite_pos (by omega) (Ev.bind (bits_ev hb hl) ?_)
  have : (((crc l : Nat) : Int) == 0) = decide (crc l = 0) := by
    by_cases h : crc l = 0
    · rw [h]; rfl
    · rw [decide_eq_false h]; simpa using h
  rw [this]; exact Ev.now _

theorem or32 {a b : Nat} (ha : a < 2 ^ 32) (hb : b < 2 ^ 32) : bits .or .u32 (a : Int) (b : Int) = ((a ||| b : Nat) : Int) := u32_or_nat a b (by omega) (by omega)
theorem or_add {i a b : Nat} (h : b < 2 ^ i) : a * 2 ^ i ||| b = a * 2 ^ i + b := by rw [Nat.mul_comm a, Nat.two_pow_add_eq_or_of_lt h]
def num4 (a b c d : Nat) : Nat := a * 16777216 + b * 65536 + c * 256 + d
theorem num_or {a b c d : Nat} (ha : a < 256) (hb : b < 256) (hc : c < 256) (hd : d < 256) :
    Go.bits .or .u32 (Go.bits .or .u32 (Go.bits .or .u32 ((((a : Int) % 4294967296) * 16777216) % 4294967296) ((((b : Int) % 4294967296) * 65536) % 4294967296)) ((((c : Int) % 4294967296) * 256) % 4294967296)) ((d : Int) % 4294967296) = ((num4 a b c d : Nat) : Int) := by
  rw [show (((a : Int) % 4294967296) * 16777216) % 4294967296 = ((a * 2 ^ 24 : Nat) : Int) from by omega, show (((b : Int) % 4294967296) * 65536) % 4294967296 = ((b * 2 ^ 16 : Nat) : Int) from by omega,
    show (((c : Int) % 4294967296) * 256) % 4294967296 = ((c * 2 ^ 8 : Nat) : Int) from by omega, show ((d : Int) % 4294967296) = (d : Int) from by omega]
  rw [or32 (by omega) (by omega), or_add (by omega), or32 (by omega) (by omega), show a * 2 ^ 24 + b * 2 ^ 16 = (a * 2 ^ 8 + b) * 2 ^ 16 from by omega, or_add (by omega), or32 (by omega) (by omega),
    show (a * 2 ^ 8 + b) * 2 ^ 16 + c * 2 ^ 8 = ((a * 2 ^ 8 + b) * 2 ^ 8 + c) * 2 ^ 8 from by omega, or_add (by omega)]
  unfold num4; omega
def w4 (s : Int) : List Int := [(s / 16777216) % 256, (s / 65536) % 256, (s / 256) % 256, s % 256]
theorem w4_num {a b c d : Nat} (ha : a < 256) (hb : b < 256) (hc : c < 256) (hd : d < 256) : w4 ((num4 a b c d : Nat) : Int) = [(a : Int), (b : Int), (c : Int), (d : Int)] := by
  unfold w4 num4
  congr 1
  · omega
  congr 1
  · omega
  congr 1
  · omega
  congr 1
  omega
theorem uncons {α : Type} {l : List α} {k : Nat} (h : l.length = k + 1) : ∃ a t, l = a :: t ∧ t.length = k := by
  cases l with
  | nil => simp at h
  | cons a t => exact ⟨a, t, rfl, by simpa using h⟩
theorem w4_bytes {a : Nat} (h : a < 4294967296) : ∃ x y z v : Nat, x < 256 ∧ y < 256 ∧ z < 256 ∧ v < 256 ∧ w4 (a : Int) = [(x : Int), (y : Int), (z : Int), (v : Int)] ∧ num4 x y z v = a := by
  refine ⟨a / 16777216, a / 65536 % 256, a / 256 % 256, a % 256, by omega, by omega, by omega, by omega, ?_, ?_⟩
  · unfold w4
    congr 1
    · omega
  · unfold num4; omega

set_option linter.unusedVariables false
set_option linter.unusedSimpArgs false
theorem awake_ev : Ev (fun k => parapetlaw04_Awake.f k) true := Ev.of parapetlaw04_Awake.mono (k := 60) (by decide +kernel)
/-- what a kind's unit may be -/
def form (a : Int) : Int × Int × Int × Bool × Bool :=
  if a = 1 then (0, 0, 1, false, true) else if a = 2 then (1, 0, 1, false, true) else if a = 17 then (1, 0, 1, false, true)
  else if a = 3 then (1, 0, 0, false, true) else if a = 18 then (1, 0, 0, false, true) else if a = 19 then (1, 0, 0, false, true)
  else if a = 4 then (1, 1, 2, true, true) else if a = 20 then (1, 1, 2, true, true)
  else if a = 5 then (1, 1, 0, false, true) else if a = 21 then (1, 1, 0, false, true)
  else if a = 22 then (2, 0, 0, false, true) else (0, 0, 0, false, false)
theorem kinds (a : Int) : (a = 1 ∨ a = 2 ∨ a = 17 ∨ a = 3 ∨ a = 18 ∨ a = 19 ∨ a = 4 ∨ a = 20 ∨ a = 5 ∨ a = 21 ∨ a = 22) ∨ (a ≠ 1 ∧ a ≠ 2 ∧ a ≠ 17 ∧ a ≠ 3 ∧ a ≠ 18 ∧ a ≠ 19 ∧ a ≠ 4 ∧ a ≠ 20 ∧ a ≠ 5 ∧ a ≠ 21 ∧ a ≠ 22) := by omega
theorem form_ev (a : Int) : Ev (fun k => unit_formOf.f k a) (form a) := by
  refine Ev.of (unit_formOf.mono a) (k := 9) ?_
  rcases kinds a with (h | h | h | h | h | h | h | h | h | h | h) | ⟨h1, h2, h3, h4, h5, h6, h7, h8, h9, h10, h11⟩
  all_goals first
    | (subst h; rfl)
    | (simp [unit_formOf.f, unit_formOf.j0, unit_formOf.j1, unit_formOf.j2, unit_formOf.j3, form, *])
def lenOk (p n : Int) : Bool := if p = 1 then n == 4 else if p = 2 then (if n ≥ 1 then decide (n ≤ 8) else false) else n == 0
def fitOk (w x : Int) : Bool := if w = 2 then true else ((w == 1) == decide (x > 0))
theorem length_f (a b p : Int) (c : Bool) (n : Int) : unit_length.f a b p c n = some (lenOk p n) := by
  unfold unit_length.f lenOk
  split
  · rfl
  · split
    · split <;> rfl
    · rfl
theorem fits_f (w x : Int) : unit_fits.f w x = some (fitOk w x) := by
  unfold unit_fits.f fitOk
  split <;> rfl
/-- the first thing that is wrong with a unit -/
def lawF (f : Int × Int × Int × Bool × Bool) (b c d e n : Int) : Int :=
  if f.2.2.2.2 = true then (if b = 0 then 44 else (if lenOk f.2.2.1 n = true then (if fitOk f.1 c = true then (if fitOk f.2.1 d = true then (if e < 0 then 48 else (if e > 15 then 48 else (if f.2.2.2.1 = true then 0 else (if e = 0 then 0 else 48)))) else 47) else 46) else 45)) else 43
def law (a b c d e n : Int) : Int := lawF (form a) b c d e n
theorem some_ite (c : Prop) [Decidable c] (x y : Int) : (if c then some x else some y) = some (if c then x else y) := by split <;> rfl
theorem lawful_ev (a b c d e : Int) (l : List Int) : Ev (fun k => unit_Lawful.f k a b c d e l) (law a b c d e (l.length : Int)) := by
  unfold unit_Lawful.f law
  refine Ev.bind (form_ev a) ?_
  obtain ⟨s, m, p, fl, is⟩ := form a
  simp only [length_f, fits_f, Option.bind_some]
  refine ⟨0, fun k _ => ?_⟩
  show (if is = true then (if b = 0 then some 44 else (if lenOk p l.length = true then (if fitOk s c = true then (if fitOk m d = true then (if e < 0 then some 48 else (if e > 15 then some 48 else (if fl = true then some 0 else (if e = 0 then some 0 else some 48)))) else some 47) else some 46) else some 45)) else some 43) = _
  simp only [lawF, some_ite]
theorem law_zero {a b c d e n : Int} (h : law a b c d e n = 0) : 1 ≤ a ∧ a ≤ 22 ∧ 0 ≤ e ∧ e ≤ 15 ∧ n ≤ 8 := by
  have hk : 1 ≤ a ∧ a ≤ 22 := by
    rcases kinds a with g | ⟨h1, h2, h3, h4, h5, h6, h7, h8, h9, h10, h11⟩
    · omega
    · have : form a = (0, 0, 0, false, false) := by simp [form, *]
      unfold law at h
      rw [this] at h
      simp [lawF] at h
  unfold law at h
  generalize form a = F at h
  obtain ⟨s, m, p, fl, is⟩ := F
  unfold lawF at h
  dsimp only at h
  by_cases q1 : is = true
  case neg => rw [if_neg q1] at h; omega
  rw [if_pos q1] at h
  by_cases q2 : b = 0
  case pos => rw [if_pos q2] at h; omega
  rw [if_neg q2] at h
  by_cases q3 : lenOk p n = true
  case neg => rw [if_neg q3] at h; omega
  rw [if_pos q3] at h
  have hn : n ≤ 8 := by
    unfold lenOk at q3
    split at q3
    · have := eq_of_beq q3; omega
    · split at q3
      · split at q3
        · exact of_decide_eq_true q3
        · cases q3
      · have := eq_of_beq q3; omega
  by_cases q4 : fitOk s c = true
  case neg => rw [if_neg q4] at h; omega
  rw [if_pos q4] at h
  by_cases q5 : fitOk m d = true
  case neg => rw [if_neg q5] at h; omega
  rw [if_pos q5] at h
  by_cases q6 : e < 0
  · rw [if_pos q6] at h; omega
  rw [if_neg q6] at h
  by_cases q7 : e > 15
  · rw [if_pos q7] at h; omega
  exact ⟨hk.1, hk.2, by omega, by omega, hn⟩
theorem put_f (l : List Int) (s : Int) (hl : l.length < 100000) : unit_put.f l s = some (l ++ w4 s) := by
  unfold unit_put.f
  rw [Option.bind_some, if_pos (by simp; omega)]; rfl
def body (a b c d e : Int) (l : List Int) : List Int := [a % 256] ++ w4 b ++ w4 c ++ w4 d ++ [e % 256, (l.length : Int) % 256] ++ l
theorem w4_by (s : Int) : By (w4 s) := word4_by s
theorem w4_length (s : Int) : (w4 s).length = 4 := rfl
theorem body_length (a b c d e : Int) (l : List Int) : (body a b c d e l).length = 15 + l.length := by simp [body, w4_length]; omega
theorem body_by (a b c d e : Int) {l : List Int} (h : By l) : By (body a b c d e l) := by
  have h1 : By [a % 256] := by intro x hx; simp at hx; omega
  have h2 : By [e % 256, (l.length : Int) % 256] := by intro x hx; simp at hx; omega
  exact ((((h1.append (w4_by b)).append (w4_by c)).append (w4_by d)).append h2).append h
theorem encode_ev {a b c d e : Int} {l : List Int} (hb : By l) (h : law a b c d e (l.length : Int) = 0) : Ev (fun k => unit_Encode.f k a b c d e l) (sealed (body a b c d e l), 0) := by
  obtain ⟨_, _, _, _, hl⟩ := law_zero h
  unfold unit_Encode.f
  refine Ev.bind (lawful_ev a b c d e l) (Ev_ite_pos h ?_)
  rw [put_f _ _ (by simp)]
  refine Ev_some ?_
  rw [put_f _ _ (by simp [w4_length])]
  refine Ev_some ?_
  rw [put_f _ _ (by simp [w4_length])]
  refine Ev_some (Ev_some (Ev_ite_pos (by simp [w4_length]) (Ev_some (Ev_ite_pos (by simp [w4_length]; omega) ?_))))
  exact Ev.bind (seal_ev (body_by a b c d e hb) (by have := body_length a b c d e l; show (body a b c d e l).length ≤ _; omega)) (Ev.now _)
theorem encode_no {a b c d e : Int} {l : List Int} (h : law a b c d e (l.length : Int) ≠ 0) : Ev (fun k => unit_Encode.f k a b c d e l) ([], law a b c d e (l.length : Int)) := by
  unfold unit_Encode.f
  exact Ev.bind (lawful_ev a b c d e l) (Ev_ite_neg h (Ev.now _))
theorem get_f {a b c d : Nat} (l : List Int) (ha : a < 256) (hb : b < 256) (hc : c < 256) (hd : d < 256) : unit_get.f ((a : Int) :: (b : Int) :: (c : Int) :: (d : Int) :: l) = some ((num4 a b c d : Nat) : Int) := by
  unfold unit_get.f
  simp only [List.length_cons]
  rw [if_pos (by omega), if_pos (by omega), if_pos (by omega), if_pos (by omega)]
  have e0 : rd ((a : Int) :: (b : Int) :: (c : Int) :: (d : Int) :: l) 0 = (a : Int) := rfl
  have e1 : rd ((a : Int) :: (b : Int) :: (c : Int) :: (d : Int) :: l) 1 = (b : Int) := rfl
  have e2 : rd ((a : Int) :: (b : Int) :: (c : Int) :: (d : Int) :: l) 2 = (c : Int) := rfl
  have e3 : rd ((a : Int) :: (b : Int) :: (c : Int) :: (d : Int) :: l) 3 = (d : Int) := rfl
  rw [e0, e1, e2, e3, num_or ha hb hc hd]
abbrev Got := Int × Int × Int × Int × Int × List Int × Int
def dec (a b c d e n : Int) (data : List Int) : Got :=
  if n = (data.length : Int) then (if law a b c d e (data.length : Int) = 0 then (a, b, c, d, e, data, 0) else (0, 0, 0, 0, 0, [], law a b c d e (data.length : Int)))
  else (0, 0, 0, 0, 0, [], if law a b c d e 0 = 43 then 43 else if law a b c d e 0 = 44 then 44 else 45)
theorem decode_short {L : List Int} (h : L.length < 19) : Ev (fun k => unit_Decode.f k L) (0, 0, 0, 0, 0, [], 40) := by
  unfold unit_Decode.f
  exact Ev_ite_pos (by omega) (Ev.now _)
theorem decode_long {L : List Int} (h : 27 < L.length) : Ev (fun k => unit_Decode.f k L) (0, 0, 0, 0, 0, [], 41) := by
  unfold unit_Decode.f
  exact Ev_ite_neg (by omega) (Ev_ite_pos (by omega) (Ev.now _))
theorem decode_bad {L : List Int} (hb : By L) (h1 : 19 ≤ L.length) (h2 : L.length ≤ 27) (h : crc L ≠ 0) : Ev (fun k => unit_Decode.f k L) (0, 0, 0, 0, 0, [], 42) := by
  unfold unit_Decode.f
  refine Ev_ite_neg (by omega) (Ev_ite_neg (by omega) (Ev.bind (valid_ev hb (by omega) (by omega)) ?_))
  rw [decide_eq_false h]
  exact Ev_ite_neg (by simp) (Ev.now _)
theorem decode_ev {x0 x1 x2 x3 x4 x5 x6 x7 x8 x9 x10 x11 x12 x13 x14 : Nat} (g0 : x0 < 256) (g1 : x1 < 256) (g2 : x2 < 256) (g3 : x3 < 256) (g4 : x4 < 256) (g5 : x5 < 256) (g6 : x6 < 256) (g7 : x7 < 256) (g8 : x8 < 256) (g9 : x9 < 256) (g10 : x10 < 256) (g11 : x11 < 256) (g12 : x12 < 256) (g13 : x13 < 256) (g14 : x14 < 256)
    {data tl : List Int} (hd : data.length ≤ 8) (ht : tl.length = 4) {L : List Int} (hb : By L) (hL : L = (x0 : Int) :: (x1 : Int) :: (x2 : Int) :: (x3 : Int) :: (x4 : Int) :: (x5 : Int) :: (x6 : Int) :: (x7 : Int) :: (x8 : Int) :: (x9 : Int) :: (x10 : Int) :: (x11 : Int) :: (x12 : Int) :: (x13 : Int) :: (x14 : Int) :: (data ++ tl)) (hc : crc L = 0) :
    Ev (fun k => unit_Decode.f k L) (dec x0 (num4 x1 x2 x3 x4 : Nat) (num4 x5 x6 x7 x8 : Nat) (num4 x9 x10 x11 x12 : Nat) x13 x14 data) := by
  have hlen : L.length = 19 + data.length := by rw [hL]; simp [ht]; omega
  have n1 : unit_get.f (L.drop 1) = some ((num4 x1 x2 x3 x4 : Nat) : Int) := by rw [hL]; exact get_f _ g1 g2 g3 g4
  have n5 : unit_get.f (L.drop 5) = some ((num4 x5 x6 x7 x8 : Nat) : Int) := by rw [hL]; exact get_f _ g5 g6 g7 g8
  have n9 : unit_get.f (L.drop 9) = some ((num4 x9 x10 x11 x12 : Nat) : Int) := by rw [hL]; exact get_f _ g9 g10 g11 g12
  have r0 : rd L 0 = (x0 : Int) := by rw [hL]; rfl
  have r13 : rd L 13 = (x13 : Int) := by rw [hL]; rfl
  have r14 : rd L 14 = (x14 : Int) := by rw [hL]; rfl
  have ew : wrap64 ((L.length : Int) - 4) = ((15 + data.length : Nat) : Int) := by rw [wrap64_id (by omega) (by omega)]; omega
  have dd : (L.take (15 + data.length)).drop 15 = data := by
    rw [hL, show 15 + data.length = data.length + 15 from by omega]
    simp
  generalize num4 x1 x2 x3 x4 = B at *
  generalize num4 x5 x6 x7 x8 = C at *
  generalize num4 x9 x10 x11 x12 = D at *
  clear hL g1 g2 g3 g4 g5 g6 g7 g8 g9 g10 g11 g12
  unfold unit_Decode.f
  rw [ew, n1, n5, n9, r0, r13, r14, Int.toNat_natCast, dd, wrap64_id (n := (x0 : Int)) (by omega) (by omega), wrap64_id (n := (x13 : Int)) (by omega) (by omega), wrap64_id (n := (x14 : Int)) (by omega) (by omega), clone_f (by omega)]
  refine Ev_ite_neg (by omega) (Ev_ite_neg (by omega) (Ev.bind (valid_ev hb (by omega) (by omega)) ?_))
  rw [decide_eq_true hc]
  refine Ev_ite_pos rfl (Ev_ite_pos (by omega) (Ev_ite_pos (by omega) (Ev_ite_pos (by omega) (Ev_ite_pos (by omega) (Ev_some (Ev_ite_pos (by omega) (Ev_some (Ev_ite_pos (by omega) (Ev_some (Ev_ite_pos (by omega) (Ev_ite_pos (by omega) ?_)))))))))))
  have r14' : wrap64 (rd L 14) = (x14 : Int) := by rw [r14, wrap64_id (by omega) (by omega)]
  by_cases q : (x14 : Int) = (data.length : Int)
  · refine Ev_ite_pos q (Ev_some (Ev.step (fun _ => unit_Decode.j0.eq_2 ..) (Ev.bind (lawful_ev _ _ _ _ _ _) (Ev_ite_pos (by omega) ?_))))
    rw [r14']
    refine Ev_ite_pos q (Ev.step (fun _ => unit_Decode.j1.eq_2 ..) (Ev_ite_neg (by simp) ?_))
    by_cases z : law (x0 : Int) (B : Int) (C : Int) (D : Int) (x13 : Int) (data.length : Int) = 0
    · rw [show dec (x0 : Int) (B : Int) (C : Int) (D : Int) (x13 : Int) (x14 : Int) data = ((x0 : Int), (B : Int), (C : Int), (D : Int), (x13 : Int), data, 0) from by unfold dec; rw [if_pos q, if_pos z]]
      exact Ev_ite_pos z (Ev.now _)
    · rw [show dec (x0 : Int) (B : Int) (C : Int) (D : Int) (x13 : Int) (x14 : Int) data = (0, 0, 0, 0, 0, [], law (x0 : Int) (B : Int) (C : Int) (D : Int) (x13 : Int) (data.length : Int)) from by unfold dec; rw [if_pos q, if_neg z]]
      exact Ev_ite_neg z (Ev.now _)
  · unfold dec
    rw [if_neg q]
    refine Ev_ite_neg q (Ev.step (fun _ => unit_Decode.j0.eq_2 ..) (Ev.bind (lawful_ev _ _ _ _ _ _) (Ev_ite_pos (by omega) ?_)))
    rw [r14']
    refine Ev_ite_neg q ?_
    rw [List.length_nil, Int.natCast_zero]
    generalize law (x0 : Int) (B : Int) (C : Int) (D : Int) (x13 : Int) 0 = v
    by_cases z : v = 43
    · rw [if_pos z]
      refine Ev_ite_pos z (Ev.step (fun _ => unit_Decode.j1.eq_2 ..) (Ev_ite_neg (by simp) (Ev_ite_neg (by omega) ?_)))
      rw [z]; exact Ev.now _
    · rw [if_neg z]
      refine Ev_ite_neg z (Ev.step (fun _ => unit_Decode.j1.eq_2 ..) ?_)
      by_cases y : v = 44
      · rw [if_pos y, y]
        exact Ev_ite_neg (by simp) (Ev_ite_neg (by omega) (Ev.now _))
      · rw [if_neg y]
        exact Ev_ite_pos (by simpa using y) (Ev_ite_neg (by omega) (Ev.now _))

/-- Decode of Encode is the unit -/
theorem back_ev {a b c d e : Int} {l : List Int} (hb : By l) (h1 : 0 ≤ b ∧ b < 4294967296) (h2 : 0 ≤ c ∧ c < 4294967296) (h3 : 0 ≤ d ∧ d < 4294967296) (h : law a b c d e (l.length : Int) = 0) :
    Ev (fun k => unit_Decode.f k (sealed (body a b c d e l))) (a, b, c, d, e, l, 0) := by
  obtain ⟨ha1, ha2, he1, he2, hl⟩ := law_zero h
  obtain ⟨A, rfl⟩ := Int.eq_ofNat_of_zero_le (show 0 ≤ a by omega)
  obtain ⟨B, rfl⟩ := Int.eq_ofNat_of_zero_le (show 0 ≤ b by omega)
  obtain ⟨C, rfl⟩ := Int.eq_ofNat_of_zero_le (show 0 ≤ c by omega)
  obtain ⟨D, rfl⟩ := Int.eq_ofNat_of_zero_le (show 0 ≤ d by omega)
  obtain ⟨E, rfl⟩ := Int.eq_ofNat_of_zero_le (show 0 ≤ e by omega)
  have hs := sealed_by (body_by (A : Int) (B : Int) (C : Int) (D : Int) (E : Int) hb)
  have hc : crc (sealed (body (A : Int) (B : Int) (C : Int) (D : Int) (E : Int) l)) = 0 := crc_sealed
  obtain ⟨x1, x2, x3, x4, g1, g2, g3, g4, e1, m1⟩ := w4_bytes (a := B) (by omega)
  obtain ⟨x5, x6, x7, x8, g5, g6, g7, g8, e2, m2⟩ := w4_bytes (a := C) (by omega)
  obtain ⟨x9, x10, x11, x12, g9, g10, g11, g12, e3, m3⟩ := w4_bytes (a := D) (by omega)
  have q0 : (A : Int) % 256 = (A : Int) := by omega
  have q1 : (E : Int) % 256 = (E : Int) := by omega
  have q2 : (l.length : Int) % 256 = ((l.length : Nat) : Int) := by omega
  have hL : sealed (body (A : Int) (B : Int) (C : Int) (D : Int) (E : Int) l) = (A : Int) :: (x1 : Int) :: (x2 : Int) :: (x3 : Int) :: (x4 : Int) :: (x5 : Int) :: (x6 : Int) :: (x7 : Int) :: (x8 : Int) :: (x9 : Int) :: (x10 : Int) :: (x11 : Int) :: (x12 : Int) :: (E : Int) :: ((l.length : Nat) : Int) :: (l ++ word4 (crc (body (A : Int) (B : Int) (C : Int) (D : Int) (E : Int) l) : Int)) := by
    unfold sealed
    generalize word4 (crc (body (A : Int) (B : Int) (C : Int) (D : Int) (E : Int) l) : Int) = W
    unfold body
    rw [e1, e2, e3, q0, q1, q2]
    simp
  have g := decode_ev (by omega) g1 g2 g3 g4 g5 g6 g7 g8 g9 g10 g11 g12 (show E < 256 by omega) (show l.length < 256 by omega) (by omega) (by rfl) hs hL hc
  rw [m1, m2, m3] at g
  have e : dec (A : Int) (B : Int) (C : Int) (D : Int) (E : Int) ((l.length : Nat) : Int) l = ((A : Int), (B : Int), (C : Int), (D : Int), (E : Int), l, 0) := by unfold dec; rw [if_pos rfl, if_pos h]
  rw [e] at g
  exact g

end Go.Proofs.Ytlafkeijikbenac.Pure
