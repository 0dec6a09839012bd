/- Lemmas on the printed functions: what each comes to, over plain numbers and lists. -/
import Derived.Test.YtcnlomknmhgpbabPBx1
import Derived.Test.YtcnlomknmhgpbabPBx2
import Derived.Test.YtcnlomknmhgpbabPBx3
import Derived.Test.YtcnlomknmhgpbabPBx4
import Derived.Test.YtcnlomknmhgpbabPBx5
import Derived.Test.YtcnlomknmhgpbabBt
namespace Go.Proofs.Ytcnlomknmhgpbab.Pure
open Go Go.RowKit Go.Proofs.Ytcnlomknmhgpbab.PB Go.Proofs.YtcnlomknmhgpbabW.PrintWords Go.Proofs.YtcnlomknmhgpbabW.PrintLast Go.Proofs.YtcnlomknmhgpbabW.PrintMore
open Go.Proofs.Ytcnlomknmhgpbab.Gf Go.Proofs.Ytcnlomknmhgpbab.Bt
/-- how many bits a number has -/
def len (a : Nat) : Nat := if a = 0 then 0 else a.log2 + 1
theorem len_zero : len 0 = 0 := rfl
theorem len_iff {a n : Nat} : len a = n + 1 ↔ 2 ^ n ≤ a ∧ a < 2 ^ (n + 1) := by
  unfold len
  by_cases h : a = 0
  · subst h
    have := Nat.two_pow_pos n
    simp
  · rw [if_neg h]
    have h1 := Nat.log2_self_le h
    have h2 := @Nat.lt_log2_self a
    constructor
    · intro e
      have : a.log2 = n := by omega
      subst this; exact ⟨h1, h2⟩
    · intro ⟨u, v⟩
      have e1 : a.log2 < n + 1 := (Nat.log2_lt h).2 v
      have e2 : n ≤ a.log2 := (Nat.le_log2 h).2 u
      omega
theorem len_pos {a : Nat} (h : a ≠ 0) : ∃ n, len a = n + 1 := ⟨a.log2, by simp [len, h]⟩
theorem len_le {a n : Nat} (h : a < 2 ^ n) : len a ≤ n := by
  by_cases z : a = 0
  · subst z; simp [len]
  · obtain ⟨m, hm⟩ := len_pos z
    rw [hm]
    have := (len_iff.1 hm).1
    apply Nat.lt_of_not_le
    intro c
    have := Nat.pow_le_pow_right (n := 2) (by omega) c
    have := Nat.pow_le_pow_right (n := 2) (by omega) (show n ≤ m + 1 - 1 from by omega)
    rw [Nat.add_sub_cancel] at this
    omega
theorem lt_of_len {a n : Nat} (h : len a ≤ n) : a < 2 ^ n := by
  by_cases z : a = 0
  · subst z; exact Nat.two_pow_pos n
  · obtain ⟨m, hm⟩ := len_pos z
    have := (len_iff.1 hm).2
    exact Nat.lt_of_lt_of_le this (Nat.pow_le_pow_right (by omega) (by omega))
theorem len_shift {a s : Nat} (h : a / 2 ^ s ≠ 0) : len a = s + len (a / 2 ^ s) := by
  obtain ⟨n, hn⟩ := len_pos h
  rw [hn]
  obtain ⟨u, v⟩ := len_iff.1 hn
  have hp := Nat.two_pow_pos s
  show len a = (s + n) + 1
  rw [len_iff, Nat.pow_add, show s + n + 1 = s + (n + 1) from rfl, Nat.pow_add 2 s]
  constructor
  · calc 2 ^ s * 2 ^ n ≤ 2 ^ s * (a / 2 ^ s) := Nat.mul_le_mul_left _ u
      _ ≤ a := Nat.mul_div_le _ _
  · rw [Nat.mul_comm]; exact (Nat.div_lt_iff_lt_mul hp).1 v
def tab : ByteArray := ⟨#[0, 1, 2, 2, 3, 3, 3, 3, 4, 4, 4, 4, 4, 4, 4, 4, 5, 5, 5, 5, 5, 5, 5, 5, 5, 5, 5, 5, 5, 5, 5, 5, 6, 6, 6, 6, 6, 6, 6, 6, 6, 6, 6, 6, 6, 6, 6, 6, 6, 6, 6, 6, 6, 6, 6, 6, 6, 6, 6, 6, 6, 6, 6, 6, 7, 7, 7, 7, 7, 7, 7, 7, 7, 7, 7, 7, 7, 7, 7, 7, 7, 7, 7, 7, 7, 7, 7, 7, 7, 7, 7, 7, 7, 7, 7, 7, 7, 7, 7, 7, 7, 7, 7, 7, 7, 7, 7, 7, 7, 7, 7, 7, 7, 7, 7, 7, 7, 7, 7, 7, 7, 7, 7, 7, 7, 7, 7, 7, 8, 8, 8, 8, 8, 8, 8, 8, 8, 8, 8, 8, 8, 8, 8, 8, 8, 8, 8, 8, 8, 8, 8, 8, 8, 8, 8, 8, 8, 8, 8, 8, 8, 8, 8, 8, 8, 8, 8, 8, 8, 8, 8, 8, 8, 8, 8, 8, 8, 8, 8, 8, 8, 8, 8, 8, 8, 8, 8, 8, 8, 8, 8, 8, 8, 8, 8, 8, 8, 8, 8, 8, 8, 8, 8, 8, 8, 8, 8, 8, 8, 8, 8, 8, 8, 8, 8, 8, 8, 8, 8, 8, 8, 8, 8, 8, 8, 8, 8, 8, 8, 8, 8, 8, 8, 8, 8, 8, 8, 8, 8, 8, 8, 8, 8, 8, 8, 8, 8, 8, 8, 8, 8, 8, 8, 8, 8, 8]⟩
theorem tab_all : ∀ c : Fin 256, bt tab ((c.val : Nat) : Int) = ((len c.val : Nat) : Int) := by decide +kernel
theorem tab_len {e : Int} {c : Nat} (he : e = (c : Int)) (h : c < 256) : wrap64 (bt (⟨#[0, 1, 2, 2, 3, 3, 3, 3, 4, 4, 4, 4, 4, 4, 4, 4, 5, 5, 5, 5, 5, 5, 5, 5, 5, 5, 5, 5, 5, 5, 5, 5, 6, 6, 6, 6, 6, 6, 6, 6, 6, 6, 6, 6, 6, 6, 6, 6, 6, 6, 6, 6, 6, 6, 6, 6, 6, 6, 6, 6, 6, 6, 6, 6, 7, 7, 7, 7, 7, 7, 7, 7, 7, 7, 7, 7, 7, 7, 7, 7, 7, 7, 7, 7, 7, 7, 7, 7, 7, 7, 7, 7, 7, 7, 7, 7, 7, 7, 7, 7, 7, 7, 7, 7, 7, 7, 7, 7, 7, 7, 7, 7, 7, 7, 7, 7, 7, 7, 7, 7, 7, 7, 7, 7, 7, 7, 7, 7, 8, 8, 8, 8, 8, 8, 8, 8, 8, 8, 8, 8, 8, 8, 8, 8, 8, 8, 8, 8, 8, 8, 8, 8, 8, 8, 8, 8, 8, 8, 8, 8, 8, 8, 8, 8, 8, 8, 8, 8, 8, 8, 8, 8, 8, 8, 8, 8, 8, 8, 8, 8, 8, 8, 8, 8, 8, 8, 8, 8, 8, 8, 8, 8, 8, 8, 8, 8, 8, 8, 8, 8, 8, 8, 8, 8, 8, 8, 8, 8, 8, 8, 8, 8, 8, 8, 8, 8, 8, 8, 8, 8, 8, 8, 8, 8, 8, 8, 8, 8, 8, 8, 8, 8, 8, 8, 8, 8, 8, 8, 8, 8, 8, 8, 8, 8, 8, 8, 8, 8, 8, 8, 8, 8, 8, 8, 8, 8]⟩ : ByteArray) e) = ((len c : Nat) : Int) := by
  subst he
  have g : bt tab (c : Int) = ((len c : Nat) : Int) := tab_all ⟨c, h⟩
  have b : len c ≤ 8 := len_le (by omega)
  have g' : bt (⟨#[0, 1, 2, 2, 3, 3, 3, 3, 4, 4, 4, 4, 4, 4, 4, 4, 5, 5, 5, 5, 5, 5, 5, 5, 5, 5, 5, 5, 5, 5, 5, 5, 6, 6, 6, 6, 6, 6, 6, 6, 6, 6, 6, 6, 6, 6, 6, 6, 6, 6, 6, 6, 6, 6, 6, 6, 6, 6, 6, 6, 6, 6, 6, 6, 7, 7, 7, 7, 7, 7, 7, 7, 7, 7, 7, 7, 7, 7, 7, 7, 7, 7, 7, 7, 7, 7, 7, 7, 7, 7, 7, 7, 7, 7, 7, 7, 7, 7, 7, 7, 7, 7, 7, 7, 7, 7, 7, 7, 7, 7, 7, 7, 7, 7, 7, 7, 7, 7, 7, 7, 7, 7, 7, 7, 7, 7, 7, 7, 8, 8, 8, 8, 8, 8, 8, 8, 8, 8, 8, 8, 8, 8, 8, 8, 8, 8, 8, 8, 8, 8, 8, 8, 8, 8, 8, 8, 8, 8, 8, 8, 8, 8, 8, 8, 8, 8, 8, 8, 8, 8, 8, 8, 8, 8, 8, 8, 8, 8, 8, 8, 8, 8, 8, 8, 8, 8, 8, 8, 8, 8, 8, 8, 8, 8, 8, 8, 8, 8, 8, 8, 8, 8, 8, 8, 8, 8, 8, 8, 8, 8, 8, 8, 8, 8, 8, 8, 8, 8, 8, 8, 8, 8, 8, 8, 8, 8, 8, 8, 8, 8, 8, 8, 8, 8, 8, 8, 8, 8, 8, 8, 8, 8, 8, 8, 8, 8, 8, 8, 8, 8, 8, 8, 8, 8, 8, 8]⟩ : ByteArray) (c : Int) = ((len c : Nat) : Int) := g
  rw [g', wrap64_id (by omega) (by omega)]
/-- m's degree is d -/
def Deg (m d : Nat) : Prop := 2 ^ d ≤ m ∧ m < 2 ^ (d + 1)
theorem Deg.ofLen {m d : Nat} (h : len m = d + 1) : Deg m d := len_iff.1 h
theorem Deg.len {m d : Nat} (h : Deg m d) : len m = d + 1 := len_iff.2 h
theorem Deg.lt {m d : Nat} (h : Deg m d) (hm : m < 2 ^ 64) : d < 64 := by
  have h1 := h.1
  apply Nat.lt_of_not_le
  intro c
  have := Nat.pow_le_pow_right (n := 2) (by omega) c
  omega
theorem exists_deg {m : Nat} (h : m ≠ 0) : ∃ d, Deg m d := exists_top h
theorem pow64 {n : Nat} (h : n ≤ 64) : 2 ^ n ≤ 2 ^ 64 := Nat.pow_le_pow_right (by omega) h
theorem halves (b i : Nat) : b / 2 ^ i % 2 = (b.testBit i).toNat ∧ b / 2 ^ i / 2 = b / 2 ^ (i + 1) := by
  constructor
  · rw [Nat.testBit_eq_decide_div_mod_eq]
    rcases Nat.mod_two_eq_zero_or_one (b / 2 ^ i) with h | h <;> simp [h]
  · rw [Nat.pow_succ, Nat.div_div_eq_div_mul]

theorem or_new {x s : Nat} (h : x % 2 ^ (s + 1) = 0) : x ||| 2 ^ s = x + 2 ^ s ∧ (x + 2 ^ s) % 2 ^ s = 0 := by
  have e : x = 2 ^ (s + 1) * (x / 2 ^ (s + 1)) := by have := Nat.div_add_mod x (2 ^ (s + 1)); omega
  have hlt : 2 ^ s < 2 ^ (s + 1) := Nat.pow_lt_pow_right (by omega) (by omega)
  constructor
  · rw [e, ← Nat.two_pow_add_eq_or_of_lt hlt]
  · rw [e, Nat.pow_succ, Nat.mul_assoc]; simp

theorem ref_degree_loop (p : Nat) (hp : p < 2 ^ 64) : ∀ (n i : Nat), i + n = 64 →
    Ev (fun k => parapetref01_Degree.l0 k (p : Int) (((len (p % 2 ^ i) : Nat) : Int) - 1) (i : Int)) (((len p : Nat) : Int) - 1) := by
  intro n
  induction n with
  | zero =>
    intro i hi
    obtain rfl : i = 64 := by omega
    refine Ev.step (fun k => parapetref01_Degree.l0.eq_2 ..) (Ev_ite_neg (by omega) ?_)
    rw [Nat.mod_eq_of_lt hp]; exact Ev.now _
  | succ n ih =>
    intro i hi
    refine Ev.step (fun k => parapetref01_Degree.l0.eq_2 ..) (Ev_ite_pos (by omega) (Ev_ite_pos (by omega) ?_))
    have e : wrap64 ((i : Int) + 1) = ((i + 1 : Nat) : Int) := by rw [wrap64_id (by omega) (by omega)]; omega
    rw [e]
    have g := ih (i + 1) (by omega)
    have hm : p % 2 ^ (i + 1) = (p.testBit i).toNat * 2 ^ i + p % 2 ^ i := by
      have hh := (halves p i).1
      rw [Nat.pow_succ, Nat.mod_mul, hh, Nat.mul_comm]; omega
    have hlt : p % 2 ^ i < 2 ^ i := Nat.mod_lt _ (Nat.two_pow_pos i)
    by_cases c : p.testBit i = true
    · refine Ev_ite_neg (by rw [bit64_zero hp (by omega), c]; simp) ?_
      rw [c] at hm
      simp only [Bool.toNat_true, Nat.one_mul] at hm
      have : len (p % 2 ^ (i + 1)) = i + 1 := len_iff.2 ⟨by omega, Nat.mod_lt _ (Nat.two_pow_pos _)⟩
      rw [this, show (((i + 1 : Nat) : Int) - 1) = (i : Int) from by omega] at g
      exact g
    · have c' : p.testBit i = false := by simpa using c
      refine Ev_ite_pos ((bit64_zero hp (by omega)).2 c') ?_
      rw [c'] at hm
      simp only [Bool.toNat_false, Nat.zero_mul, Nat.zero_add] at hm
      rw [hm] at g
      exact g
theorem ref_degree_ev {p : Nat} (hp : p < 2 ^ 64) : Ev (fun k => parapetref01_Degree.f k (p : Int)) (((len p : Nat) : Int) - 1) := by
  have := ref_degree_loop p hp 64 0 rfl
  rwa [Nat.pow_zero, Nat.mod_one] at this
theorem ref_deg_ev {m d : Nat} (hd : Deg m d) (hm : m < 2 ^ 64) : Ev (fun k => parapetref01_Degree.f k (m : Int)) (d : Int) := by
  have := ref_degree_ev hm
  rw [hd.len, show (((d + 1 : Nat) : Int) - 1) = (d : Int) from by omega] at this
  exact this

def orAt (l : List Int) (k : Nat) : List Int := l.set (k / 8) (bits .or .u8 (rd l ((k / 8 : Nat) : Int)) (shr .u8 128 ((k % 8 : Nat) : Int)))
theorem orAt_length (l : List Int) (k : Nat) : (orAt l k).length = l.length := by unfold orAt; rw [List.length_set]
/-- the bits of a word from a place on, one after the other -/
def mkl (w s at' : Nat) : Nat → Nat → List Int → List Int
  | 0, _, l => l
  | m + 1, i, l => mkl w s at' m (i + 1) (if w.testBit (s - 1 - i) then orAt l (at' + i) else l)
theorem mkl_length (w s at' : Nat) : ∀ m i l, (mkl w s at' m i l).length = l.length := by
  intro m
  induction m with
  | zero => intro i l; rfl
  | succ m ih => intro i l; show (mkl w s at' m (i + 1) _).length = _; rw [ih]; split <;> simp [orAt_length]
theorem make_loop {w s at' : Nat} (hw : w < 2 ^ 32) (hs : s ≤ 32) (ha : at' < 1000000) : ∀ (m i : Nat) (l : List Int), i + m = s → at' + s ≤ 8 * l.length →
    Ev (fun k => burst_Make.l0 k (at' : Int) (w : Int) l (s : Int) (s : Int) (i : Int)) (mkl w s at' m i l, 0) := by
  intro m
  induction m with
  | zero =>
    intro i l hi _
    exact Ev.step (fun k => burst_Make.l0.eq_2 ..) (Ev_ite_neg (by omega) (Ev.now _))
  | succ m ih =>
    intro i l hi hl
    have hsi : i < s := by omega
    refine Ev.step (fun k => burst_Make.l0.eq_2 ..) (Ev_ite_pos (by omega) ?_)
    rw [w_sub2 hsi (by omega), w_succ (by omega), w_add (by omega), w_div8 (by omega), t_mod8]
    refine Ev_ite_pos (by omega) ?_
    by_cases c : w.testBit (s - 1 - i) = true
    · refine Ev_ite_neg (by rw [bit32_zero hw (by omega), c]; simp) (Ev_ite_pos (by omega) (Ev_ite_pos (by omega) (Ev_ite_pos (by omega) ?_)))
      rw [Int.toNat_natCast]
      have g := ih (i + 1) (orAt l (at' + i)) (by omega) (by rw [orAt_length]; exact hl)
      show Ev _ (mkl w s at' m (i + 1) (if w.testBit (s - 1 - i) then orAt l (at' + i) else l), 0)
      rw [if_pos c]; exact g
    · refine Ev_ite_pos ((bit32_zero hw (by omega)).2 (by simpa using c)) ?_
      have g := ih (i + 1) l (by omega) hl
      show Ev _ (mkl w s at' m (i + 1) (if w.testBit (s - 1 - i) then orAt l (at' + i) else l), 0)
      rw [if_neg c]; exact g
theorem len32_f {x : Nat} (hx : x < 2 ^ 32) : bits_Len32.f (x : Int) = some ((len x : Nat) : Int) := by
  unfold bits_Len32.f
  by_cases c1 : (x : Int) ≥ 65536
  · rw [if_pos c1]
    by_cases c2 : ((x : Int) / 65536) ≥ 256
    · have e : (((x : Int) / 65536) / 256) % 256 = ((x / 2 ^ 24 : Nat) : Int) := by omega
      have b : len (x / 2 ^ 24) ≤ 8 := len_le (by omega)
      rw [if_pos c2, if_pos (by omega), if_pos (by omega), tab_len e (by omega), wrap64_id (by omega) (by omega), len_shift (a := x) (s := 24) (by omega)]
      congr 1
    · have e : ((x : Int) / 65536) % 256 = ((x / 2 ^ 16 : Nat) : Int) := by omega
      have b : len (x / 2 ^ 16) ≤ 8 := len_le (by omega)
      rw [if_neg c2, if_pos (by omega), if_pos (by omega), tab_len e (by omega), wrap64_id (by omega) (by omega), len_shift (a := x) (s := 16) (by omega)]
      congr 1
  · rw [if_neg c1]
    by_cases c2 : (x : Int) ≥ 256
    · have e : ((x : Int) / 256) % 256 = ((x / 2 ^ 8 : Nat) : Int) := by omega
      have b : len (x / 2 ^ 8) ≤ 8 := len_le (by omega)
      rw [if_pos c2, if_pos (by omega), if_pos (by omega), tab_len e (by omega), wrap64_id (by omega) (by omega), len_shift (a := x) (s := 8) (by omega)]
      congr 1
    · have e : (x : Int) % 256 = (x : Int) := by omega
      have b : len x ≤ 8 := len_le (by omega)
      rw [if_neg c2, if_pos (by omega), if_pos (by omega), e, tab_len rfl (by omega), wrap64_id (by omega) (by omega)]
      congr 1; omega
/-- what Make answers -/
theorem make_ev (n at' : Int) {w : Nat} (hw : w < 2 ^ 32) (hn : -9223372036854775808 ≤ n ∧ n < 9223372036854775808) :
    ((n < 0 ∨ n > 65536) ∧ Ev (fun k => burst_Make.f k n at' (w : Int)) ([], 2)) ∨
    (0 ≤ n ∧ n ≤ 65536 ∧ (w = 0 ∨ at' < 0 ∨ at' > 8 * n - (len w : Nat)) ∧ Ev (fun k => burst_Make.f k n at' (w : Int)) ([], 30)) ∨
    (∃ N A : Nat, n = (N : Int) ∧ at' = (A : Int) ∧ N ≤ 65536 ∧ w ≠ 0 ∧ A + len w ≤ 8 * N ∧ Ev (fun k => burst_Make.f k n at' (w : Int)) (mkl w (len w) A (len w) 0 (List.replicate N 0), 0)) := by
  have hlw := len_le hw
  unfold burst_Make.f
  by_cases c1 : n < 0
  · exact .inl ⟨.inl c1, Ev_ite_pos c1 (Ev.step (fun _ => burst_Make.j0.eq_2 ..) (Ev_ite_pos rfl (Ev.now _)))⟩
  by_cases c2 : n > 65536
  · refine .inl ⟨.inr c2, Ev_ite_neg c1 ?_⟩
    rw [decide_eq_true c2]
    exact Ev.step (fun _ => burst_Make.j0.eq_2 ..) (Ev_ite_pos rfl (Ev.now _))
  obtain ⟨N, rfl⟩ : ∃ N : Nat, n = (N : Int) := ⟨n.toNat, by omega⟩
  have no : Ev (fun k => burst_Make.j1 k (N : Int) at' (w : Int) true) ([], 30) := Ev.step (fun _ => burst_Make.j1.eq_2 ..) (Ev_ite_pos rfl (Ev.now _))
  by_cases z : w = 0
  · subst z
    refine .inr (.inl ⟨by omega, by omega, .inl rfl, Ev_ite_neg c1 ?_⟩)
    rw [decide_eq_false c2]
    exact Ev.step (fun _ => burst_Make.j0.eq_2 ..) (Ev_ite_neg (by simp) (Ev_ite_pos rfl no))
  by_cases c3 : at' < 0
  · refine .inr (.inl ⟨by omega, by omega, .inr (.inl c3), Ev_ite_neg c1 ?_⟩)
    rw [decide_eq_false c2]
    exact Ev.step (fun _ => burst_Make.j0.eq_2 ..) (Ev_ite_neg (by simp) (Ev_ite_neg (by omega) (Ev_ite_pos c3 no)))
  have e1 : wrap64 (wrap64 (8 * (N : Int)) - ((len w : Nat) : Int)) = 8 * (N : Int) - ((len w : Nat) : Int) := by
    rw [wrap64_id (n := 8 * (N : Int)) (by omega) (by omega), wrap64_id (by omega) (by omega)]
  by_cases c4 : at' > 8 * (N : Int) - ((len w : Nat) : Int)
  · refine .inr (.inl ⟨by omega, by omega, .inr (.inr c4), Ev_ite_neg c1 ?_⟩)
    rw [decide_eq_false c2]
    refine Ev.step (fun _ => burst_Make.j0.eq_2 ..) (Ev_ite_neg (by simp) (Ev_ite_neg (by omega) (Ev_ite_neg c3 ?_)))
    rw [len32_f hw]
    refine Ev_some ?_
    rw [e1, decide_eq_true c4]; exact no
  obtain ⟨A, rfl⟩ : ∃ A : Nat, at' = (A : Int) := ⟨at'.toNat, by omega⟩
  refine .inr (.inr ⟨N, A, rfl, rfl, by omega, z, by omega, Ev_ite_neg c1 ?_⟩)
  rw [decide_eq_false c2]
  refine Ev.step (fun _ => burst_Make.j0.eq_2 ..) (Ev_ite_neg (by simp) (Ev_ite_neg (by omega) (Ev_ite_neg c3 ?_)))
  rw [len32_f hw]
  refine Ev_some ?_
  rw [e1, decide_eq_false c4]
  clear e1
  refine Ev.step (fun _ => burst_Make.j1.eq_2 ..) (Ev_ite_neg (by simp) (Ev_ite_pos (by omega) (Ev_ite_pos (by omega) ?_)))
  rw [len32_f hw, Int.toNat_natCast]
  refine Ev_some ?_
  exact make_loop hw (by omega) (by omega) (len w) 0 (List.replicate N 0) (by omega) (by simp; omega)

def xb (x y : Int) : Int := bits .xor .u8 x y
theorem xb_nat {x y : Int} (hx : 0 ≤ x ∧ x < 256) (hy : 0 ≤ y ∧ y < 256) : xb x y = ((x.toNat ^^^ y.toNat : Nat) : Int) := by
  obtain ⟨a, rfl⟩ := Int.eq_ofNat_of_zero_le hx.1
  obtain ⟨b, rfl⟩ := Int.eq_ofNat_of_zero_le hy.1
  exact u8_xor_nat a b (by omega) (by omega)
theorem xb_byte {x y : Int} (hx : 0 ≤ x ∧ x < 256) (hy : 0 ≤ y ∧ y < 256) : 0 ≤ xb x y ∧ xb x y < 256 := by
  rw [xb_nat hx hy]
  have : x.toNat ^^^ y.toNat < 2 ^ 8 := Nat.xor_lt_two_pow (by omega) (by omega)
  omega
theorem xb_comm {x y : Int} (hx : 0 ≤ x ∧ x < 256) (hy : 0 ≤ y ∧ y < 256) : xb x y = xb y x := by rw [xb_nat hx hy, xb_nat hy hx, Nat.xor_comm]
theorem xb_assoc {x y z : Int} (hx : 0 ≤ x ∧ x < 256) (hy : 0 ≤ y ∧ y < 256) (hz : 0 ≤ z ∧ z < 256) : xb (xb x y) z = xb x (xb y z) := by
  rw [xb_nat (xb_byte hx hy) hz, xb_nat hx (xb_byte hy hz), xb_nat hx hy, xb_nat hy hz, Int.toNat_natCast, Int.toNat_natCast, Nat.xor_assoc]
theorem xb_self {x : Int} (hx : 0 ≤ x ∧ x < 256) : xb x x = 0 := by rw [xb_nat hx hx, Nat.xor_self]; rfl
theorem xb_zero {x : Int} (hx : 0 ≤ x ∧ x < 256) : xb x 0 = x := by rw [xb_nat hx (by omega)]; simp; omega
/-- the bytes' sums -/
def xl (a b : List Int) : List Int := List.zipWith xb a b
theorem xl_length (a b : List Int) (h : a.length = b.length) : (xl a b).length = a.length := by simp [xl, h]
theorem xl_by : ∀ {a b : List Int}, By a → By b → By (xl a b) := by
  intro a
  induction a with
  | nil => intro b _ _ x hx; simp [xl] at hx
  | cons c a ih =>
    intro b ha hb
    cases b with
    | nil => intro x hx; simp [xl] at hx
    | cons d b =>
      intro x hx
      rcases List.mem_cons.1 hx with rfl | hx
      · exact xb_byte ha.head hb.head
      · exact ih ha.tail hb.tail x hx
theorem xl_comm : ∀ {a b : List Int}, By a → By b → xl a b = xl b a := by
  intro a
  induction a with
  | nil => intro b _ _; cases b <;> rfl
  | cons c a ih =>
    intro b ha hb
    cases b with
    | nil => rfl
    | cons d b =>
      show xb c d :: xl a b = xb d c :: xl b a
      rw [xb_comm ha.head hb.head, ih ha.tail hb.tail]
theorem xl_assoc : ∀ {a b c : List Int}, By a → By b → By c → xl (xl a b) c = xl a (xl b c) := by
  intro a
  induction a with
  | nil => intro b c _ _ _; rfl
  | cons x a ih =>
    intro b c ha hb hc
    cases b with
    | nil => rfl
    | cons y b =>
      cases c with
      | nil => rfl
      | cons z c =>
        show xb (xb x y) z :: xl (xl a b) c = xb x (xb y z) :: xl a (xl b c)
        rw [xb_assoc ha.head hb.head hc.head, ih ha.tail hb.tail hc.tail]
theorem xl_self : ∀ {a : List Int}, By a → xl a a = List.replicate a.length 0 := by
  intro a
  induction a with
  | nil => intro _; rfl
  | cons x a ih =>
    intro ha
    show xb x x :: xl a a = _
    rw [xb_self ha.head, ih ha.tail]; rfl
theorem xl_zero : ∀ {a : List Int}, By a → xl a (List.replicate a.length 0) = a := by
  intro a
  induction a with
  | nil => intro _; rfl
  | cons x a ih =>
    intro ha
    show xb x 0 :: xl a (List.replicate a.length 0) = _
    rw [xb_zero ha.head, ih ha.tail]
theorem xl_back {a b : List Int} (ha : By a) (hb : By b) (h : a.length = b.length) : xl (xl a b) b = a := by
  rw [xl_assoc ha hb hb, xl_self hb, ← h, xl_zero ha]
theorem by_take {l : List Int} (h : By l) (n : Nat) : By (l.take n) := fun x hx => h x (List.mem_of_mem_take hx)
theorem by_zeros (n : Nat) : By (List.replicate n 0) := by intro x hx; have := List.eq_of_mem_replicate hx; omega
theorem xl_snoc {a1 b1 : List Int} (h : a1.length = b1.length) (c d : Int) : xl (a1 ++ [c]) (b1 ++ [d]) = xl a1 b1 ++ [xb c d] := by
  unfold xl
  rw [List.zipWith_append h]; rfl
theorem set_mid (L : List Int) (x v : Int) (R : List Int) : (L ++ x :: R).set L.length v = L ++ v :: R := by
  rw [List.set_append_right _ _ (Nat.le_refl _), Nat.sub_self]; rfl

theorem turn_loop : ∀ (a2 b2 a1 b1 : List Int), a1.length = b1.length → a2.length = b2.length → (a1 ++ a2).length ≤ 140737488355328 →
    Ev (fun k => burst_Turn.l0 k (a1 ++ a2) (b1 ++ b2) (xl a1 b1 ++ List.replicate a2.length 0) ((a1 ++ a2).length : Int) (a1.length : Int)) (xl (a1 ++ a2) (b1 ++ b2), 0) := by
  intro a2
  induction a2 with
  | nil =>
    intro b2 a1 b1 h1 h2 _
    have : b2 = [] := List.length_eq_zero_iff.1 (by simpa using h2.symm)
    subst this
    refine Ev.step (fun k => burst_Turn.l0.eq_2 ..) (Ev_ite_neg (by simp) ?_)
    simp only [List.append_nil, List.length_nil, List.replicate_zero]
    exact Ev.now _
  | cons c a2 ih =>
    intro b2 a1 b1 h1 h2 hl
    cases b2 with
    | nil => simp at h2
    | cons d b2 =>
      have h2' : a2.length = b2.length := by simpa using h2
      have g := ih b2 (a1 ++ [c]) (b1 ++ [d]) (by simp [h1]) h2' (by simpa using hl)
      have hlt : ((a1.length : Nat) : Int) < ((a1 ++ c :: a2).length : Int) := by simp; omega
      have hlt2 : ((a1.length : Nat) : Int) < ((b1 ++ d :: b2).length : Int) := by simp; omega
      have hxl := xl_length a1 b1 h1
      refine Ev.step (fun k => burst_Turn.l0.eq_2 ..) (Ev_ite_pos hlt (Ev_ite_pos (by omega) (Ev_ite_pos hlt (Ev_ite_pos hlt2 (Ev_ite_pos (by simp [hxl]; omega) ?_)))))
      have e1 : rd (b1 ++ d :: b2) (a1.length : Int) = d := by rw [h1]; exact rd_at b1 d b2
      have e2 : (xl a1 b1 ++ List.replicate (c :: a2).length 0).set ((a1.length : Nat) : Int).toNat (Go.bits .xor .u8 c d) = xl (a1 ++ [c]) (b1 ++ [d]) ++ List.replicate a2.length 0 := by
        rw [Int.toNat_natCast, ← hxl, List.length_cons, List.replicate_succ, set_mid, xl_snoc h1, List.append_assoc]; rfl
      rw [rd_at, e1, e2, w_succ (by simp at hl; omega)]
      have e3 : ((a1 ++ [c]).length : Int) = ((a1.length + 1 : Nat) : Int) := by simp
      rw [List.append_assoc, List.append_assoc, List.singleton_append, List.singleton_append, e3] at g
      exact g
theorem turn_ev {a b : List Int} (h : a.length = b.length) (hl : a.length ≤ 140737488355328) : Ev (fun k => burst_Turn.f k a b) (xl a b, 0) := by
  unfold burst_Turn.f
  refine Ev_ite_pos (by omega) (Ev_ite_pos (by omega) (Ev_ite_pos (by omega) ?_))
  exact turn_loop a b [] [] rfl h hl

theorem rturn_loop : ∀ (a2 b2 a1 b1 : List Int), a1.length = b1.length → a2.length = b2.length → (a1 ++ a2).length ≤ 140737488355328 →
    Ev (fun k => parapetref03_Turn.l0 k (a1 ++ a2) (b1 ++ b2) (xl a1 b1 ++ List.replicate a2.length 0) (a1.length : Int)) (xl (a1 ++ a2) (b1 ++ b2), 0) := by
  intro a2
  induction a2 with
  | nil =>
    intro b2 a1 b1 h1 h2 _
    have : b2 = [] := List.length_eq_zero_iff.1 (by simpa using h2.symm)
    subst this
    refine Ev.step (fun k => parapetref03_Turn.l0.eq_2 ..) (Ev_ite_neg (by simp) ?_)
    simp only [List.append_nil, List.length_nil, List.replicate_zero]
    exact Ev.now _
  | cons c a2 ih =>
    intro b2 a1 b1 h1 h2 hl
    cases b2 with
    | nil => simp at h2
    | cons d b2 =>
      have h2' : a2.length = b2.length := by simpa using h2
      have g := ih b2 (a1 ++ [c]) (b1 ++ [d]) (by simp [h1]) h2' (by simpa using hl)
      have hlt : ((a1.length : Nat) : Int) < ((a1 ++ c :: a2).length : Int) := by simp; omega
      have hlt2 : ((a1.length : Nat) : Int) < ((b1 ++ d :: b2).length : Int) := by simp; omega
      have hxl := xl_length a1 b1 h1
      refine Ev.step (fun k => parapetref03_Turn.l0.eq_2 ..) (Ev_ite_pos hlt (Ev_ite_pos (by omega) (Ev_ite_pos hlt2 (Ev_ite_pos (by simp [hxl]; omega) ?_))))
      have e1 : rd (b1 ++ d :: b2) (a1.length : Int) = d := by rw [h1]; exact rd_at b1 d b2
      have e2 : (xl a1 b1 ++ List.replicate (c :: a2).length 0).set ((a1.length : Nat) : Int).toNat (Go.bits .xor .u8 c d) = xl (a1 ++ [c]) (b1 ++ [d]) ++ List.replicate a2.length 0 := by
        rw [Int.toNat_natCast, ← hxl, List.length_cons, List.replicate_succ, set_mid, xl_snoc h1, List.append_assoc]; rfl
      rw [rd_at, e1, e2, w_succ (by simp at hl; omega)]
      have e3 : ((a1 ++ [c]).length : Int) = ((a1.length + 1 : Nat) : Int) := by simp
      rw [List.append_assoc, List.append_assoc, List.singleton_append, List.singleton_append, e3] at g
      exact g
theorem rturn_ev {a b : List Int} (h : a.length = b.length) (hl : a.length ≤ 140737488355328) : Ev (fun k => parapetref03_Turn.f k a b) (xl a b, 0) := by
  unfold parapetref03_Turn.f
  refine Ev_ite_pos (by omega) (Ev_ite_pos (by omega) (Ev_ite_pos (by omega) ?_))
  exact rturn_loop a b [] [] rfl h hl

theorem awake_ev : Ev (fun k => parapetlaw03_Awake.f k) true := Ev.of parapetlaw03_Awake.mono (k := 60) (by decide +kernel)

/-- how many of the lowest n bits are 1 -/
def wt : Nat → Nat → Nat
  | 0, _ => 0
  | n + 1, x => x % 2 + wt n (x / 2)
theorem wt_zero (n : Nat) : wt n 0 = 0 := by
  induction n with
  | zero => rfl
  | succ n ih => show 0 % 2 + wt n (0 / 2) = 0; rw [Nat.zero_mod, Nat.zero_div, ih]
theorem wt_add (a b x : Nat) : wt (a + b) x = wt a x + wt b (x / 2 ^ a) := by
  induction a generalizing x with
  | zero => simp [wt]
  | succ a ih =>
    rw [show a + 1 + b = (a + b) + 1 from by omega]
    show x % 2 + wt (a + b) (x / 2) = x % 2 + wt a (x / 2) + wt b (x / 2 ^ (a + 1))
    rw [ih, Nat.div_div_eq_div_mul, ← Nat.pow_succ', Nat.add_assoc]
theorem wt_mod (a x : Nat) : wt a (x % 2 ^ a) = wt a x := by
  induction a generalizing x with
  | zero => rfl
  | succ a ih =>
    show x % 2 ^ (a + 1) % 2 + wt a (x % 2 ^ (a + 1) / 2) = x % 2 + wt a (x / 2)
    have e1 : x % 2 ^ (a + 1) % 2 = x % 2 := by
      rw [Nat.pow_succ, Nat.mul_comm]; exact Nat.mod_mul_right_mod x 2 (2 ^ a)
    have e2 : x % 2 ^ (a + 1) / 2 = (x / 2) % 2 ^ a := by
      rw [Nat.pow_succ, Nat.mul_comm, Nat.mod_mul_right_div_self]
    rw [e1, e2, ih]
theorem wt_bytes (n x : Nat) : wt (8 + n) x = wt 8 (x % 256) + wt n (x / 256) := by
  rw [wt_add, ← wt_mod 8 x]
/-- a byte by byte map of the lowest n bytes -/
def mapB (f : Nat → Nat) : Nat → Nat → Nat
  | 0, _ => 0
  | n + 1, x => f (x % 256) + 256 * mapB f n (x / 256)
def maskN (m : Nat) : Nat → Nat
  | 0 => 0
  | n + 1 => m + 256 * maskN m n
theorem mapB_congr {f g : Nat → Nat} (h : ∀ b, b < 256 → f b = g b) : ∀ n x, mapB f n x = mapB g n x := by
  intro n
  induction n with
  | zero => intro x; rfl
  | succ n ih => intro x; show f _ + _ = g _ + _; rw [h _ (Nat.mod_lt _ (by omega)), ih]
theorem mapB_lt {f : Nat → Nat} (h : ∀ b, b < 256 → f b < 256) : ∀ n x, mapB f n x < 256 ^ n := by
  intro n
  induction n with
  | zero => intro x; simp [mapB]
  | succ n ih =>
    intro x
    have h1 := h (x % 256) (Nat.mod_lt _ (by omega))
    have h2 := ih (x / 256)
    rw [Nat.pow_succ]; show f _ + 256 * mapB f n _ < _
    omega
theorem mapB_comp {f g : Nat → Nat} (h : ∀ b, b < 256 → f b < 256) : ∀ n x, mapB g n (mapB f n x) = mapB (fun b => g (f b)) n x := by
  intro n
  induction n with
  | zero => intro x; rfl
  | succ n ih =>
    intro x
    have h1 := h (x % 256) (Nat.mod_lt _ (by omega))
    show g ((f _ + 256 * mapB f n _) % 256) + 256 * mapB g n ((f _ + 256 * mapB f n _) / 256) = g (f _) + 256 * mapB (fun b => g (f b)) n _
    rw [show (f (x % 256) + 256 * mapB f n (x / 256)) % 256 = f (x % 256) from by omega, show (f (x % 256) + 256 * mapB f n (x / 256)) / 256 = mapB f n (x / 256) from by omega, ih]
theorem mapB_add (f g : Nat → Nat) : ∀ n x, mapB f n x + mapB g n x = mapB (fun b => f b + g b) n x := by
  intro n
  induction n with
  | zero => intro x; rfl
  | succ n ih =>
    intro x
    show f _ + 256 * mapB f n _ + (g _ + 256 * mapB g n _) = (f _ + g _) + 256 * mapB (fun b => f b + g b) n _
    rw [← ih]; omega
theorem and_split (x y : Nat) : x &&& y = (x % 256 &&& y % 256) + 256 * (x / 256 &&& y / 256) := by
  have h1 : (x &&& y) % 2 ^ 8 = x % 2 ^ 8 &&& y % 2 ^ 8 := Nat.and_mod_two_pow
  have h2 : (x &&& y) / 2 ^ 8 = x / 2 ^ 8 &&& y / 2 ^ 8 := Nat.and_div_two_pow
  have := Nat.div_add_mod (x &&& y) 256
  rw [show (2 : Nat) ^ 8 = 256 from rfl] at h1 h2
  omega
theorem and_mask {m : Nat} (hm : m < 256) : ∀ n x, x &&& maskN m n = mapB (fun b => b &&& m) n x := by
  intro n
  induction n with
  | zero => intro x; simp [maskN, mapB]
  | succ n ih =>
    intro x
    rw [and_split]
    show (x % 256 &&& (m + 256 * maskN m n) % 256) + 256 * (x / 256 &&& (m + 256 * maskN m n) / 256) = (x % 256 &&& m) + 256 * mapB _ n _
    rw [show (m + 256 * maskN m n) % 256 = m from by omega, show (m + 256 * maskN m n) / 256 = maskN m n from by omega, ih]
theorem and_mask_shift {m k : Nat} (hm : m < 256) (hk : ∀ y, y < 256 * 2 ^ k → (y / 2 ^ k) &&& m = (y % 256 / 2 ^ k) &&& m) : ∀ n x, (x / 2 ^ k) &&& maskN m n = mapB (fun b => (b / 2 ^ k) &&& m) n x := by
  intro n
  induction n with
  | zero => intro x; simp [maskN, mapB]
  | succ n ih =>
    intro x
    rw [and_split]
    show (x / 2 ^ k % 256 &&& (m + 256 * maskN m n) % 256) + 256 * (x / 2 ^ k / 256 &&& (m + 256 * maskN m n) / 256) = ((x % 256 / 2 ^ k) &&& m) + 256 * mapB _ n _
    rw [show (m + 256 * maskN m n) % 256 = m from by omega, show (m + 256 * maskN m n) / 256 = maskN m n from by omega, Nat.div_div_eq_div_mul, Nat.mul_comm (2 ^ k), ← Nat.div_div_eq_div_mul, ih]
    congr 1
    have h1 := hk (x % (256 * 2 ^ k)) (Nat.mod_lt _ (Nat.mul_pos (by omega) (Nat.two_pow_pos k)))
    rw [Nat.mod_mul_right_mod] at h1
    rw [← h1, Nat.mul_comm 256, Nat.mod_mul_right_div_self]
def A8 (b : Nat) : Nat := ((b / 2 ^ 1) &&& 85) + (b &&& 85)
def B8 (b : Nat) : Nat := ((b / 2 ^ 2) &&& 51) + (b &&& 51)
theorem swar1 (x : Nat) : (x / 2 &&& 6148914691236517205) + (x &&& 6148914691236517205) = mapB A8 8 x := by
  have hm : maskN 85 8 = 6148914691236517205 := by decide
  have h1 := and_mask_shift (m := 85) (k := 1) (by omega) (by decide +kernel) 8 x
  have h2 := and_mask (m := 85) (by omega) 8 x
  rw [hm] at h1 h2
  rw [Nat.pow_one] at h1
  rw [h1, h2, mapB_add]; rfl
theorem swar2 (x : Nat) : (x / 4 &&& 3689348814741910323) + (x &&& 3689348814741910323) = mapB B8 8 x := by
  have hm : maskN 51 8 = 3689348814741910323 := by decide
  have h1 := and_mask_shift (m := 51) (k := 2) (by omega) (by decide +kernel) 8 x
  have h2 := and_mask (m := 51) (by omega) 8 x
  rw [hm] at h1 h2
  rw [show (4 : Nat) = 2 ^ 2 from rfl, h1, h2, mapB_add]; rfl
/-- every byte's halves are at most 4 -/
def Nib : Nat → Nat → Prop
  | 0, _ => True
  | n + 1, x => x % 16 ≤ 4 ∧ x / 16 % 16 ≤ 4 ∧ Nib n (x / 256)
theorem swar3 : ∀ n x, Nib n x → x < 256 ^ n → (x / 16 + x) &&& maskN 15 n = mapB (fun b => (b / 16 + b) % 16) n x := by
  intro n
  induction n with
  | zero => intro x _ _; simp [maskN, mapB]
  | succ n ih =>
    intro x h hx
    obtain ⟨h1, h2, h3⟩ := h
    have h5 : x / 256 = x / 16 / 16 := by omega
    have h4 : x / 256 % 16 ≤ 4 := by
      cases n with
      | zero => rw [Nat.pow_one] at hx; omega
      | succ n => exact h3.1
    rw [and_split]
    show ((x / 16 + x) % 256 &&& (15 + 256 * maskN 15 n) % 256) + 256 * ((x / 16 + x) / 256 &&& (15 + 256 * maskN 15 n) / 256) = (x % 256 / 16 + x % 256) % 16 + 256 * mapB _ n _
    rw [show (15 + 256 * maskN 15 n) % 256 = 2 ^ 4 - 1 from by omega, show (15 + 256 * maskN 15 n) / 256 = maskN 15 n from by omega, show (x / 16 + x) / 256 = x / 256 / 16 + x / 256 from by omega, ih _ h3 (Nat.div_lt_of_lt_mul (by rw [Nat.pow_succ, Nat.mul_comm] at hx; exact hx)), Nat.and_two_pow_sub_one_eq_mod]
    omega
theorem nib_B : ∀ n x, Nib n (mapB (fun b => B8 (A8 b)) n x) := by
  have h : ∀ b, b < 256 → B8 (A8 b) % 16 ≤ 4 ∧ B8 (A8 b) / 16 ≤ 4 := by decide +kernel
  intro n
  induction n with
  | zero => intro x; trivial
  | succ n ih =>
    intro x
    obtain ⟨h1, h2⟩ := h (x % 256) (Nat.mod_lt _ (by omega))
    have e : mapB (fun b => B8 (A8 b)) (n + 1) x = B8 (A8 (x % 256)) + 256 * mapB (fun b => B8 (A8 b)) n (x / 256) := rfl
    rw [e]
    refine ⟨by omega, by omega, ?_⟩
    rw [show (B8 (A8 (x % 256)) + 256 * mapB (fun b => B8 (A8 b)) n (x / 256)) / 256 = mapB (fun b => B8 (A8 b)) n (x / 256) from by omega]
    exact ih _
theorem pc8 : ∀ b, b < 256 → (B8 (A8 b) / 16 + B8 (A8 b)) % 16 = wt 8 b := by decide +kernel
theorem a8_lt : ∀ b, b < 256 → A8 b < 256 := by decide +kernel
theorem b8_lt : ∀ b, b < 256 → B8 b < 256 := by decide +kernel
theorem wt8_le : ∀ b, b < 256 → wt 8 b ≤ 8 := by decide +kernel
theorem swar (x : Nat) : (mapB B8 8 (mapB A8 8 x) / 16 + mapB B8 8 (mapB A8 8 x)) &&& 1085102592571150095 = mapB (wt 8) 8 x := by
  have hm : maskN 15 8 = 1085102592571150095 := by decide
  rw [← hm, mapB_comp a8_lt]
  have h8 : ∀ b, b < 256 → B8 (A8 b) < 256 := fun b h => b8_lt _ (a8_lt b h)
  rw [swar3 8 _ (nib_B 8 x) (mapB_lt h8 8 x), mapB_comp h8]
  exact mapB_congr pc8 8 x
theorem wt_sum {x : Nat} : wt 64 x = wt 8 (x % 256) + (wt 8 (x / 256 % 256) + (wt 8 (x / 256 / 256 % 256) + (wt 8 (x / 256 / 256 / 256 % 256) + (wt 8 (x / 256 / 256 / 256 / 256 % 256) + (wt 8 (x / 256 / 256 / 256 / 256 / 256 % 256) + (wt 8 (x / 256 / 256 / 256 / 256 / 256 / 256 % 256) + wt 8 (x / 256 / 256 / 256 / 256 / 256 / 256 / 256 % 256))))))) := by
  rw [show 64 = 8 + 56 from rfl, wt_bytes, show 56 = 8 + 48 from rfl, wt_bytes, show 48 = 8 + 40 from rfl, wt_bytes, show 40 = 8 + 32 from rfl, wt_bytes, show 32 = 8 + 24 from rfl, wt_bytes, show 24 = 8 + 16 from rfl, wt_bytes, show 16 = 8 + 8 from rfl, wt_bytes, ← wt_mod 8 (x / 256 / 256 / 256 / 256 / 256 / 256 / 256)]
theorem sums1 {c a T : Nat} (hc : c ≤ 255) (h : a = c + 256 * T) : a / 256 = T := by omega
theorem sums2 {D c d A B : Nat} (hc : c ≤ 255) (hd : d ≤ 255) (h : D = c + 256 * d + 65536 * (A + B)) : D / 65536 = A + B := by omega
theorem sums3 {E a b c d A : Nat} (ha : a ≤ 255) (hb : b ≤ 255) (hc : c ≤ 255) (hd : d ≤ 255) (h : E = a + 256 * b + 65536 * c + 16777216 * d + 4294967296 * A) : E / 4294967296 = A := by omega
theorem sums4 {F s A : Nat} (hs : s ≤ 64) (h : F = s + 256 * A) : F % 128 = s := by omega
theorem up {c T a n : Nat} (hc : c ≤ 8) (hT : T ≤ n) (h : a = c + 256 * T) : a ≤ 8 + 256 * n := by omega
theorem swar_fin {c0 c1 c2 c3 c4 c5 c6 c7 C T1 T2 T3 T4 T5 T6 T7 : Nat} (l0 : c0 ≤ 8) (l1 : c1 ≤ 8) (l2 : c2 ≤ 8) (l3 : c3 ≤ 8) (l4 : c4 ≤ 8) (l5 : c5 ≤ 8) (l6 : c6 ≤ 8) (l7 : c7 ≤ 8)
    (h7 : T7 = c7) (h6 : T6 = c6 + 256 * T7) (h5 : T5 = c5 + 256 * T6) (h4 : T4 = c4 + 256 * T5) (h3 : T3 = c3 + 256 * T4) (h2 : T2 = c2 + 256 * T3) (h1 : T1 = c1 + 256 * T2) (h0 : C = c0 + 256 * T1) :
    C ≤ 578721382704613384 ∧ C / 256 = T1 ∧ (C + T1) / 65536 = T2 + T3 ∧ (C + T1 + (T2 + T3)) / 4294967296 = T4 + T5 + (T6 + T7) ∧
    (C + T1 + (T2 + T3) + (T4 + T5 + (T6 + T7))) % 128 = c0 + (c1 + (c2 + (c3 + (c4 + (c5 + (c6 + c7)))))) ∧ C + T1 + (T2 + T3) + (T4 + T5 + (T6 + T7)) < 2 ^ 63 := by
  have b7 : T7 ≤ 8 := by omega
  have b6 := up l6 b7 h6
  have b5 := up l5 b6 h5
  have b4 := up l4 b5 h4
  have b3 := up l3 b4 h3
  have b2 := up l2 b3 h2
  have b1 := up l1 b2 h1
  have b0 := up l0 b1 h0
  refine ⟨b0, sums1 (by omega) h0, sums2 (c := c0 + c1) (d := c1 + c2) (by omega) (by omega) ?_, sums3 (a := c0 + c1 + c2 + c3) (b := c1 + c2 + c3 + c4) (c := c2 + c3 + c4 + c5) (d := c3 + c4 + c5 + c6) (by omega) (by omega) (by omega) (by omega) ?_,
    sums4 (A := T1 + T2 + T3 + T4 + T5 + T6 + T7) (by omega) ?_, ?_⟩
  · rw [h0, h1, h2]; clear h0 h1 h2 h3 h4 h5 h6 h7 b0 b1 b2 b3 b4 b5 b6 b7; omega
  · have e0 : C = c0 + 256 * c1 + 65536 * c2 + 16777216 * c3 + 4294967296 * T4 := by rw [h0, h1, h2, h3]; clear h0 h1 h2 h3 h4 h5 h6 h7 b0 b1 b2 b3 b4 b5 b6 b7; omega
    have e1 : T1 = c1 + 256 * c2 + 65536 * c3 + 16777216 * c4 + 4294967296 * T5 := by rw [h1, h2, h3, h4]; clear h0 h1 h2 h3 h4 h5 h6 h7 b0 b1 b2 b3 b4 b5 b6 b7; omega
    have e2 : T2 = c2 + 256 * c3 + 65536 * c4 + 16777216 * c5 + 4294967296 * T6 := by rw [h2, h3, h4, h5]; clear h0 h1 h2 h3 h4 h5 h6 h7 b0 b1 b2 b3 b4 b5 b6 b7; omega
    have e3 : T3 = c3 + 256 * c4 + 65536 * c5 + 16777216 * c6 + 4294967296 * T7 := by rw [h3, h4, h5, h6]; clear h0 h1 h2 h3 h4 h5 h6 h7 b0 b1 b2 b3 b4 b5 b6 b7; omega
    rw [e0, e1, e2, e3]; clear h0 h1 h2 h3 h4 h5 h6 h7 b0 b1 b2 b3 b4 b5 b6 b7; omega
  · rw [h0]
    have e : T1 + (T2 + T3) + (T4 + T5 + (T6 + T7)) = c1 + c2 + c3 + c4 + c5 + c6 + c7 + 256 * (T2 + T3 + T4 + T5 + T6 + T7) := by
      conv => lhs; rw [h1, h2, h3, h4, h5, h6, h7]
      conv => rhs; rw [h2, h3, h4, h5, h6, h7]
      clear h0 h1 h2 h3 h4 h5 h6 h7 b0 b1 b2 b3 b4 b5 b6 b7; omega
    clear h0 h1 h2 h3 h4 h5 h6 h7 b0 b1 b2 b3 b4 b5 b6 b7; omega
  · clear h0 h1 h2 h3 h4 h5 h6 h7; omega
/-- the last three sums -/
theorem swar_end {x C : Nat} (hC : C = mapB (wt 8) 8 x) : C ≤ 578721382704613384 ∧ C + C / 256 + (C + C / 256) / 65536 + (C + C / 256 + (C + C / 256) / 65536) / 4294967296 < 2 ^ 63 ∧
    (C + C / 256 + (C + C / 256) / 65536 + (C + C / 256 + (C + C / 256) / 65536) / 4294967296) % 128 = wt 64 x := by
  have h := swar_fin (wt8_le (x % 256) (Nat.mod_lt _ (by omega))) (wt8_le (x / 256 % 256) (Nat.mod_lt _ (by omega))) (wt8_le (x / 256 / 256 % 256) (Nat.mod_lt _ (by omega))) (wt8_le (x / 256 / 256 / 256 % 256) (Nat.mod_lt _ (by omega)))
    (wt8_le (x / 256 / 256 / 256 / 256 % 256) (Nat.mod_lt _ (by omega))) (wt8_le (x / 256 / 256 / 256 / 256 / 256 % 256) (Nat.mod_lt _ (by omega))) (wt8_le (x / 256 / 256 / 256 / 256 / 256 / 256 % 256) (Nat.mod_lt _ (by omega))) (wt8_le (x / 256 / 256 / 256 / 256 / 256 / 256 / 256 % 256) (Nat.mod_lt _ (by omega)))
    rfl rfl rfl rfl rfl rfl rfl (C := C) hC
  obtain ⟨g0, g1, g2, g3, g4, g5⟩ := h
  rw [← wt_sum] at g4
  rw [g1, g2, g3]
  exact ⟨g0, g5, g4⟩

theorem or_shift (a b n : Nat) : (a ||| b) * 2 ^ n = a * 2 ^ n ||| b * 2 ^ n := by
  rw [Nat.mul_comm _ (2 ^ n), Nat.mul_comm a, Nat.mul_comm b]
  apply Nat.eq_of_testBit_eq
  intro j
  rw [Nat.testBit_or, Nat.testBit_two_pow_mul, Nat.testBit_two_pow_mul, Nat.testBit_two_pow_mul, Nat.testBit_or]
  cases decide (j ≥ n) <;> simp
theorem add_or {i a b : Nat} (h : b < 2 ^ i) : a * 2 ^ i + b = a * 2 ^ i ||| b := by
  rw [Nat.mul_comm a, Nat.two_pow_add_eq_or_of_lt h]
theorem shr128 {j : Nat} (h : j < 8) : shr .u8 128 (j : Int) = ((2 ^ (7 - j) : Nat) : Int) := by
  have h1 : ∀ j : Fin 8, shr .u8 128 ((j.val : Nat) : Int) = ((2 ^ (7 - j.val) : Nat) : Int) := by decide +kernel
  exact h1 ⟨j, h⟩
theorem or_both : ∀ (l : List Int) (k : Nat), By l → k < 8 * l.length → By (orAt l k) ∧ pol (orAt l k) = pol l ||| 2 ^ (8 * l.length - 1 - k) := by
  intro l
  induction l with
  | nil => intro k _ h; simp at h
  | cons c l ih =>
    intro k hb hk
    by_cases h : k < 8
    · have e0 : k / 8 = 0 := by omega
      have e1 : k % 8 = k := by omega
      have hc := hb.head
      obtain ⟨n, rfl⟩ : ∃ n : Nat, c = (n : Int) := ⟨c.toNat, by omega⟩
      have hp : 2 ^ (7 - k) < 256 := by
        have : 2 ^ (7 - k) < 2 ^ 8 := Nat.pow_lt_pow_right (by omega) (by omega)
        simpa using this
      have hn : n < 256 := by omega
      have hx : n ||| 2 ^ (7 - k) < 256 := Nat.or_lt_two_pow (n := 8) hn hp
      have er : rd ((n : Int) :: l) ((0 : Nat) : Int) = (n : Int) := by unfold rd; simp
      have hf : orAt ((n : Int) :: l) k = ((n ||| 2 ^ (7 - k) : Nat) : Int) :: l := by
        unfold orAt
        rw [e0, e1, er, shr128 h, u8_or_nat n _ (by omega) (by omega)]
        rfl
      rw [hf]
      constructor
      · intro x hx'
        rcases List.mem_cons.1 hx' with rfl | hx'
        · omega
        · exact hb.tail x hx'
      · rw [pol_cons, pol_cons, Int.toNat_natCast, Int.toNat_natCast, add_or (pol_lt hb.tail), add_or (pol_lt hb.tail), or_shift, ← Nat.pow_add, List.length_cons]
        rw [show 7 - k + 8 * l.length = 8 * (l.length + 1) - 1 - k from by omega, Nat.or_assoc, Nat.or_assoc, Nat.or_comm (2 ^ _)]
    · have e0 : k / 8 = (k - 8) / 8 + 1 := by omega
      have e1 : k % 8 = (k - 8) % 8 := by omega
      rw [List.length_cons] at hk
      obtain ⟨h1, h2⟩ := ih (k - 8) hb.tail (by omega)
      have er : rd (c :: l) ((((k - 8) / 8 + 1 : Nat)) : Int) = rd l (((k - 8) / 8 : Nat) : Int) := by
        unfold rd; rw [Int.toNat_natCast, Int.toNat_natCast, List.getD_cons_succ]
      have hf : orAt (c :: l) k = c :: orAt l (k - 8) := by
        unfold orAt
        rw [e0, e1, er]
        rfl
      rw [hf]
      have hxl : pol l ||| 2 ^ (8 * l.length - 1 - (k - 8)) < 2 ^ (8 * l.length) := Nat.or_lt_two_pow (pol_lt hb.tail) (Nat.pow_lt_pow_right (by omega) (by omega))
      constructor
      · intro x hx'
        rcases List.mem_cons.1 hx' with rfl | hx'
        · exact hb.head
        · exact h1 x hx'
      · rw [pol_cons, pol_cons, orAt_length, h2, add_or hxl, add_or (pol_lt hb.tail), List.length_cons, Nat.or_assoc]
        rw [show 8 * l.length - 1 - (k - 8) = 8 * (l.length + 1) - 1 - k from by omega]
/-- a fact that arithmetic is not to see -/
structure Hd (p : Prop) : Prop where
  out : p
def Reads (l : List Int) (x : Nat) : Prop := By l ∧ pol l = x
theorem mkl_pol (w s at' t : Nat) : ∀ (m i : Nat) (l : List Int), i + m = s → at' + s + t = 8 * l.length → Reads l ((w / 2 ^ (s - i)) * 2 ^ (t + (s - i))) → Reads (mkl w s at' m i l) (w * 2 ^ t) := by
  intro m
  induction m with
  | zero =>
    intro i l hi hl h
    obtain rfl : i = s := by omega
    rw [Nat.sub_self, Nat.pow_zero, Nat.div_one, Nat.add_zero] at h
    exact h
  | succ m ih =>
    intro i l hi hl h
    have q1 : s - 1 - i + 1 = s - i := by omega
    have q2 : s - (i + 1) = s - 1 - i := by omega
    have q3 : 8 * l.length - 1 - (at' + i) = t + (s - 1 - i) := by omega
    have q4 : t + (s - i) = t + (s - 1 - i) + 1 := by omega
    have q5 : at' + i < 8 * l.length := by omega
    have him : i + 1 + m = s := by omega
    clear hi
    show Reads (mkl w s at' m (i + 1) (if w.testBit (s - 1 - i) then orAt l (at' + i) else l)) (w * 2 ^ t)
    refine ih (i + 1) _ him (by split <;> simp [orAt_length, hl]) ?_
    have hh := halves w (s - 1 - i)
    rw [q1] at hh
    rw [q2]
    obtain ⟨hb, hp⟩ := h
    rw [q4] at hp
    have hdiv : pol l % 2 ^ (t + (s - 1 - i) + 1) = 0 := by rw [hp]; exact Nat.mul_mod_left _ _
    have hw : w / 2 ^ (s - 1 - i) = 2 * (w / 2 ^ (s - i)) + (w.testBit (s - 1 - i)).toNat := by
      have h3 := Nat.div_add_mod (w / 2 ^ (s - 1 - i)) 2
      rw [hh.1, hh.2] at h3
      exact h3.symm
    have key : (w / 2 ^ (s - 1 - i)) * 2 ^ (t + (s - 1 - i)) = pol l + (w.testBit (s - 1 - i)).toNat * 2 ^ (t + (s - 1 - i)) := by
      rw [hw, Nat.add_mul, hp, Nat.pow_succ, Nat.mul_comm 2, Nat.mul_assoc, Nat.mul_comm 2]
    by_cases c : w.testBit (s - 1 - i) = true
    · rw [if_pos c]
      obtain ⟨g1, g2⟩ := or_both l (at' + i) hb q5
      refine ⟨g1, ?_⟩
      rw [g2, q3, (or_new hdiv).1, key, c, Bool.toNat_true, Nat.one_mul]
    · rw [if_neg c]
      have c' : w.testBit (s - 1 - i) = false := by simpa using c
      refine ⟨hb, ?_⟩
      rw [key, c', Bool.toNat_false, Nat.zero_mul, Nat.add_zero]
theorem pol_zeros (n : Nat) : pol (List.replicate n 0) = 0 := by
  induction n with
  | zero => rfl
  | succ n ih => rw [List.replicate_succ, pol_cons, ih]; simp
theorem len8_f {c : Nat} (h : c < 256) : bits_Len8.f (c : Int) = some ((len c : Nat) : Int) := by
  unfold bits_Len8.f
  rw [if_pos (by omega), if_pos (by omega), tab_len rfl h]
theorem lead8_f {c : Nat} (h : c < 256) : bits_LeadingZeros8.f (c : Int) = some ((8 - len c : Nat) : Int) := by
  have := len_le (n := 8) (a := c) h
  unfold bits_LeadingZeros8.f
  rw [len8_f h, Option.bind_some, wrap64_id (by omega) (by omega)]
  congr 1; omega
theorem first_loop : ∀ (l pre : List Int), By l → (pre ++ l).length ≤ 1000000000 → 
    Ev (fun k => burst_First.l0 k (pre ++ l) ((pre ++ l).length : Int) (pre.length : Int)) (if pol l = 0 then -1 else 8 * ((pre ++ l).length : Int) - ((len (pol l) : Nat) : Int)) := by
  intro l
  induction l with
  | nil =>
    intro pre _ _
    exact Ev.step (fun k => burst_First.l0.eq_2 ..) (Ev_ite_neg (by simp) (Ev.now _))
  | cons c l ih =>
    intro pre hb hl
    have hc := hb.head
    obtain ⟨n, rfl⟩ : ∃ n : Nat, c = (n : Int) := ⟨c.toNat, by omega⟩
    have hlt : ((pre.length : Nat) : Int) < ((pre ++ (n : Int) :: l).length : Int) := by simp; omega
    refine Ev.step (fun k => burst_First.l0.eq_2 ..) (Ev_ite_pos hlt (Ev_ite_pos (by omega) (Ev_ite_pos hlt ?_)))
    rw [rd_at]
    by_cases z : n = 0
    · subst z
      refine Ev_ite_pos rfl ?_
      have g := ih (pre ++ [((0 : Nat) : Int)]) hb.tail (by simpa using hl)
      have e : pol (((0 : Nat) : Int) :: l) = pol l := by rw [pol_cons]; simp
      have e3 : ((pre ++ [((0 : Nat) : Int)]).length : Int) = ((pre.length + 1 : Nat) : Int) := by simp
      rw [List.append_assoc, List.singleton_append, e3] at g
      rw [e, w_succ (by simp at hl; omega)]
      exact g
    · refine Ev_ite_neg (by omega) ?_
      rw [lead8_f (by omega)]
      refine Ev_some ?_
      have hp : pol ((n : Int) :: l) = n * 2 ^ (8 * l.length) + pol l := by rw [pol_cons]; simp
      have hd : pol ((n : Int) :: l) / 2 ^ (8 * l.length) = n := by
        rw [hp, Nat.mul_comm, Nat.mul_add_div (Nat.two_pow_pos _), Nat.div_eq_of_lt (pol_lt hb.tail), Nat.add_zero]
      have hlen := len_shift (a := pol ((n : Int) :: l)) (s := 8 * l.length) (by rw [hd]; exact z)
      rw [hd] at hlen
      have hz : ¬ pol ((n : Int) :: l) = 0 := by intro h; rw [h, Nat.zero_div] at hd; exact z hd.symm
      have hle := len_le (n := 8) (a := n) (by omega)
      rw [if_neg hz, hlen]
      clear hlen hz hd hp ih
      simp only [List.length_append, List.length_cons] at hl ⊢
      have e : wrap64 (wrap64 (8 * ((pre.length : Nat) : Int)) + ((8 - len n : Nat) : Int)) = 8 * ((pre.length + (l.length + 1) : Nat) : Int) - ((8 * l.length + len n : Nat) : Int) := by
        rw [wrap64_id (n := 8 * ((pre.length : Nat) : Int)) (by omega) (by omega), wrap64_id (by omega) (by omega)]; omega
      rw [e]; exact Ev.now _
theorem first_ev {l : List Int} (hb : By l) (hl : l.length ≤ 1000000000) : Ev (fun k => burst_First.f k l) (if pol l = 0 then -1 else 8 * (l.length : Int) - ((len (pol l) : Nat) : Int)) := first_loop l [] hb hl
def odds (x c : Nat) : Prop := ∃ u, x = (2 * u + 1) * 2 ^ c
theorem odd_exp : ∀ {a b : Nat} {u v : Nat}, (2 * u + 1) * 2 ^ a = (2 * v + 1) * 2 ^ b → b = a := by
  intro a
  induction a with
  | zero =>
    intro b u v h
    cases b with
    | zero => rfl
    | succ b => rw [Nat.pow_zero, Nat.mul_one, Nat.pow_succ, ← Nat.mul_assoc] at h; omega
  | succ a ih =>
    intro b u v h
    cases b with
    | zero => rw [Nat.pow_zero, Nat.mul_one, Nat.pow_succ, ← Nat.mul_assoc] at h; omega
    | succ b =>
      rw [Nat.pow_succ, Nat.pow_succ, ← Nat.mul_assoc, ← Nat.mul_assoc] at h
      rw [ih (Nat.eq_of_mul_eq_mul_right (by omega) h)]
theorem odd_arith (X Y Z V : Nat) : X * (2 * Y * Z) + (2 * V + 1) * Z = (2 * (X * Y + V) + 1) * Z := by
  have h : X * (2 * Y * Z) = 2 * (X * Y) * Z := by simp only [Nat.mul_assoc, Nat.mul_left_comm]
  rw [h, ← Nat.add_mul]
  congr 1; omega
theorem trail8 : ∀ c : Fin 256, c.val ≠ 0 → ∃ z : Fin 8, bits_TrailingZeros8.f ((c.val : Nat) : Int) = some ((z.val : Nat) : Int) ∧ c.val % 2 ^ (z.val + 1) = 2 ^ z.val := by decide +kernel
theorem last_loop (N : Nat) (hN : N ≤ 1000000000) : ∀ (m : Nat) (pre : List Int) (z : Nat) (c : Nat), pre.length = m → By pre → m + z = N → odds (pol (pre ++ List.replicate z 0)) c →
    Ev (fun k => burst_Last.l0 k (pre ++ List.replicate z 0) ((m : Int) - 1)) (8 * (N : Int) - 1 - (c : Int)) := by
  intro m
  induction m with
  | zero =>
    intro pre z c hp hb hz ho
    have : pre = [] := List.length_eq_zero_iff.1 hp
    subst this
    obtain ⟨u, hu⟩ := ho
    rw [List.nil_append, pol_zeros] at hu
    have := Nat.two_pow_pos c
    have h2 : 0 < (2 * u + 1) * 2 ^ c := Nat.mul_pos (by omega) this
    omega
  | succ m ih =>
    intro pre z c hp hb hz ho
    obtain ⟨pre', d, rfl⟩ : ∃ p d, pre = p ++ [d] := ⟨pre.dropLast, pre.getLast (by intro h; subst h; simp at hp), (List.dropLast_concat_getLast _).symm⟩
    have hpl : pre'.length = m := by simpa using hp
    have hd : 0 ≤ d ∧ d < 256 := hb d (by simp)
    obtain ⟨n, rfl⟩ : ∃ n : Nat, d = (n : Int) := ⟨d.toNat, by omega⟩
    have hb' : By pre' := fun x hx => hb x (by simp [hx])
    have e1 : ((m + 1 : Nat) : Int) - 1 = (m : Int) := by omega
    have e2 : (pre' ++ [(n : Int)] ++ List.replicate z 0) = pre' ++ (n : Int) :: List.replicate z 0 := by simp
    have hlen : (pre' ++ (n : Int) :: List.replicate z 0).length = N := by simp; omega
    rw [e1, e2]
    rw [e2] at ho
    have er : rd (pre' ++ (n : Int) :: List.replicate z 0) (m : Int) = (n : Int) := by rw [← hpl]; exact rd_at pre' _ _
    refine Ev.step (fun k => burst_Last.l0.eq_2 ..) (Ev_ite_pos (by omega) (Ev_ite_pos (by omega) (Ev_ite_pos (by omega) ?_)))
    rw [er]
    by_cases h : n = 0
    · subst h
      refine Ev_ite_pos rfl ?_
      have e3 : (pre' ++ ((0 : Nat) : Int) :: List.replicate z 0) = pre' ++ List.replicate (z + 1) 0 := by rw [List.replicate_succ]; rfl
      rw [e3] at ho ⊢
      rw [w_pred (by omega)]
      exact ih pre' (z + 1) c hpl hb' (by omega) ho
    · refine Ev_ite_neg (by omega) ?_
      obtain ⟨⟨t, ht⟩, h1, h2⟩ := trail8 ⟨n, by omega⟩ h
      simp only at h1 h2
      rw [h1]
      refine Ev_some ?_
      have hcz : c = t + 8 * z := by
        obtain ⟨u, hu⟩ := ho
        have hpol : pol (pre' ++ (n : Int) :: List.replicate z 0) = (pol pre' * 256 + n) * 2 ^ (8 * z) := by
          rw [pol_append, pol_cons, pol_zeros, List.length_cons, List.length_replicate, Int.toNat_natCast, show 8 * (z + 1) = 8 + 8 * z from by omega, Nat.pow_add 2 8]
          simp only [Nat.add_zero, Nat.add_mul, Nat.mul_assoc, show (2 : Nat) ^ 8 = 256 from rfl]
        rw [hpol] at hu
        have hn : n = (2 * (n / 2 ^ (t + 1)) + 1) * 2 ^ t := by
          have h3 := Nat.div_add_mod n (2 ^ (t + 1))
          rw [h2] at h3
          rw [Nat.add_mul, Nat.one_mul, Nat.mul_right_comm, Nat.mul_comm 2 (2 ^ t), ← Nat.pow_succ]
          exact h3.symm
        have h256 : 256 = 2 * 2 ^ (7 - t) * 2 ^ t := by rw [Nat.mul_assoc, ← Nat.pow_add, ← Nat.pow_succ', show (7 - t + t).succ = 8 from by omega]
        have hodd : pol pre' * 256 + n = (2 * (pol pre' * 2 ^ (7 - t) + n / 2 ^ (t + 1)) + 1) * 2 ^ t := by
          conv => lhs; rw [hn, h256]
          exact odd_arith _ _ _ _
        rw [hodd, Nat.mul_assoc, ← Nat.pow_add] at hu
        exact odd_exp hu
      rw [hcz]
      have e : wrap64 (wrap64 (wrap64 (8 * (m : Int)) + 7) - (t : Int)) = 8 * (N : Int) - 1 - ((t + 8 * z : Nat) : Int) := by
        clear ho h1 h2 hcz
        rw [wrap64_id (n := 8 * (m : Int)) (by omega) (by omega), wrap64_id (n := 8 * (m : Int) + 7) (by omega) (by omega), wrap64_id (by omega) (by omega)]; omega
      rw [e]; exact Ev.now _
theorem last_ev {l : List Int} (hb : By l) (hl : l.length ≤ 1000000000) {c : Nat} (ho : odds (pol l) c) : Ev (fun k => burst_Last.f k l) (8 * (l.length : Int) - 1 - (c : Int)) := by
  have g := last_loop l.length hl l.length l 0 c rfl hb rfl (by simpa using ho)
  unfold burst_Last.f
  rw [w_pred (by omega)]
  simpa using g
theorem ones8 : ∀ c : Fin 256, bits_OnesCount8.f ((c.val : Nat) : Int) = some ((wt 8 c.val : Nat) : Int) := by decide +kernel
theorem weight_loop : ∀ (l pre : List Int), By pre → By l → (pre ++ l).length ≤ 1000000000 →
    Ev (fun k => burst_Weight.l0 k ((wt (8 * pre.length) (pol pre) : Nat) : Int) (pre ++ l) ((pre ++ l).length : Int) (pre.length : Int)) ((wt (8 * (pre ++ l).length) (pol (pre ++ l)) : Nat) : Int) := by
  intro l
  induction l with
  | nil =>
    intro pre _ _ _
    rw [List.append_nil]
    exact Ev.step (fun k => burst_Weight.l0.eq_2 ..) (Ev_ite_neg (by simp) (Ev.now _))
  | cons c l ih =>
    intro pre hp hb hl
    have hc := hb.head
    obtain ⟨n, rfl⟩ : ∃ n : Nat, c = (n : Int) := ⟨c.toNat, by omega⟩
    have hlt : ((pre.length : Nat) : Int) < ((pre ++ (n : Int) :: l).length : Int) := by simp; omega
    have hpl : pre.length ≤ 1000000000 := by simp at hl; omega
    have g := ih (pre ++ [(n : Int)]) (hp.append (fun x hx => by rw [List.mem_singleton.1 hx]; exact hc)) hb.tail (by simpa using hl)
    have e1 : wt (8 * (pre ++ [(n : Int)]).length) (pol (pre ++ [(n : Int)])) = wt (8 * pre.length) (pol pre) + wt 8 n := by
      have hpol : pol (pre ++ [(n : Int)]) = pol pre * 256 + n := by rw [pol_append, pol_cons]; simp [pol_nil]
      rw [hpol, List.length_append, List.length_singleton, show 8 * (pre.length + 1) = 8 + 8 * pre.length from by omega, wt_bytes, show (pol pre * 256 + n) % 256 = n from by omega, show (pol pre * 256 + n) / 256 = pol pre from by omega, Nat.add_comm]
    have e3 : ((pre ++ [(n : Int)]).length : Int) = ((pre.length + 1 : Nat) : Int) := by simp
    rw [e1, List.append_assoc, List.singleton_append, e3] at g
    have hwt : ∀ m x, wt m x ≤ m := by
      intro m
      induction m with
      | zero => intro x; exact Nat.le_refl _
      | succ m ih => intro x; have := ih (x / 2); show x % 2 + wt m (x / 2) ≤ m + 1; omega
    have w1 := hwt (8 * pre.length) (pol pre)
    have w2 := hwt 8 n
    refine Ev.step (fun k => burst_Weight.l0.eq_2 ..) (Ev_ite_pos hlt (Ev_ite_pos (by omega) (Ev_ite_pos hlt ?_)))
    rw [rd_at, ones8 ⟨n, by omega⟩]
    refine Ev_some ?_
    simp only
    rw [w_add (by omega), w_succ (by omega)]
    exact g
theorem weight_ev {l : List Int} (hb : By l) (hl : l.length ≤ 1000000000) : Ev (fun k => burst_Weight.f k l) ((wt (8 * l.length) (pol l) : Nat) : Int) := by
  have := weight_loop l [] (by intro x hx; simp at hx) hb hl
  have e : wt (8 * ([] : List Int).length) (pol []) = 0 := rfl
  rw [e] at this
  exact this
theorem span_ev {l : List Int} (hb : By l) (hl : l.length ≤ 1000000000) {c : Nat} (ho : odds (pol l) c) (hz : pol l ≠ 0) : Ev (fun k => burst_Span.f k l) (((len (pol l) : Nat) : Int) - (c : Int)) := by
  have hle := len_le (pol_lt hb)
  have hf := first_ev hb hl
  rw [if_neg hz] at hf
  have hcl : c ≤ 8 * l.length := by
    obtain ⟨u, hu⟩ := ho
    have h1 := pol_lt hb
    rw [hu] at h1
    have h2 : 2 ^ c ≤ (2 * u + 1) * 2 ^ c := Nat.le_mul_of_pos_left _ (by omega)
    apply Nat.le_of_lt
    exact (Nat.pow_lt_pow_iff_right (by omega)).1 (Nat.lt_of_le_of_lt h2 h1)
  unfold burst_Span.f
  refine Ev.bind hf (Ev_ite_pos (by omega) (Ev.bind (last_ev hb hl ho) ?_))
  have e : wrap64 (wrap64 (8 * (l.length : Int) - 1 - (c : Int) - (8 * (l.length : Int) - ((len (pol l) : Nat) : Int))) + 1) = ((len (pol l) : Nat) : Int) - (c : Int) := by
    clear hf ho
    rw [wrap64_id (n := 8 * (l.length : Int) - 1 - (c : Int) - (8 * (l.length : Int) - ((len (pol l) : Nat) : Int))) (by omega) (by omega), wrap64_id (by omega) (by omega)]; omega
  rw [e]; exact Ev.now _

end Go.Proofs.Ytcnlomknmhgpbab.Pure
