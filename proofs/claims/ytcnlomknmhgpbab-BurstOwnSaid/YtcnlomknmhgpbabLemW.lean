/- Lemmas on the printed functions: what each comes to, over plain numbers and lists. -/
import Derived.Test.YtcnlomknmhgpbabPWx1
import Derived.Test.YtcnlomknmhgpbabPWx2
import Derived.Test.YtcnlomknmhgpbabPWx3
import Derived.Test.YtcnlomknmhgpbabBt
namespace Go.Proofs.Ytcnlomknmhgpbab.Pure
open Go Go.RowKit Go.Proofs.Ytcnlomknmhgpbab.PW Go.Proofs.YtcnlomknmhgpbabW.PrintWords Go.Proofs.YtcnlomknmhgpbabW.PrintLast Go.Proofs.YtcnlomknmhgpbabW.PrintMore
open Go.Proofs.Ytcnlomknmhgpbab.Gf Go.Proofs.Ytcnlomknmhgpbab.Bt
/-- how many bits a number has -/
def len (a : Nat) : Nat := if a = 0 then 0 else a.log2 + 1
theorem len_zero : len 0 = 0 := rfl
theorem len_iff {a n : Nat} : len a = n + 1 ↔ 2 ^ n ≤ a ∧ a < 2 ^ (n + 1) := by
  unfold len
  by_cases h : a = 0
  · subst h
    have := Nat.two_pow_pos n
    simp
  · rw [if_neg h]
    have h1 := Nat.log2_self_le h
    have h2 := @Nat.lt_log2_self a
    constructor
    · intro e
      have : a.log2 = n := by omega
      subst this; exact ⟨h1, h2⟩
    · intro ⟨u, v⟩
      have e1 : a.log2 < n + 1 := (Nat.log2_lt h).2 v
      have e2 : n ≤ a.log2 := (Nat.le_log2 h).2 u
      omega
theorem len_pos {a : Nat} (h : a ≠ 0) : ∃ n, len a = n + 1 := ⟨a.log2, by simp [len, h]⟩
theorem len_le {a n : Nat} (h : a < 2 ^ n) : len a ≤ n := by
  by_cases z : a = 0
  · subst z; simp [len]
  · obtain ⟨m, hm⟩ := len_pos z
    rw [hm]
    have := (len_iff.1 hm).1
    apply Nat.lt_of_not_le
    intro c
    have := Nat.pow_le_pow_right (n := 2) (by omega) c
    have := Nat.pow_le_pow_right (n := 2) (by omega) (show n ≤ m + 1 - 1 from by omega)
    rw [Nat.add_sub_cancel] at this
    omega
theorem lt_of_len {a n : Nat} (h : len a ≤ n) : a < 2 ^ n := by
  by_cases z : a = 0
  · subst z; exact Nat.two_pow_pos n
  · obtain ⟨m, hm⟩ := len_pos z
    have := (len_iff.1 hm).2
    exact Nat.lt_of_lt_of_le this (Nat.pow_le_pow_right (by omega) (by omega))
theorem len_shift {a s : Nat} (h : a / 2 ^ s ≠ 0) : len a = s + len (a / 2 ^ s) := by
  obtain ⟨n, hn⟩ := len_pos h
  rw [hn]
  obtain ⟨u, v⟩ := len_iff.1 hn
  have hp := Nat.two_pow_pos s
  show len a = (s + n) + 1
  rw [len_iff, Nat.pow_add, show s + n + 1 = s + (n + 1) from rfl, Nat.pow_add 2 s]
  constructor
  · calc 2 ^ s * 2 ^ n ≤ 2 ^ s * (a / 2 ^ s) := Nat.mul_le_mul_left _ u
      _ ≤ a := Nat.mul_div_le _ _
  · rw [Nat.mul_comm]; exact (Nat.div_lt_iff_lt_mul hp).1 v
def tab : ByteArray := ⟨#[0, 1, 2, 2, 3, 3, 3, 3, 4, 4, 4, 4, 4, 4, 4, 4, 5, 5, 5, 5, 5, 5, 5, 5, 5, 5, 5, 5, 5, 5, 5, 5, 6, 6, 6, 6, 6, 6, 6, 6, 6, 6, 6, 6, 6, 6, 6, 6, 6, 6, 6, 6, 6, 6, 6, 6, 6, 6, 6, 6, 6, 6, 6, 6, 7, 7, 7, 7, 7, 7, 7, 7, 7, 7, 7, 7, 7, 7, 7, 7, 7, 7, 7, 7, 7, 7, 7, 7, 7, 7, 7, 7, 7, 7, 7, 7, 7, 7, 7, 7, 7, 7, 7, 7, 7, 7, 7, 7, 7, 7, 7, 7, 7, 7, 7, 7, 7, 7, 7, 7, 7, 7, 7, 7, 7, 7, 7, 7, 8, 8, 8, 8, 8, 8, 8, 8, 8, 8, 8, 8, 8, 8, 8, 8, 8, 8, 8, 8, 8, 8, 8, 8, 8, 8, 8, 8, 8, 8, 8, 8, 8, 8, 8, 8, 8, 8, 8, 8, 8, 8, 8, 8, 8, 8, 8, 8, 8, 8, 8, 8, 8, 8, 8, 8, 8, 8, 8, 8, 8, 8, 8, 8, 8, 8, 8, 8, 8, 8, 8, 8, 8, 8, 8, 8, 8, 8, 8, 8, 8, 8, 8, 8, 8, 8, 8, 8, 8, 8, 8, 8, 8, 8, 8, 8, 8, 8, 8, 8, 8, 8, 8, 8, 8, 8, 8, 8, 8, 8, 8, 8, 8, 8, 8, 8, 8, 8, 8, 8, 8, 8, 8, 8, 8, 8, 8, 8]⟩
theorem tab_all : ∀ c : Fin 256, bt tab ((c.val : Nat) : Int) = ((len c.val : Nat) : Int) := by decide +kernel
theorem tab_len {e : Int} {c : Nat} (he : e = (c : Int)) (h : c < 256) : wrap64 (bt (⟨#[0, 1, 2, 2, 3, 3, 3, 3, 4, 4, 4, 4, 4, 4, 4, 4, 5, 5, 5, 5, 5, 5, 5, 5, 5, 5, 5, 5, 5, 5, 5, 5, 6, 6, 6, 6, 6, 6, 6, 6, 6, 6, 6, 6, 6, 6, 6, 6, 6, 6, 6, 6, 6, 6, 6, 6, 6, 6, 6, 6, 6, 6, 6, 6, 7, 7, 7, 7, 7, 7, 7, 7, 7, 7, 7, 7, 7, 7, 7, 7, 7, 7, 7, 7, 7, 7, 7, 7, 7, 7, 7, 7, 7, 7, 7, 7, 7, 7, 7, 7, 7, 7, 7, 7, 7, 7, 7, 7, 7, 7, 7, 7, 7, 7, 7, 7, 7, 7, 7, 7, 7, 7, 7, 7, 7, 7, 7, 7, 8, 8, 8, 8, 8, 8, 8, 8, 8, 8, 8, 8, 8, 8, 8, 8, 8, 8, 8, 8, 8, 8, 8, 8, 8, 8, 8, 8, 8, 8, 8, 8, 8, 8, 8, 8, 8, 8, 8, 8, 8, 8, 8, 8, 8, 8, 8, 8, 8, 8, 8, 8, 8, 8, 8, 8, 8, 8, 8, 8, 8, 8, 8, 8, 8, 8, 8, 8, 8, 8, 8, 8, 8, 8, 8, 8, 8, 8, 8, 8, 8, 8, 8, 8, 8, 8, 8, 8, 8, 8, 8, 8, 8, 8, 8, 8, 8, 8, 8, 8, 8, 8, 8, 8, 8, 8, 8, 8, 8, 8, 8, 8, 8, 8, 8, 8, 8, 8, 8, 8, 8, 8, 8, 8, 8, 8, 8, 8]⟩ : ByteArray) e) = ((len c : Nat) : Int) := by
  subst he
  have g : bt tab (c : Int) = ((len c : Nat) : Int) := tab_all ⟨c, h⟩
  have b : len c ≤ 8 := len_le (by omega)
  have g' : bt (⟨#[0, 1, 2, 2, 3, 3, 3, 3, 4, 4, 4, 4, 4, 4, 4, 4, 5, 5, 5, 5, 5, 5, 5, 5, 5, 5, 5, 5, 5, 5, 5, 5, 6, 6, 6, 6, 6, 6, 6, 6, 6, 6, 6, 6, 6, 6, 6, 6, 6, 6, 6, 6, 6, 6, 6, 6, 6, 6, 6, 6, 6, 6, 6, 6, 7, 7, 7, 7, 7, 7, 7, 7, 7, 7, 7, 7, 7, 7, 7, 7, 7, 7, 7, 7, 7, 7, 7, 7, 7, 7, 7, 7, 7, 7, 7, 7, 7, 7, 7, 7, 7, 7, 7, 7, 7, 7, 7, 7, 7, 7, 7, 7, 7, 7, 7, 7, 7, 7, 7, 7, 7, 7, 7, 7, 7, 7, 7, 7, 8, 8, 8, 8, 8, 8, 8, 8, 8, 8, 8, 8, 8, 8, 8, 8, 8, 8, 8, 8, 8, 8, 8, 8, 8, 8, 8, 8, 8, 8, 8, 8, 8, 8, 8, 8, 8, 8, 8, 8, 8, 8, 8, 8, 8, 8, 8, 8, 8, 8, 8, 8, 8, 8, 8, 8, 8, 8, 8, 8, 8, 8, 8, 8, 8, 8, 8, 8, 8, 8, 8, 8, 8, 8, 8, 8, 8, 8, 8, 8, 8, 8, 8, 8, 8, 8, 8, 8, 8, 8, 8, 8, 8, 8, 8, 8, 8, 8, 8, 8, 8, 8, 8, 8, 8, 8, 8, 8, 8, 8, 8, 8, 8, 8, 8, 8, 8, 8, 8, 8, 8, 8, 8, 8, 8, 8, 8, 8]⟩ : ByteArray) (c : Int) = ((len c : Nat) : Int) := g
  rw [g', wrap64_id (by omega) (by omega)]
/-- m's degree is d -/
def Deg (m d : Nat) : Prop := 2 ^ d ≤ m ∧ m < 2 ^ (d + 1)
theorem Deg.ofLen {m d : Nat} (h : len m = d + 1) : Deg m d := len_iff.1 h
theorem Deg.len {m d : Nat} (h : Deg m d) : len m = d + 1 := len_iff.2 h
theorem Deg.lt {m d : Nat} (h : Deg m d) (hm : m < 2 ^ 64) : d < 64 := by
  have h1 := h.1
  apply Nat.lt_of_not_le
  intro c
  have := Nat.pow_le_pow_right (n := 2) (by omega) c
  omega
theorem exists_deg {m : Nat} (h : m ≠ 0) : ∃ d, Deg m d := exists_top h
theorem pow64 {n : Nat} (h : n ≤ 64) : 2 ^ n ≤ 2 ^ 64 := Nat.pow_le_pow_right (by omega) h
theorem halves (b i : Nat) : b / 2 ^ i % 2 = (b.testBit i).toNat ∧ b / 2 ^ i / 2 = b / 2 ^ (i + 1) := by
  constructor
  · rw [Nat.testBit_eq_decide_div_mod_eq]
    rcases Nat.mod_two_eq_zero_or_one (b / 2 ^ i) with h | h <;> simp [h]
  · rw [Nat.pow_succ, Nat.div_div_eq_div_mul]

theorem or_new {x s : Nat} (h : x % 2 ^ (s + 1) = 0) : x ||| 2 ^ s = x + 2 ^ s ∧ (x + 2 ^ s) % 2 ^ s = 0 := by
  have e : x = 2 ^ (s + 1) * (x / 2 ^ (s + 1)) := by have := Nat.div_add_mod x (2 ^ (s + 1)); omega
  have hlt : 2 ^ s < 2 ^ (s + 1) := Nat.pow_lt_pow_right (by omega) (by omega)
  constructor
  · rw [e, ← Nat.two_pow_add_eq_or_of_lt hlt]
  · rw [e, Nat.pow_succ, Nat.mul_assoc]; simp

def orAt (l : List Int) (k : Nat) : List Int := l.set (k / 8) (bits .or .u8 (rd l ((k / 8 : Nat) : Int)) (shr .u8 128 ((k % 8 : Nat) : Int)))
theorem orAt_length (l : List Int) (k : Nat) : (orAt l k).length = l.length := by unfold orAt; rw [List.length_set]
/-- the bits of a word from a place on, one after the other -/
def mkl (w s at' : Nat) : Nat → Nat → List Int → List Int
  | 0, _, l => l
  | m + 1, i, l => mkl w s at' m (i + 1) (if w.testBit (s - 1 - i) then orAt l (at' + i) else l)
theorem mkl_length (w s at' : Nat) : ∀ m i l, (mkl w s at' m i l).length = l.length := by
  intro m
  induction m with
  | zero => intro i l; rfl
  | succ m ih => intro i l; show (mkl w s at' m (i + 1) _).length = _; rw [ih]; split <;> simp [orAt_length]
theorem make_loop {w s at' : Nat} (hw : w < 2 ^ 32) (hs : s ≤ 32) (ha : at' < 1000000) : ∀ (m i : Nat) (l : List Int), i + m = s → at' + s ≤ 8 * l.length →
    Ev (fun k => burst_Make.l0 k (at' : Int) (w : Int) l (s : Int) (s : Int) (i : Int)) (mkl w s at' m i l, 0) := by
  intro m
  induction m with
  | zero =>
    intro i l hi _
    exact Ev.step (fun k => burst_Make.l0.eq_2 ..) (Ev_ite_neg (by omega) (Ev.now _))
  | succ m ih =>
    intro i l hi hl
    have hsi : i < s := by omega
    refine Ev.step (fun k => burst_Make.l0.eq_2 ..) (Ev_ite_pos (by omega) ?_)
    rw [w_sub2 hsi (by omega), w_succ (by omega), w_add (by omega), w_div8 (by omega), t_mod8]
    refine Ev_ite_pos (by omega) ?_
    by_cases c : w.testBit (s - 1 - i) = true
    · refine Ev_ite_neg (by rw [bit32_zero hw (by omega), c]; simp) (Ev_ite_pos (by omega) (Ev_ite_pos (by omega) (Ev_ite_pos (by omega) ?_)))
      rw [Int.toNat_natCast]
      have g := ih (i + 1) (orAt l (at' + i)) (by omega) (by rw [orAt_length]; exact hl)
      show Ev _ (mkl w s at' m (i + 1) (if w.testBit (s - 1 - i) then orAt l (at' + i) else l), 0)
      rw [if_pos c]; exact g
    · refine Ev_ite_pos ((bit32_zero hw (by omega)).2 (by simpa using c)) ?_
      have g := ih (i + 1) l (by omega) hl
      show Ev _ (mkl w s at' m (i + 1) (if w.testBit (s - 1 - i) then orAt l (at' + i) else l), 0)
      rw [if_neg c]; exact g
theorem len32_f {x : Nat} (hx : x < 2 ^ 32) : bits_Len32.f (x : Int) = some ((len x : Nat) : Int) := by
  unfold bits_Len32.f
  by_cases c1 : (x : Int) ≥ 65536
  · rw [if_pos c1]
    by_cases c2 : ((x : Int) / 65536) ≥ 256
    · have e : (((x : Int) / 65536) / 256) % 256 = ((x / 2 ^ 24 : Nat) : Int) := by omega
      have b : len (x / 2 ^ 24) ≤ 8 := len_le (by omega)
      rw [if_pos c2, if_pos (by omega), if_pos (by omega), tab_len e (by omega), wrap64_id (by omega) (by omega), len_shift (a := x) (s := 24) (by omega)]
      congr 1
    · have e : ((x : Int) / 65536) % 256 = ((x / 2 ^ 16 : Nat) : Int) := by omega
      have b : len (x / 2 ^ 16) ≤ 8 := len_le (by omega)
      rw [if_neg c2, if_pos (by omega), if_pos (by omega), tab_len e (by omega), wrap64_id (by omega) (by omega), len_shift (a := x) (s := 16) (by omega)]
      congr 1
  · rw [if_neg c1]
    by_cases c2 : (x : Int) ≥ 256
    · have e : ((x : Int) / 256) % 256 = ((x / 2 ^ 8 : Nat) : Int) := by omega
      have b : len (x / 2 ^ 8) ≤ 8 := len_le (by omega)
      rw [if_pos c2, if_pos (by omega), if_pos (by omega), tab_len e (by omega), wrap64_id (by omega) (by omega), len_shift (a := x) (s := 8) (by omega)]
      congr 1
    · have e : (x : Int) % 256 = (x : Int) := by omega
      have b : len x ≤ 8 := len_le (by omega)
      rw [if_neg c2, if_pos (by omega), if_pos (by omega), e, tab_len rfl (by omega), wrap64_id (by omega) (by omega)]
      congr 1; omega
/-- what Make answers -/
theorem make_ev (n at' : Int) {w : Nat} (hw : w < 2 ^ 32) (hn : -9223372036854775808 ≤ n ∧ n < 9223372036854775808) :
    ((n < 0 ∨ n > 65536) ∧ Ev (fun k => burst_Make.f k n at' (w : Int)) ([], 2)) ∨
    (0 ≤ n ∧ n ≤ 65536 ∧ (w = 0 ∨ at' < 0 ∨ at' > 8 * n - (len w : Nat)) ∧ Ev (fun k => burst_Make.f k n at' (w : Int)) ([], 30)) ∨
    (∃ N A : Nat, n = (N : Int) ∧ at' = (A : Int) ∧ N ≤ 65536 ∧ w ≠ 0 ∧ A + len w ≤ 8 * N ∧ Ev (fun k => burst_Make.f k n at' (w : Int)) (mkl w (len w) A (len w) 0 (List.replicate N 0), 0)) := by
  have hlw := len_le hw
  unfold burst_Make.f
  by_cases c1 : n < 0
  · exact .inl ⟨.inl c1, Ev_ite_pos c1 (Ev.step (fun _ => burst_Make.j0.eq_2 ..) (Ev_ite_pos rfl (Ev.now _)))⟩
  by_cases c2 : n > 65536
  · refine .inl ⟨.inr c2, Ev_ite_neg c1 ?_⟩
    rw [decide_eq_true c2]
    exact Ev.step (fun _ => burst_Make.j0.eq_2 ..) (Ev_ite_pos rfl (Ev.now _))
  obtain ⟨N, rfl⟩ : ∃ N : Nat, n = (N : Int) := ⟨n.toNat, by omega⟩
  have no : Ev (fun k => burst_Make.j1 k (N : Int) at' (w : Int) true) ([], 30) := Ev.step (fun _ => burst_Make.j1.eq_2 ..) (Ev_ite_pos rfl (Ev.now _))
  by_cases z : w = 0
  · subst z
    refine .inr (.inl ⟨by omega, by omega, .inl rfl, Ev_ite_neg c1 ?_⟩)
    rw [decide_eq_false c2]
    exact Ev.step (fun _ => burst_Make.j0.eq_2 ..) (Ev_ite_neg (by simp) (Ev_ite_pos rfl no))
  by_cases c3 : at' < 0
  · refine .inr (.inl ⟨by omega, by omega, .inr (.inl c3), Ev_ite_neg c1 ?_⟩)
    rw [decide_eq_false c2]
    exact Ev.step (fun _ => burst_Make.j0.eq_2 ..) (Ev_ite_neg (by simp) (Ev_ite_neg (by omega) (Ev_ite_pos c3 no)))
  have e1 : wrap64 (wrap64 (8 * (N : Int)) - ((len w : Nat) : Int)) = 8 * (N : Int) - ((len w : Nat) : Int) := by
    rw [wrap64_id (n := 8 * (N : Int)) (by omega) (by omega), wrap64_id (by omega) (by omega)]
  by_cases c4 : at' > 8 * (N : Int) - ((len w : Nat) : Int)
  · refine .inr (.inl ⟨by omega, by omega, .inr (.inr c4), Ev_ite_neg c1 ?_⟩)
    rw [decide_eq_false c2]
    refine Ev.step (fun _ => burst_Make.j0.eq_2 ..) (Ev_ite_neg (by simp) (Ev_ite_neg (by omega) (Ev_ite_neg c3 ?_)))
    rw [len32_f hw]
    refine Ev_some ?_
    rw [e1, decide_eq_true c4]; exact no
  obtain ⟨A, rfl⟩ : ∃ A : Nat, at' = (A : Int) := ⟨at'.toNat, by omega⟩
  refine .inr (.inr ⟨N, A, rfl, rfl, by omega, z, by omega, Ev_ite_neg c1 ?_⟩)
  rw [decide_eq_false c2]
  refine Ev.step (fun _ => burst_Make.j0.eq_2 ..) (Ev_ite_neg (by simp) (Ev_ite_neg (by omega) (Ev_ite_neg c3 ?_)))
  rw [len32_f hw]
  refine Ev_some ?_
  rw [e1, decide_eq_false c4]
  clear e1
  refine Ev.step (fun _ => burst_Make.j1.eq_2 ..) (Ev_ite_neg (by simp) (Ev_ite_pos (by omega) (Ev_ite_pos (by omega) ?_)))
  rw [len32_f hw, Int.toNat_natCast]
  refine Ev_some ?_
  exact make_loop hw (by omega) (by omega) (len w) 0 (List.replicate N 0) (by omega) (by simp; omega)

def xb (x y : Int) : Int := bits .xor .u8 x y
theorem xb_nat {x y : Int} (hx : 0 ≤ x ∧ x < 256) (hy : 0 ≤ y ∧ y < 256) : xb x y = ((x.toNat ^^^ y.toNat : Nat) : Int) := by
  obtain ⟨a, rfl⟩ := Int.eq_ofNat_of_zero_le hx.1
  obtain ⟨b, rfl⟩ := Int.eq_ofNat_of_zero_le hy.1
  exact u8_xor_nat a b (by omega) (by omega)
theorem xb_byte {x y : Int} (hx : 0 ≤ x ∧ x < 256) (hy : 0 ≤ y ∧ y < 256) : 0 ≤ xb x y ∧ xb x y < 256 := by
  rw [xb_nat hx hy]
  have : x.toNat ^^^ y.toNat < 2 ^ 8 := Nat.xor_lt_two_pow (by omega) (by omega)
  omega
theorem xb_comm {x y : Int} (hx : 0 ≤ x ∧ x < 256) (hy : 0 ≤ y ∧ y < 256) : xb x y = xb y x := by rw [xb_nat hx hy, xb_nat hy hx, Nat.xor_comm]
theorem xb_assoc {x y z : Int} (hx : 0 ≤ x ∧ x < 256) (hy : 0 ≤ y ∧ y < 256) (hz : 0 ≤ z ∧ z < 256) : xb (xb x y) z = xb x (xb y z) := by
  rw [xb_nat (xb_byte hx hy) hz, xb_nat hx (xb_byte hy hz), xb_nat hx hy, xb_nat hy hz, Int.toNat_natCast, Int.toNat_natCast, Nat.xor_assoc]
theorem xb_self {x : Int} (hx : 0 ≤ x ∧ x < 256) : xb x x = 0 := by rw [xb_nat hx hx, Nat.xor_self]; rfl
theorem xb_zero {x : Int} (hx : 0 ≤ x ∧ x < 256) : xb x 0 = x := by rw [xb_nat hx (by omega)]; simp; omega
/-- the bytes' sums -/
def xl (a b : List Int) : List Int := List.zipWith xb a b
theorem xl_length (a b : List Int) (h : a.length = b.length) : (xl a b).length = a.length := by simp [xl, h]
theorem xl_by : ∀ {a b : List Int}, By a → By b → By (xl a b) := by
  intro a
  induction a with
  | nil => intro b _ _ x hx; simp [xl] at hx
  | cons c a ih =>
    intro b ha hb
    cases b with
    | nil => intro x hx; simp [xl] at hx
    | cons d b =>
      intro x hx
      rcases List.mem_cons.1 hx with rfl | hx
      · exact xb_byte ha.head hb.head
      · exact ih ha.tail hb.tail x hx
theorem xl_comm : ∀ {a b : List Int}, By a → By b → xl a b = xl b a := by
  intro a
  induction a with
  | nil => intro b _ _; cases b <;> rfl
  | cons c a ih =>
    intro b ha hb
    cases b with
    | nil => rfl
    | cons d b =>
      show xb c d :: xl a b = xb d c :: xl b a
      rw [xb_comm ha.head hb.head, ih ha.tail hb.tail]
theorem xl_assoc : ∀ {a b c : List Int}, By a → By b → By c → xl (xl a b) c = xl a (xl b c) := by
  intro a
  induction a with
  | nil => intro b c _ _ _; rfl
  | cons x a ih =>
    intro b c ha hb hc
    cases b with
    | nil => rfl
    | cons y b =>
      cases c with
      | nil => rfl
      | cons z c =>
        show xb (xb x y) z :: xl (xl a b) c = xb x (xb y z) :: xl a (xl b c)
        rw [xb_assoc ha.head hb.head hc.head, ih ha.tail hb.tail hc.tail]
theorem xl_self : ∀ {a : List Int}, By a → xl a a = List.replicate a.length 0 := by
  intro a
  induction a with
  | nil => intro _; rfl
  | cons x a ih =>
    intro ha
    show xb x x :: xl a a = _
    rw [xb_self ha.head, ih ha.tail]; rfl
theorem xl_zero : ∀ {a : List Int}, By a → xl a (List.replicate a.length 0) = a := by
  intro a
  induction a with
  | nil => intro _; rfl
  | cons x a ih =>
    intro ha
    show xb x 0 :: xl a (List.replicate a.length 0) = _
    rw [xb_zero ha.head, ih ha.tail]
theorem xl_back {a b : List Int} (ha : By a) (hb : By b) (h : a.length = b.length) : xl (xl a b) b = a := by
  rw [xl_assoc ha hb hb, xl_self hb, ← h, xl_zero ha]
theorem by_take {l : List Int} (h : By l) (n : Nat) : By (l.take n) := fun x hx => h x (List.mem_of_mem_take hx)
theorem by_zeros (n : Nat) : By (List.replicate n 0) := by intro x hx; have := List.eq_of_mem_replicate hx; omega
theorem xl_snoc {a1 b1 : List Int} (h : a1.length = b1.length) (c d : Int) : xl (a1 ++ [c]) (b1 ++ [d]) = xl a1 b1 ++ [xb c d] := by
  unfold xl
  rw [List.zipWith_append h]; rfl
theorem set_mid (L : List Int) (x v : Int) (R : List Int) : (L ++ x :: R).set L.length v = L ++ v :: R := by
  rw [List.set_append_right _ _ (Nat.le_refl _), Nat.sub_self]; rfl

theorem turn_loop : ∀ (a2 b2 a1 b1 : List Int), a1.length = b1.length → a2.length = b2.length → (a1 ++ a2).length ≤ 140737488355328 →
    Ev (fun k => burst_Turn.l0 k (a1 ++ a2) (b1 ++ b2) (xl a1 b1 ++ List.replicate a2.length 0) ((a1 ++ a2).length : Int) (a1.length : Int)) (xl (a1 ++ a2) (b1 ++ b2), 0) := by
  intro a2
  induction a2 with
  | nil =>
    intro b2 a1 b1 h1 h2 _
    have : b2 = [] := List.length_eq_zero_iff.1 (by simpa using h2.symm)
    subst this
    refine Ev.step (fun k => burst_Turn.l0.eq_2 ..) (Ev_ite_neg (by simp) ?_)
    simp only [List.append_nil, List.length_nil, List.replicate_zero]
    exact Ev.now _
  | cons c a2 ih =>
    intro b2 a1 b1 h1 h2 hl
    cases b2 with
    | nil => simp at h2
    | cons d b2 =>
      have h2' : a2.length = b2.length := by simpa using h2
      have g := ih b2 (a1 ++ [c]) (b1 ++ [d]) (by simp [h1]) h2' (by simpa using hl)
      have hlt : ((a1.length : Nat) : Int) < ((a1 ++ c :: a2).length : Int) := by simp; omega
      have hlt2 : ((a1.length : Nat) : Int) < ((b1 ++ d :: b2).length : Int) := by simp; omega
      have hxl := xl_length a1 b1 h1
      refine Ev.step (fun k => burst_Turn.l0.eq_2 ..) (Ev_ite_pos hlt (Ev_ite_pos (by omega) (Ev_ite_pos hlt (Ev_ite_pos hlt2 (Ev_ite_pos (by simp [hxl]; omega) ?_)))))
      have e1 : rd (b1 ++ d :: b2) (a1.length : Int) = d := by rw [h1]; exact rd_at b1 d b2
      have e2 : (xl a1 b1 ++ List.replicate (c :: a2).length 0).set ((a1.length : Nat) : Int).toNat (Go.bits .xor .u8 c d) = xl (a1 ++ [c]) (b1 ++ [d]) ++ List.replicate a2.length 0 := by
        rw [Int.toNat_natCast, ← hxl, List.length_cons, List.replicate_succ, set_mid, xl_snoc h1, List.append_assoc]; rfl
      rw [rd_at, e1, e2, w_succ (by simp at hl; omega)]
      have e3 : ((a1 ++ [c]).length : Int) = ((a1.length + 1 : Nat) : Int) := by simp
      rw [List.append_assoc, List.append_assoc, List.singleton_append, List.singleton_append, e3] at g
      exact g
theorem turn_ev {a b : List Int} (h : a.length = b.length) (hl : a.length ≤ 140737488355328) : Ev (fun k => burst_Turn.f k a b) (xl a b, 0) := by
  unfold burst_Turn.f
  refine Ev_ite_pos (by omega) (Ev_ite_pos (by omega) (Ev_ite_pos (by omega) ?_))
  exact turn_loop a b [] [] rfl h hl

theorem awake_ev : Ev (fun k => parapetlaw03_Awake.f k) true := Ev.of parapetlaw03_Awake.mono (k := 60) (by decide +kernel)

/-- the places of a byte's bits that are 1, from the j-th on; base: the byte's own place -/
def pbf (c base : Nat) : Nat → Nat → List Int
  | 0, _ => []
  | m + 1, j => if c.testBit (7 - j) then ((base + j : Nat) : Int) :: pbf c base m (j + 1) else pbf c base m (j + 1)
def PL : Nat → List Int → List Int
  | _, [] => []
  | i, c :: l => pbf c.toNat (8 * i) 8 0 ++ PL (i + 1) l
theorem pbf_succ (c base m j : Nat) : pbf c base (m + 1) j = if c.testBit (7 - j) then ((base + j : Nat) : Int) :: pbf c base m (j + 1) else pbf c base m (j + 1) := rfl
theorem pbf_le (c base : Nat) : ∀ m j, (pbf c base m j).length ≤ m := by
  intro m
  induction m with
  | zero => intro j; exact Nat.le_refl _
  | succ m ih =>
    intro j
    have := ih (j + 1)
    unfold pbf
    split
    · rw [List.length_cons]; omega
    · omega
theorem PL_le : ∀ l i, (PL i l).length ≤ 8 * l.length := by
  intro l
  induction l with
  | nil => intro i; exact Nat.le_refl _
  | cons c l ih =>
    intro i
    have h1 := pbf_le c.toNat (8 * i) 8 0
    have h2 := ih (i + 1)
    show (pbf _ _ _ _ ++ PL (i + 1) l).length ≤ _
    rw [List.length_append, List.length_cons]; omega
theorem bit8_at {pre : List Int} {n : Nat} {l : List Int} (hn : n < 256) {j : Nat} (hj : j < 8) (hl : (pre ++ (n : Int) :: l).length ≤ 100000) :
    burst_bit.f (pre ++ (n : Int) :: l) ((8 * pre.length + j : Nat) : Int) = some (n.testBit (7 - j)) := by
  have hlen : (pre ++ (n : Int) :: l).length = pre.length + (l.length + 1) := by simp
  unfold burst_bit.f
  rw [w_div8 (by omega), t_mod8, show (8 * pre.length + j) / 8 = pre.length from by omega, show (8 * pre.length + j) % 8 = j from by omega, rd_at]
  have e : wrap64 (7 - (j : Int)) = ((7 - j : Nat) : Int) := by rw [wrap64_id (by omega) (by omega)]; omega
  rw [e, if_pos (by omega), if_pos (by omega), if_pos (by omega), bit8 hn (by omega)]
  cases n.testBit (7 - j) <;> rfl
theorem parts_inner {pre : List Int} {n : Nat} {l : List Int} (hn : n < 256) (hl : (pre ++ (n : Int) :: l).length ≤ 100000) (E : Int) (hE : E = ((8 * (pre ++ (n : Int) :: l).length : Nat) : Int)) (r : List Int) (acc : List Int) (hacc : acc.length ≤ 1000000)
    (h : Ev (fun k => burst_Parts.l0 k (pre ++ (n : Int) :: l) (acc ++ pbf n (8 * pre.length) 8 0) E ((8 * (pre.length + 1) : Nat) : Int)) r) :
    ∀ (m j : Nat) (a : List Int), j + m = 8 → a ++ pbf n (8 * pre.length) m j = acc ++ pbf n (8 * pre.length) 8 0 → a.length ≤ 1000008 → Ev (fun k => burst_Parts.l0 k (pre ++ (n : Int) :: l) a E ((8 * pre.length + j : Nat) : Int)) r := by
  have hlen : (pre ++ (n : Int) :: l).length = pre.length + (l.length + 1) := by simp
  intro m
  induction m with
  | zero =>
    intro j a hj ha _
    obtain rfl : j = 8 := by omega
    have : a = acc ++ pbf n (8 * pre.length) 8 0 := by rw [← ha]; unfold pbf; simp
    rw [this]; exact h
  | succ m ih =>
    intro j a hj ha hal
    refine Ev.step (fun k => burst_Parts.l0.eq_2 ..) (Ev_ite_pos (by subst hE; omega) ?_)
    rw [bit8_at hn (by omega) hl]
    refine Ev_some ?_
    rw [w_succ (by omega), show 8 * pre.length + j + 1 = 8 * pre.length + (j + 1) from by omega]
    rw [pbf_succ n (8 * pre.length) m j] at ha
    by_cases c : n.testBit (7 - j) = true
    · rw [if_pos c] at ha
      refine Ev_ite_pos c (Ev_ite_pos (by omega) ?_)
      have hle := pbf_le n (8 * pre.length) m (j + 1)
      have hle8 := pbf_le n (8 * pre.length) 8 0
      have hal2 : a.length + 1 + (pbf n (8 * pre.length) m (j + 1)).length = acc.length + (pbf n (8 * pre.length) 8 0).length := by
        have := congrArg List.length ha
        rw [List.length_append, List.length_append, List.length_cons] at this
        omega
      exact ih (j + 1) (a ++ [((8 * pre.length + j : Nat) : Int)]) (by omega) (by rw [List.append_assoc, List.singleton_append]; exact ha) (by rw [List.length_append, List.length_singleton]; omega)
    · rw [if_neg c] at ha
      exact Ev_ite_neg c (ih (j + 1) a (by omega) ha hal)
theorem parts_loop : ∀ (l pre acc : List Int), By l → (pre ++ l).length ≤ 100000 → acc.length ≤ 8 * pre.length →
    Ev (fun k => burst_Parts.l0 k (pre ++ l) acc ((8 * (pre ++ l).length : Nat) : Int) ((8 * pre.length : Nat) : Int)) (acc ++ PL pre.length l) := by
  intro l
  induction l with
  | nil =>
    intro pre acc _ _ _
    refine Ev.step (fun k => burst_Parts.l0.eq_2 ..) (Ev_ite_neg (by simp) ?_)
    show Ev _ (acc ++ [])
    rw [List.append_nil]; exact Ev.now _
  | cons c l ih =>
    intro pre acc hb hl hacc
    have hc := hb.head
    obtain ⟨n, rfl⟩ : ∃ n : Nat, c = (n : Int) := ⟨c.toNat, by omega⟩
    have hlen : (pre ++ (n : Int) :: l).length = pre.length + (l.length + 1) := by simp
    have hle8 := pbf_le n (8 * pre.length) 8 0
    have g := ih (pre ++ [(n : Int)]) (acc ++ pbf n (8 * pre.length) 8 0) hb.tail (by simpa using hl) (by rw [List.length_append, List.length_append, List.length_singleton]; omega)
    have e3 : (pre ++ [(n : Int)]).length = pre.length + 1 := by simp
    rw [List.append_assoc, List.singleton_append, e3, List.append_assoc] at g
    exact parts_inner (by omega) hl _ rfl _ acc (by omega) g 8 0 acc rfl rfl (by omega)
theorem parts_ev {l : List Int} (hb : By l) (hl : l.length ≤ 100000) : Ev (fun k => burst_Parts.f k l) (PL 0 l) := by
  have g := parts_loop l [] [] hb hl (by simp)
  unfold burst_Parts.f
  have e : wrap64 (8 * (l.length : Int)) = ((8 * l.length : Nat) : Int) := by rw [wrap64_id (by omega) (by omega)]; omega
  rw [e]; exact g

end Go.Proofs.Ytcnlomknmhgpbab.Pure
