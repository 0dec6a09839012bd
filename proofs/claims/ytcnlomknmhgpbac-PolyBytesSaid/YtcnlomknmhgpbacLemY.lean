/- Lemmas on the printed functions: what each comes to, over plain numbers and lists. -/
import Derived.Test.YtcnlomknmhgpbacPYx1
import Derived.Test.YtcnlomknmhgpbacPYx2
import Derived.Test.YtcnlomknmhgpbacPYx3
import Derived.Test.YtcnlomknmhgpbacBt
namespace Go.Proofs.Ytcnlomknmhgpbac.Pure
open Go Go.RowKit Go.Proofs.Ytcnlomknmhgpbac.PY Go.Proofs.YtcnlomknmhgpbacW.PrintWords Go.Proofs.YtcnlomknmhgpbacW.PrintLast Go.Proofs.YtcnlomknmhgpbacW.PrintMore
open Go.Proofs.Ytcnlomknmhgpbac.Gf Go.Proofs.Ytcnlomknmhgpbac.Bt
/-- how many bits a number has -/
def len (a : Nat) : Nat := if a = 0 then 0 else a.log2 + 1
theorem len_zero : len 0 = 0 := rfl
theorem len_iff {a n : Nat} : len a = n + 1 ↔ 2 ^ n ≤ a ∧ a < 2 ^ (n + 1) := by
  unfold len
  by_cases h : a = 0
  · subst h
    have := Nat.two_pow_pos n
    simp
  · rw [if_neg h]
    have h1 := Nat.log2_self_le h
    have h2 := @Nat.lt_log2_self a
    constructor
    · intro e
      have : a.log2 = n := by omega
      subst this; exact ⟨h1, h2⟩
    · intro ⟨u, v⟩
      have e1 : a.log2 < n + 1 := (Nat.log2_lt h).2 v
      have e2 : n ≤ a.log2 := (Nat.le_log2 h).2 u
      omega
theorem len_pos {a : Nat} (h : a ≠ 0) : ∃ n, len a = n + 1 := ⟨a.log2, by simp [len, h]⟩
theorem len_le {a n : Nat} (h : a < 2 ^ n) : len a ≤ n := by
  by_cases z : a = 0
  · subst z; simp [len]
  · obtain ⟨m, hm⟩ := len_pos z
    rw [hm]
    have := (len_iff.1 hm).1
    apply Nat.lt_of_not_le
    intro c
    have := Nat.pow_le_pow_right (n := 2) (by omega) c
    have := Nat.pow_le_pow_right (n := 2) (by omega) (show n ≤ m + 1 - 1 from by omega)
    rw [Nat.add_sub_cancel] at this
    omega
theorem lt_of_len {a n : Nat} (h : len a ≤ n) : a < 2 ^ n := by
  by_cases z : a = 0
  · subst z; exact Nat.two_pow_pos n
  · obtain ⟨m, hm⟩ := len_pos z
    have := (len_iff.1 hm).2
    exact Nat.lt_of_lt_of_le this (Nat.pow_le_pow_right (by omega) (by omega))
theorem len_shift {a s : Nat} (h : a / 2 ^ s ≠ 0) : len a = s + len (a / 2 ^ s) := by
  obtain ⟨n, hn⟩ := len_pos h
  rw [hn]
  obtain ⟨u, v⟩ := len_iff.1 hn
  have hp := Nat.two_pow_pos s
  show len a = (s + n) + 1
  rw [len_iff, Nat.pow_add, show s + n + 1 = s + (n + 1) from rfl, Nat.pow_add 2 s]
  constructor
  · calc 2 ^ s * 2 ^ n ≤ 2 ^ s * (a / 2 ^ s) := Nat.mul_le_mul_left _ u
      _ ≤ a := Nat.mul_div_le _ _
  · rw [Nat.mul_comm]; exact (Nat.div_lt_iff_lt_mul hp).1 v
def tab : ByteArray := ⟨#[0, 1, 2, 2, 3, 3, 3, 3, 4, 4, 4, 4, 4, 4, 4, 4, 5, 5, 5, 5, 5, 5, 5, 5, 5, 5, 5, 5, 5, 5, 5, 5, 6, 6, 6, 6, 6, 6, 6, 6, 6, 6, 6, 6, 6, 6, 6, 6, 6, 6, 6, 6, 6, 6, 6, 6, 6, 6, 6, 6, 6, 6, 6, 6, 7, 7, 7, 7, 7, 7, 7, 7, 7, 7, 7, 7, 7, 7, 7, 7, 7, 7, 7, 7, 7, 7, 7, 7, 7, 7, 7, 7, 7, 7, 7, 7, 7, 7, 7, 7, 7, 7, 7, 7, 7, 7, 7, 7, 7, 7, 7, 7, 7, 7, 7, 7, 7, 7, 7, 7, 7, 7, 7, 7, 7, 7, 7, 7, 8, 8, 8, 8, 8, 8, 8, 8, 8, 8, 8, 8, 8, 8, 8, 8, 8, 8, 8, 8, 8, 8, 8, 8, 8, 8, 8, 8, 8, 8, 8, 8, 8, 8, 8, 8, 8, 8, 8, 8, 8, 8, 8, 8, 8, 8, 8, 8, 8, 8, 8, 8, 8, 8, 8, 8, 8, 8, 8, 8, 8, 8, 8, 8, 8, 8, 8, 8, 8, 8, 8, 8, 8, 8, 8, 8, 8, 8, 8, 8, 8, 8, 8, 8, 8, 8, 8, 8, 8, 8, 8, 8, 8, 8, 8, 8, 8, 8, 8, 8, 8, 8, 8, 8, 8, 8, 8, 8, 8, 8, 8, 8, 8, 8, 8, 8, 8, 8, 8, 8, 8, 8, 8, 8, 8, 8, 8, 8]⟩
theorem tab_all : ∀ c : Fin 256, bt tab ((c.val : Nat) : Int) = ((len c.val : Nat) : Int) := by decide +kernel
theorem tab_len {e : Int} {c : Nat} (he : e = (c : Int)) (h : c < 256) : wrap64 (bt (⟨#[0, 1, 2, 2, 3, 3, 3, 3, 4, 4, 4, 4, 4, 4, 4, 4, 5, 5, 5, 5, 5, 5, 5, 5, 5, 5, 5, 5, 5, 5, 5, 5, 6, 6, 6, 6, 6, 6, 6, 6, 6, 6, 6, 6, 6, 6, 6, 6, 6, 6, 6, 6, 6, 6, 6, 6, 6, 6, 6, 6, 6, 6, 6, 6, 7, 7, 7, 7, 7, 7, 7, 7, 7, 7, 7, 7, 7, 7, 7, 7, 7, 7, 7, 7, 7, 7, 7, 7, 7, 7, 7, 7, 7, 7, 7, 7, 7, 7, 7, 7, 7, 7, 7, 7, 7, 7, 7, 7, 7, 7, 7, 7, 7, 7, 7, 7, 7, 7, 7, 7, 7, 7, 7, 7, 7, 7, 7, 7, 8, 8, 8, 8, 8, 8, 8, 8, 8, 8, 8, 8, 8, 8, 8, 8, 8, 8, 8, 8, 8, 8, 8, 8, 8, 8, 8, 8, 8, 8, 8, 8, 8, 8, 8, 8, 8, 8, 8, 8, 8, 8, 8, 8, 8, 8, 8, 8, 8, 8, 8, 8, 8, 8, 8, 8, 8, 8, 8, 8, 8, 8, 8, 8, 8, 8, 8, 8, 8, 8, 8, 8, 8, 8, 8, 8, 8, 8, 8, 8, 8, 8, 8, 8, 8, 8, 8, 8, 8, 8, 8, 8, 8, 8, 8, 8, 8, 8, 8, 8, 8, 8, 8, 8, 8, 8, 8, 8, 8, 8, 8, 8, 8, 8, 8, 8, 8, 8, 8, 8, 8, 8, 8, 8, 8, 8, 8, 8]⟩ : ByteArray) e) = ((len c : Nat) : Int) := by
  subst he
  have g : bt tab (c : Int) = ((len c : Nat) : Int) := tab_all ⟨c, h⟩
  have b : len c ≤ 8 := len_le (by omega)
  have g' : bt (⟨#[0, 1, 2, 2, 3, 3, 3, 3, 4, 4, 4, 4, 4, 4, 4, 4, 5, 5, 5, 5, 5, 5, 5, 5, 5, 5, 5, 5, 5, 5, 5, 5, 6, 6, 6, 6, 6, 6, 6, 6, 6, 6, 6, 6, 6, 6, 6, 6, 6, 6, 6, 6, 6, 6, 6, 6, 6, 6, 6, 6, 6, 6, 6, 6, 7, 7, 7, 7, 7, 7, 7, 7, 7, 7, 7, 7, 7, 7, 7, 7, 7, 7, 7, 7, 7, 7, 7, 7, 7, 7, 7, 7, 7, 7, 7, 7, 7, 7, 7, 7, 7, 7, 7, 7, 7, 7, 7, 7, 7, 7, 7, 7, 7, 7, 7, 7, 7, 7, 7, 7, 7, 7, 7, 7, 7, 7, 7, 7, 8, 8, 8, 8, 8, 8, 8, 8, 8, 8, 8, 8, 8, 8, 8, 8, 8, 8, 8, 8, 8, 8, 8, 8, 8, 8, 8, 8, 8, 8, 8, 8, 8, 8, 8, 8, 8, 8, 8, 8, 8, 8, 8, 8, 8, 8, 8, 8, 8, 8, 8, 8, 8, 8, 8, 8, 8, 8, 8, 8, 8, 8, 8, 8, 8, 8, 8, 8, 8, 8, 8, 8, 8, 8, 8, 8, 8, 8, 8, 8, 8, 8, 8, 8, 8, 8, 8, 8, 8, 8, 8, 8, 8, 8, 8, 8, 8, 8, 8, 8, 8, 8, 8, 8, 8, 8, 8, 8, 8, 8, 8, 8, 8, 8, 8, 8, 8, 8, 8, 8, 8, 8, 8, 8, 8, 8, 8, 8]⟩ : ByteArray) (c : Int) = ((len c : Nat) : Int) := g
  rw [g', wrap64_id (by omega) (by omega)]
/-- m's degree is d -/
def Deg (m d : Nat) : Prop := 2 ^ d ≤ m ∧ m < 2 ^ (d + 1)
theorem Deg.ofLen {m d : Nat} (h : len m = d + 1) : Deg m d := len_iff.1 h
theorem Deg.len {m d : Nat} (h : Deg m d) : len m = d + 1 := len_iff.2 h
theorem Deg.lt {m d : Nat} (h : Deg m d) (hm : m < 2 ^ 64) : d < 64 := by
  have h1 := h.1
  apply Nat.lt_of_not_le
  intro c
  have := Nat.pow_le_pow_right (n := 2) (by omega) c
  omega
theorem exists_deg {m : Nat} (h : m ≠ 0) : ∃ d, Deg m d := exists_top h
theorem pow64 {n : Nat} (h : n ≤ 64) : 2 ^ n ≤ 2 ^ 64 := Nat.pow_le_pow_right (by omega) h
theorem halves (b i : Nat) : b / 2 ^ i % 2 = (b.testBit i).toNat ∧ b / 2 ^ i / 2 = b / 2 ^ (i + 1) := by
  constructor
  · rw [Nat.testBit_eq_decide_div_mod_eq]
    rcases Nat.mod_two_eq_zero_or_one (b / 2 ^ i) with h | h <;> simp [h]
  · rw [Nat.pow_succ, Nat.div_div_eq_div_mul]

theorem or_new {x s : Nat} (h : x % 2 ^ (s + 1) = 0) : x ||| 2 ^ s = x + 2 ^ s ∧ (x + 2 ^ s) % 2 ^ s = 0 := by
  have e : x = 2 ^ (s + 1) * (x / 2 ^ (s + 1)) := by have := Nat.div_add_mod x (2 ^ (s + 1)); omega
  have hlt : 2 ^ s < 2 ^ (s + 1) := Nat.pow_lt_pow_right (by omega) (by omega)
  constructor
  · rw [e, ← Nat.two_pow_add_eq_or_of_lt hlt]
  · rw [e, Nat.pow_succ, Nat.mul_assoc]; simp

theorem len64_j {x n : Nat} (hx : x < 2 ^ 32) (hn : n ≤ 64) : Ev (fun k => bits_Len64.j0 k (x : Int) (n : Int)) ((n + len x : Nat) : Int) := by
  refine Ev.step (fun k => bits_Len64.j0.eq_2 ..) ?_
  by_cases c1 : (x : Int) ≥ 65536
  · refine Ev_ite_pos c1 ?_
    by_cases c2 : ((x : Int) / 65536) ≥ 256
    · refine Ev_ite_pos c2 (Ev_ite_pos (by omega) (Ev_ite_pos (by omega) ?_))
      have e : (((x : Int) / 65536) / 256) % 256 = ((x / 2 ^ 24 : Nat) : Int) := by omega
      rw [tab_len e (by omega), wrap64_id (n := (n : Int) + 16) (by omega) (by omega), wrap64_id (n := (n : Int) + 16 + 8) (by omega) (by omega)]
      have b : len (x / 2 ^ 24) ≤ 8 := len_le (by omega)
      rw [wrap64_id (by omega) (by omega), len_shift (a := x) (s := 24) (by omega), show ((n : Int) + 16 + 8 + (len (x / 2 ^ 24) : Nat)) = ((n + (24 + len (x / 2 ^ 24)) : Nat) : Int) from by omega]
      exact Ev.now _
    · refine Ev_ite_neg c2 (Ev_ite_pos (by omega) (Ev_ite_pos (by omega) ?_))
      have e : ((x : Int) / 65536) % 256 = ((x / 2 ^ 16 : Nat) : Int) := by omega
      rw [tab_len e (by omega), wrap64_id (n := (n : Int) + 16) (by omega) (by omega)]
      have b : len (x / 2 ^ 16) ≤ 8 := len_le (by omega)
      rw [wrap64_id (by omega) (by omega), len_shift (a := x) (s := 16) (by omega), show ((n : Int) + 16 + (len (x / 2 ^ 16) : Nat)) = ((n + (16 + len (x / 2 ^ 16)) : Nat) : Int) from by omega]
      exact Ev.now _
  · refine Ev_ite_neg c1 ?_
    by_cases c2 : (x : Int) ≥ 256
    · refine Ev_ite_pos c2 (Ev_ite_pos (by omega) (Ev_ite_pos (by omega) ?_))
      have e : ((x : Int) / 256) % 256 = ((x / 2 ^ 8 : Nat) : Int) := by omega
      rw [tab_len e (by omega), wrap64_id (n := (n : Int) + 8) (by omega) (by omega)]
      have b : len (x / 2 ^ 8) ≤ 8 := len_le (by omega)
      rw [wrap64_id (by omega) (by omega), len_shift (a := x) (s := 8) (by omega), show ((n : Int) + 8 + (len (x / 2 ^ 8) : Nat)) = ((n + (8 + len (x / 2 ^ 8)) : Nat) : Int) from by omega]
      exact Ev.now _
    · refine Ev_ite_neg c2 (Ev_ite_pos (by omega) (Ev_ite_pos (by omega) ?_))
      have e : (x : Int) % 256 = (x : Int) := by omega
      rw [e, tab_len rfl (by omega)]
      have b : len x ≤ 8 := len_le (by omega)
      rw [wrap64_id (by omega) (by omega), show ((n : Int) + (len x : Nat)) = ((n + len x : Nat) : Int) from by omega]
      exact Ev.now _
theorem len64_ev {x : Nat} (hx : x < 2 ^ 64) : Ev (fun k => bits_Len64.f k (x : Int)) ((len x : Nat) : Int) := by
  unfold bits_Len64.f
  by_cases c : (x : Int) ≥ 4294967296
  · refine Ev_ite_pos c ?_
    rw [show (x : Int) / 4294967296 = ((x / 2 ^ 32 : Nat) : Int) from by omega, len_shift (a := x) (s := 32) (by omega)]
    exact len64_j (n := 32) (by omega) (by omega)
  · refine Ev_ite_neg c ?_
    have := len64_j (x := x) (n := 0) (by omega) (by omega)
    rwa [Nat.zero_add] at this
theorem degree_ev {x : Nat} (hx : x < 2 ^ 64) : Ev (fun k => poly_Degree.f k (x : Int)) (((len x : Nat) : Int) - 1) := by
  unfold poly_Degree.f
  refine Ev.bind (len64_ev hx) ?_
  have := len_le hx
  rw [wrap64_id (by omega) (by omega)]
  exact Ev.now _
theorem deg_ev {m d : Nat} (hd : Deg m d) (hm : m < 2 ^ 64) : Ev (fun k => poly_Degree.f k (m : Int)) (d : Int) := by
  have := degree_ev hm
  rw [hd.len, show (((d + 1 : Nat) : Int) - 1) = (d : Int) from by omega] at this
  exact this
theorem reduce_f {x m d : Nat} (hx : x < 2 ^ 64) (hm : m < 2 ^ 64) (hd : d ≤ 64) : poly_reduce.f (x : Int) (m : Int) (d : Int) = some ((red m d x : Nat) : Int) := by
  unfold poly_reduce.f red
  rw [if_pos (by omega)]
  by_cases c : x.testBit d = true
  · have : ¬ (Go.bits .and .u64 (shr .u64 (x : Int) (d : Int)) 1 = 0) := by rw [bit64_zero hx hd, c]; simp
    rw [if_neg this, if_pos c, xor64 hx hm]
  · have c' : x.testBit d = false := by simpa using c
    rw [if_pos ((bit64_zero hx hd).2 c'), if_neg c]
theorem xor_len {p q d s : Nat} (hq : Deg q d) (hp : len p = d + s + 1) : len (p ^^^ q * 2 ^ s) ≤ d + s := by
  obtain ⟨u, v⟩ := len_iff.1 hp
  have h := @red_lt (q * 2 ^ s) (d + s) p ?_ ?_ v
  · unfold red at h
    rw [testBit_top v, if_pos (by simpa using u)] at h
    exact len_le h
  · rw [Nat.pow_add]; exact Nat.mul_le_mul_right _ hq.1
  · rw [show d + s + 1 = d + 1 + s from by omega, Nat.pow_add]; exact Nat.mul_lt_mul_of_pos_right hq.2 (Nat.two_pow_pos s)
theorem div_loop {q d : Nat} (hd : Deg q d) : ∀ (n p x : Nat), len p ≤ n → p < 2 ^ 64 → x < 2 ^ 64 → (∀ s, len p = d + s + 1 → x % 2 ^ (s + 1) = 0) →
    ∃ A R, p = cm q A ^^^ R ∧ R < 2 ^ d ∧ x + A < 2 ^ 64 ∧ Ev (fun k => poly_DivMod.l0 k (p : Int) (q : Int) (d : Int) (x : Int)) (((x + A : Nat) : Int), (R : Int), 0) := by
  intro n
  induction n with
  | zero =>
    intro p x hn hp hx _
    have z : len p = 0 := by omega
    refine ⟨0, p, by simp [cm_zero], Nat.lt_of_lt_of_le (lt_of_len hn) (Nat.two_pow_pos d), hx, ?_⟩
    refine Ev.step (fun k => poly_DivMod.l0.eq_2 ..) (Ev.bind (degree_ev hp) (Ev_ite_neg (by omega) ?_))
    exact Ev.now _
  | succ n ih =>
    intro p x hn hp hx hz
    by_cases c : len p ≤ d
    · refine ⟨0, p, by simp [cm_zero], lt_of_len c, hx, ?_⟩
      refine Ev.step (fun k => poly_DivMod.l0.eq_2 ..) (Ev.bind (degree_ev hp) (Ev_ite_neg (by omega) ?_))
      exact Ev.now _
    · obtain ⟨s, hs⟩ : ∃ s, len p = d + s + 1 := ⟨len p - d - 1, by omega⟩
      have hle := len_le hp
      have hx' := or_new (hz s hs)
      have hlen := xor_len hd hs
      have hq2 : q * 2 ^ s < 2 ^ 64 := by
        have : q * 2 ^ s < 2 ^ (d + 1) * 2 ^ s := Nat.mul_lt_mul_of_pos_right hd.2 (Nat.two_pow_pos s)
        rw [← Nat.pow_add] at this
        exact Nat.lt_of_lt_of_le this (pow64 (by omega))
      have hs64 : 2 ^ s < 2 ^ 64 := Nat.pow_lt_pow_right (by omega) (by omega)
      have hxo : x + 2 ^ s < 2 ^ 64 := by rw [← hx'.1]; exact Nat.or_lt_two_pow hx hs64
      have hp' : p ^^^ q * 2 ^ s < 2 ^ 64 := Nat.xor_lt_two_pow hp hq2
      obtain ⟨A, R, h1, h2, h3, h4⟩ := ih (p ^^^ q * 2 ^ s) (x + 2 ^ s) (by omega) hp' hxo (by
        intro t ht
        have h5 := hx'.2
        have : 2 ^ s = 2 ^ (t + 1) * 2 ^ (s - (t + 1)) := by rw [← Nat.pow_add]; congr 1; omega
        rw [this] at h5 ⊢
        exact Nat.mod_eq_zero_of_dvd (Nat.dvd_trans (Nat.dvd_mul_right _ _) (Nat.dvd_of_mod_eq_zero h5)))
      have hA : 2 ^ s + A = 2 ^ s ^^^ A := by
        have hAlt : A < 2 ^ s := by
          by_cases z : A = 0
          · subst z; exact Nat.two_pow_pos s
          · obtain ⟨t, ht1, ht2⟩ := exists_top z
            have b := (cm_top hd.1 hd.2 t A ht1 ht2).1
            have b2 : cm q A ^^^ R < 2 ^ (d + s) := by rw [← h1]; exact lt_of_len hlen
            have b3 : R < 2 ^ (d + t) := Nat.lt_of_lt_of_le h2 (Nat.pow_le_pow_right (by omega) (by omega))
            have b4 := (xor_top b3 b (cm_top hd.1 hd.2 t A ht1 ht2).2).1
            rw [Nat.xor_comm] at b4
            have : t < s := by
              apply Nat.lt_of_not_le
              intro cc
              have := Nat.pow_le_pow_right (n := 2) (by omega) (show d + s ≤ d + t from by omega)
              omega
            exact Nat.lt_of_lt_of_le ht2 (Nat.pow_le_pow_right (by omega) (by omega))
        have := add_eq_xor (a := 1) hAlt
        rwa [Nat.one_mul] at this
      refine ⟨2 ^ s + A, R, ?_, h2, by omega, ?_⟩
      · rw [hA, cm_xor, cm_pow, Nat.xor_assoc, ← h1, Nat.xor_comm p, ← Nat.xor_assoc, Nat.xor_self, Nat.zero_xor]
      · refine Ev.step (fun k => poly_DivMod.l0.eq_2 ..) (Ev.bind (degree_ev hp) (Ev_ite_pos (by omega) (Ev.bind (degree_ev hp) ?_)))
        have e : wrap64 ((((len p : Nat) : Int) - 1) - (d : Int)) = (s : Int) := by rw [wrap64_id (by omega) (by omega)]; omega
        rw [e]
        refine Ev_ite_pos (by omega) ?_
        rw [shl64 (by omega), Nat.mod_eq_of_lt (by omega), xor64 hp hq2, show (1 : Int) = ((1 : Nat) : Int) from rfl, shl64 (by omega), Nat.one_mul, Nat.mod_eq_of_lt (by omega), or64 hx hs64, hx'.1, ← Nat.add_assoc]
        exact h4
/-- the division, whatever is divided -/
theorem div_ev {p q d : Nat} (hd : Deg q d) (hp : p < 2 ^ 64) (hq : q < 2 ^ 64) :
    ∃ A, p = cm q A ^^^ pm q d p ∧ A < 2 ^ 64 ∧ Ev (fun k => poly_DivMod.f k (p : Int) (q : Int)) ((A : Int), ((pm q d p : Nat) : Int), 0) := by
  obtain ⟨A, R, h1, h2, h3, h4⟩ := div_loop hd (len p) p 0 (Nat.le_refl _) hp (by omega) (fun s _ => Nat.zero_mod _)
  have hR : pm q d p = R := pm_unique hd.1 hd.2 h2 ⟨A, by rw [h1, Nat.xor_assoc, Nat.xor_self, Nat.xor_zero]⟩
  rw [hR]
  refine ⟨A, h1, by omega, ?_⟩
  unfold poly_DivMod.f
  have hq0 : q ≠ 0 := by
    have h5 := hd.1
    have h6 := Nat.two_pow_pos d
    omega
  refine Ev_ite_neg (by omega) (Ev.bind (deg_ev hd hq) ?_)
  rw [Nat.zero_add] at h4
  exact h4
theorem pm_one (p : Nat) : pm 1 0 p = 0 := by
  have := pm_lt (m := 1) (d := 0) (by omega) (by omega) p
  omega
theorem deg_one {d : Nat} (h : Deg 1 d) : d = 0 := by
  have h1 := h.1
  by_cases z : d = 0
  · exact z
  · have := Nat.pow_le_pow_right (n := 2) (by omega) (show 1 ≤ d from by omega)
    omega
theorem deg_ge {m d : Nat} (h : Deg m d) (hm : 1 < m) : 1 ≤ d := by
  have h2 := h.2
  by_cases z : d = 0
  · subst z; omega
  · omega
theorem mul_loop {m d a b : Nat} (hd : Deg m d) (hm : m < 2 ^ 64) (ha : a < 2 ^ d) (hb : b < 2 ^ d) :
    ∀ (i out : Nat), i ≤ d → out = pm m d (cm a (b / 2 ^ i)) →
    Ev (fun k => poly_MulMod.l0 k (m : Int) (a : Int) (b : Int) (d : Int) (out : Int) ((i : Int) - 1)) (((pm m d (cm a b) : Nat) : Int), 0) := by
  have hd64 := hd.lt hm
  have hb64 : b < 2 ^ 64 := Nat.lt_of_lt_of_le hb (pow64 (by omega))
  have ha64 : a < 2 ^ 64 := Nat.lt_of_lt_of_le ha (pow64 (by omega))
  intro i
  induction i with
  | zero =>
    intro out _ ho
    refine Ev.step (fun k => poly_MulMod.l0.eq_2 ..) (Ev_ite_neg (by omega) ?_)
    rw [ho, Nat.pow_zero, Nat.div_one]; exact Ev.now _
  | succ i ih =>
    intro out hi ho
    have hout : out < 2 ^ d := by rw [ho]; exact pm_lt hd.1 hd.2 _
    have hout2 : 2 * out < 2 ^ (d + 1) := by rw [Nat.pow_succ]; omega
    have h2 : 2 * out < 2 ^ 64 := Nat.lt_of_lt_of_le hout2 (pow64 (by omega))
    have e1 : ((i + 1 : Nat) : Int) - 1 = (i : Int) := by omega
    rw [e1]
    refine Ev.step (fun k => poly_MulMod.l0.eq_2 ..) (Ev_ite_pos (by omega) ?_)
    have e2 : IntKind.u64.wrap ((out : Int) * 2) = ((2 * out : Nat) : Int) := by rw [wrap_u64]; omega
    rw [e2, reduce_f h2 hm (by omega)]
    refine Ev_some (Ev_ite_pos (by omega) ?_)
    have hr : red m d (2 * out) < 2 ^ d := red_lt hd.1 hd.2 hout2
    have e3 : wrap64 ((i : Int) - 1) = (i : Int) - 1 := wrap64_id (by omega) (by omega)
    rw [e3]
    have hh := halves b i
    have key : pm m d (cm a (b / 2 ^ i)) = red m d (2 * out) ^^^ (if b.testBit i = true then a else 0) := by
      apply pm_unique hd.1 hd.2
      · refine Nat.xor_lt_two_pow hr ?_
        split
        · exact ha
        · exact Nat.two_pow_pos d
      · rw [cm_eq, hh.2, hh.1, Nat.xor_comm]
        refine Cong.xor ?_ ?_
        · refine Cong.trans ?_ (red_cong m d _)
          rw [ho]; exact (pm_cong m d _).dbl
        · cases b.testBit i <;> simp <;> exact Cong.refl m _
    by_cases c : b.testBit i = true
    · refine Ev_ite_neg (by rw [bit64_zero hb64 (by omega), c]; simp) ?_
      rw [xor64 (Nat.lt_of_lt_of_le hr (pow64 (by omega))) ha64]
      exact ih _ (by omega) (by rw [key, if_pos c])
    · have c' : b.testBit i = false := by simpa using c
      refine Ev_ite_pos ((bit64_zero hb64 (by omega)).2 c') ?_
      exact ih _ (by omega) (by rw [key, if_neg c, Nat.xor_zero])
theorem mul_ev {p q m d : Nat} (hd : Deg m d) (hm : m < 2 ^ 64) (hp : p < 2 ^ 64) (hq : q < 2 ^ 64) :
    Ev (fun k => poly_MulMod.f k (p : Int) (q : Int) (m : Int)) (((pm m d (cm p q) : Nat) : Int), 0) := by
  have hm0 : m ≠ 0 := by
    have h5 := hd.1
    have h6 := Nat.two_pow_pos d
    omega
  unfold poly_MulMod.f
  refine Ev_ite_neg (by omega) ?_
  by_cases h1 : m = 1
  · subst h1
    obtain rfl := deg_one hd
    refine Ev_ite_pos rfl ?_
    rw [pm_one]; exact Ev.now _
  · refine Ev_ite_neg (by omega) ?_
    obtain ⟨_, _, _, ea⟩ := div_ev hd hp hm
    obtain ⟨_, _, _, eb⟩ := div_ev hd hq hm
    refine Ev.bind ea (Ev.bind eb (Ev.bind (deg_ev hd hm) ?_))
    have hd1 := deg_ge hd (by omega)
    have hd64 := hd.lt hm
    rw [wrap64_id (by omega) (by omega)]
    have g := mul_loop hd hm (pm_lt hd.1 hd.2 p) (pm_lt hd.1 hd.2 q) d 0 (Nat.le_refl _) (by rw [Nat.div_eq_of_lt (pm_lt hd.1 hd.2 q), cm_zero, pm_zero])
    rw [pm_mul hd.1 hd.2, cm_comm p, pm_mul hd.1 hd.2, cm_comm q] at g
    exact g
theorem pow_loop {m d n : Nat} (hd : Deg m d) (hm : m < 2 ^ 64) (hn : n < 2 ^ 64) :
    ∀ (i : Nat), i ≤ 64 → ∀ out : Nat, out = pm m d (2 ^ (n / 2 ^ i)) →
    Ev (fun k => poly_PowMod.l0 k (n : Int) (m : Int) (out : Int) ((i : Int) - 1)) (((pm m d (2 ^ n) : Nat) : Int), 0) := by
  have hd64 := hd.lt hm
  intro i
  induction i with
  | zero =>
    intro _ out ho
    refine Ev.step (fun k => poly_PowMod.l0.eq_2 ..) (Ev_ite_neg (by omega) ?_)
    rw [ho, Nat.pow_zero, Nat.div_one]; exact Ev.now _
  | succ i ih =>
    intro hi out ho
    have hlt : ∀ x, pm m d x < 2 ^ 64 := fun x => Nat.lt_of_lt_of_le (pm_lt hd.1 hd.2 x) (pow64 (by omega))
    have hout : out < 2 ^ 64 := by rw [ho]; exact hlt _
    have e1 : ((i + 1 : Nat) : Int) - 1 = (i : Int) := by omega
    rw [e1]
    refine Ev.step (fun k => poly_PowMod.l0.eq_2 ..) (Ev_ite_pos (by omega) (Ev.bind (mul_ev hd hm hout hout) (Ev_ite_pos (by omega) ?_)))
    have e3 : wrap64 ((i : Int) - 1) = (i : Int) - 1 := wrap64_id (by omega) (by omega)
    simp only [e3]
    have hh := halves n i
    have sq : pm m d (cm out out) = pm m d (2 ^ (2 * (n / 2 ^ (i + 1)))) := by
      rw [ho, pm_mul hd.1 hd.2, cm_comm, pm_mul hd.1 hd.2, cm_pow, ← Nat.pow_add]
      congr 2; omega
    by_cases c : n.testBit i = true
    · refine Ev_ite_neg (by rw [bit64_zero hn (by omega), c]; simp) ?_
      refine Ev.bind (mul_ev (q := 2) hd hm (hlt _) (by omega)) ?_
      refine ih (by omega) _ ?_
      rw [pm_mul hd.1 hd.2, ← Nat.pow_one 2, cm_pow, ← pm_shift hd.1 hd.2, Nat.pow_one, sq, ← Nat.pow_one 2, ← Nat.pow_mul, Nat.pow_one, Nat.one_mul, ← Nat.pow_one 2, pm_shift hd.1 hd.2, Nat.pow_one, ← Nat.pow_succ]
      congr 2
      rw [c] at hh; simp at hh; omega
    · have c' : n.testBit i = false := by simpa using c
      refine Ev_ite_pos ((bit64_zero hn (by omega)).2 c') ?_
      refine ih (by omega) _ ?_
      rw [sq]
      congr 2
      rw [c'] at hh; simp at hh; omega
theorem pow_ev {m d n : Nat} (hd : Deg m d) (hm : m < 2 ^ 64) (hn : n < 2 ^ 64) :
    Ev (fun k => poly_PowMod.f k (n : Int) (m : Int)) (((pm m d (2 ^ n) : Nat) : Int), 0) := by
  have hm0 : m ≠ 0 := by
    have h5 := hd.1
    have h6 := Nat.two_pow_pos d
    omega
  unfold poly_PowMod.f
  obtain ⟨_, _, _, ea⟩ := div_ev (p := 1) hd (by omega) hm
  have hl := len_le hn
  refine Ev_ite_neg (by omega) (Ev.bind ea (Ev.bind (len64_ev hn) ?_))
  rw [wrap64_id (by omega) (by omega)]
  refine pow_loop hd hm hn (len n) hl _ ?_
  rw [Nat.div_eq_of_lt (lt_of_len (Nat.le_refl _)), Nat.pow_zero]

theorem pm_bit (m d x b : Nat) (hb : b < 2) : pm m d (2 * x + b) = red m d (2 * pm m d x ^^^ b) := by
  rw [pm_eq, show (2 * x + b) / 2 = x from by omega, show (2 * x + b) % 2 = b from by omega]

theorem of_inner {m d : Nat} (hd : Deg m d) (hm : m < 2 ^ 64) (l : List Int) (i P : Nat) (c : Nat) (hc : c < 256) (hi : i < 9223372036854775807) (r : Int × Int)
    (h : Ev (fun k => poly_Of.l0 k (m : Int) (d : Int) ((pm m d (P * 2 ^ 8 + c) : Nat) : Int) l (l.length : Int) ((i + 1 : Nat) : Int)) r) :
    ∀ (j out : Nat), j ≤ 8 → out = pm m d (P * 2 ^ (8 - j) + c / 2 ^ j) →
    Ev (fun k => poly_Of.l1 k (m : Int) (d : Int) (out : Int) (c : Int) ((j : Int) - 1) l (l.length : Int) (i : Int)) r := by
  have hd64 := hd.lt hm
  intro j
  induction j with
  | zero =>
    intro out _ ho
    refine Ev.step (fun k => poly_Of.l1.eq_2 ..) (Ev_ite_neg (by omega) ?_)
    have e : wrap64 ((i : Int) + 1) = ((i + 1 : Nat) : Int) := by rw [wrap64_id (by omega) (by omega)]; omega
    rw [e, ho, Nat.pow_zero, Nat.div_one]; exact h
  | succ j ih =>
    intro out hj ho
    have e1 : ((j + 1 : Nat) : Int) - 1 = (j : Int) := by omega
    rw [e1]
    have hout : out < 2 ^ d := by rw [ho]; exact pm_lt hd.1 hd.2 _
    have hout2 : 2 * out < 2 ^ (d + 1) := by rw [Nat.pow_succ]; omega
    have h2 : 2 * out < 2 ^ 64 := Nat.lt_of_lt_of_le hout2 (pow64 (by omega))
    refine Ev.step (fun k => poly_Of.l1.eq_2 ..) (Ev_ite_pos (by omega) (Ev_ite_pos (by omega) ?_))
    have e2 : IntKind.u64.wrap ((out : Int) * 2) = ((2 * out : Nat) : Int) := by rw [wrap_u64]; omega
    have hb2 : (c.testBit j).toNat < 2 := by cases c.testBit j <;> simp
    have e3 : IntKind.u64.wrap (Go.bits .and .u8 (shr .u8 (c : Int) (j : Int)) 1) = (((c.testBit j).toNat : Nat) : Int) := by
      rw [bit8 hc (by omega), wrap_u64]; omega
    rw [e2, e3, xor64 h2 (by omega), reduce_f (Nat.xor_lt_two_pow h2 (by omega)) hm (by omega)]
    have e4 : wrap64 ((j : Int) - 1) = (j : Int) - 1 := wrap64_id (by omega) (by omega)
    rw [e4]
    refine Ev_some (ih _ (by omega) ?_)
    rw [ho, ← pm_bit _ _ _ _ hb2]
    congr 1
    have hh := halves c j
    have e5 : P * 2 ^ (8 - j) = 2 * (P * 2 ^ (8 - (j + 1))) := by
      rw [show 8 - j = (8 - (j + 1)) + 1 from by omega, Nat.pow_succ, ← Nat.mul_assoc, Nat.mul_comm 2]
    rw [e5, ← hh.2]
    generalize P * 2 ^ (8 - (j + 1)) = u at *
    generalize c / 2 ^ j = v at *
    omega
theorem of_loop {m d : Nat} (hd : Deg m d) (hm : m < 2 ^ 64) : ∀ (l pre : List Int) , By l → (pre ++ l).length ≤ 140737488355328 →
    Ev (fun k => poly_Of.l0 k (m : Int) (d : Int) ((pm m d (pol pre) : Nat) : Int) (pre ++ l) ((pre ++ l).length : Int) (pre.length : Int)) (((pm m d (pol (pre ++ l)) : Nat) : Int), 0) := by
  intro l
  induction l with
  | nil =>
    intro pre _ _
    refine Ev.step (fun k => poly_Of.l0.eq_2 ..) (Ev_ite_neg (by simp) ?_)
    rw [List.append_nil]; exact Ev.now _
  | cons c l ih =>
    intro pre hb hl
    obtain ⟨n, hn, hn2⟩ : ∃ n : Nat, c = (n : Int) ∧ n < 256 := by have := hb.head; exact ⟨c.toNat, by omega, by omega⟩
    have hlt : ((pre.length : Nat) : Int) < ((pre ++ c :: l).length : Int) := by simp; omega
    refine Ev.step (fun k => poly_Of.l0.eq_2 ..) (Ev_ite_pos hlt (Ev_ite_pos (by omega) (Ev_ite_pos hlt ?_)))
    rw [rd_at, hn]
    have g := ih (pre ++ [c]) hb.tail (by simpa using hl)
    have e : pol (pre ++ [c]) = pol pre * 2 ^ 8 + n := by rw [pol_append, pol_cons, hn]; simp [pol_nil]
    have e2 : ((pre ++ [c]).length : Int) = ((pre.length + 1 : Nat) : Int) := by simp
    rw [e, e2, List.append_assoc, List.singleton_append] at g
    rw [hn] at g
    simp only [List.length_append, List.length_cons] at hl
    exact of_inner hd hm _ pre.length (pol pre) n hn2 (by omega) _ g 8 _ (Nat.le_refl _) (by rw [Nat.div_eq_of_lt hn2]; simp)
theorem of_ev {m d : Nat} (hd : Deg m d) (hm : m < 2 ^ 64) {l : List Int} (hb : By l) (hl : l.length ≤ 140737488355328) :
    Ev (fun k => poly_Of.f k l (m : Int)) (((pm m d (pol l) : Nat) : Int), 0) := by
  have hm0 : m ≠ 0 := by
    have h5 := hd.1
    have h6 := Nat.two_pow_pos d
    omega
  unfold poly_Of.f
  refine Ev_ite_neg (by omega) ?_
  by_cases h1 : m = 1
  · subst h1
    obtain rfl := deg_one hd
    refine Ev_ite_pos rfl ?_
    rw [pm_one]; exact Ev.now _
  · refine Ev_ite_neg (by omega) (Ev.bind (deg_ev hd hm) ?_)
    have := of_loop hd hm l [] hb hl
    rw [pol_nil, pm_zero] at this
    exact this

theorem ref_degree_loop (p : Nat) (hp : p < 2 ^ 64) : ∀ (n i : Nat), i + n = 64 →
    Ev (fun k => parapetref01_Degree.l0 k (p : Int) (((len (p % 2 ^ i) : Nat) : Int) - 1) (i : Int)) (((len p : Nat) : Int) - 1) := by
  intro n
  induction n with
  | zero =>
    intro i hi
    obtain rfl : i = 64 := by omega
    refine Ev.step (fun k => parapetref01_Degree.l0.eq_2 ..) (Ev_ite_neg (by omega) ?_)
    rw [Nat.mod_eq_of_lt hp]; exact Ev.now _
  | succ n ih =>
    intro i hi
    refine Ev.step (fun k => parapetref01_Degree.l0.eq_2 ..) (Ev_ite_pos (by omega) (Ev_ite_pos (by omega) ?_))
    have e : wrap64 ((i : Int) + 1) = ((i + 1 : Nat) : Int) := by rw [wrap64_id (by omega) (by omega)]; omega
    rw [e]
    have g := ih (i + 1) (by omega)
    have hm : p % 2 ^ (i + 1) = (p.testBit i).toNat * 2 ^ i + p % 2 ^ i := by
      have hh := (halves p i).1
      rw [Nat.pow_succ, Nat.mod_mul, hh, Nat.mul_comm]; omega
    have hlt : p % 2 ^ i < 2 ^ i := Nat.mod_lt _ (Nat.two_pow_pos i)
    by_cases c : p.testBit i = true
    · refine Ev_ite_neg (by rw [bit64_zero hp (by omega), c]; simp) ?_
      rw [c] at hm
      simp only [Bool.toNat_true, Nat.one_mul] at hm
      have : len (p % 2 ^ (i + 1)) = i + 1 := len_iff.2 ⟨by omega, Nat.mod_lt _ (Nat.two_pow_pos _)⟩
      rw [this, show (((i + 1 : Nat) : Int) - 1) = (i : Int) from by omega] at g
      exact g
    · have c' : p.testBit i = false := by simpa using c
      refine Ev_ite_pos ((bit64_zero hp (by omega)).2 c') ?_
      rw [c'] at hm
      simp only [Bool.toNat_false, Nat.zero_mul, Nat.zero_add] at hm
      rw [hm] at g
      exact g
theorem ref_degree_ev {p : Nat} (hp : p < 2 ^ 64) : Ev (fun k => parapetref01_Degree.f k (p : Int)) (((len p : Nat) : Int) - 1) := by
  have := ref_degree_loop p hp 64 0 rfl
  rwa [Nat.pow_zero, Nat.mod_one] at this
theorem ref_deg_ev {m d : Nat} (hd : Deg m d) (hm : m < 2 ^ 64) : Ev (fun k => parapetref01_Degree.f k (m : Int)) (d : Int) := by
  have := ref_degree_ev hm
  rw [hd.len, show (((d + 1 : Nat) : Int) - 1) = (d : Int) from by omega] at this
  exact this

/-- the number of coefficients, the first one the highest -/
def bpol (l : List Bool) : Nat := l.foldl (fun a c => a * 2 + c.toNat) 0
theorem bpol_acc (l : List Bool) : ∀ a, l.foldl (fun a c => a * 2 + c.toNat) a = a * 2 ^ l.length + bpol l := by
  unfold bpol
  induction l with
  | nil => intro a; simp
  | cons c l ih =>
    intro a
    simp only [List.foldl_cons, List.length_cons]
    rw [ih, ih (0 * 2 + c.toNat), Nat.pow_succ, Nat.zero_mul, Nat.zero_add, Nat.add_mul, Nat.add_assoc, Nat.mul_assoc, Nat.mul_comm 2 (2 ^ l.length)]
theorem bpol_nil : bpol [] = 0 := rfl
theorem bpol_cons (c : Bool) (l : List Bool) : bpol (c :: l) = c.toNat * 2 ^ l.length + bpol l := by
  have := bpol_acc l (0 * 2 + c.toNat)
  unfold bpol at this ⊢
  rw [List.foldl_cons, this]; simp
theorem bpol_lt (l : List Bool) : bpol l < 2 ^ l.length := by
  induction l with
  | nil => simp [bpol_nil]
  | cons c l ih =>
    rw [bpol_cons, List.length_cons, Nat.pow_succ]
    cases c <;> simp <;> omega
theorem bpol_append (a b : List Bool) : bpol (a ++ b) = bpol a * 2 ^ b.length + bpol b := by
  induction a with
  | nil => simp [bpol_nil]
  | cons c a ih =>
    rw [List.cons_append, bpol_cons, ih, bpol_cons, List.length_append, Nat.pow_add, Nat.add_mul, Nat.mul_assoc, Nat.add_assoc]
theorem bpol_snoc (a : List Bool) (c : Bool) : bpol (a ++ [c]) = 2 * bpol a + c.toNat := by
  rw [bpol_append, bpol_cons, bpol_nil]; simp; omega
theorem rdOf_at (pre : List Bool) (c : Bool) (l : List Bool) : rdOf false (pre ++ c :: l) (pre.length : Int) = c := by
  unfold rdOf; simp
theorem rbits_loop {m d : Nat} (hd : Deg m d) (hm : m < 2 ^ 64) (hd1 : 1 ≤ d) : ∀ (l pre : List Bool), (pre ++ l).length ≤ 9223372036854775806 →
    Ev (fun k => parapetref01_Bits.l0 k (pre ++ l) (m : Int) (d : Int) ((pm m d (bpol pre) : Nat) : Int) (pre.length : Int)) ((pm m d (bpol (pre ++ l)) : Nat) : Int) := by
  have hd64 := hd.lt hm
  intro l
  induction l with
  | nil =>
    intro pre _
    refine Ev.step (fun k => parapetref01_Bits.l0.eq_2 ..) (Ev_ite_neg (by simp) ?_)
    rw [List.append_nil]; exact Ev.now _
  | cons c l ih =>
    intro pre hl
    have hlt : ((pre.length : Nat) : Int) < ((pre ++ c :: l).length : Int) := by simp; omega
    have hlt' := pm_lt hd.1 hd.2 (bpol pre)
    have hout2 : 2 * pm m d (bpol pre) < 2 ^ (d + 1) := by rw [Nat.pow_succ]; omega
    have h2 : 2 * pm m d (bpol pre) < 2 ^ 64 := Nat.lt_of_lt_of_le hout2 (pow64 (by omega))
    have h1 : pm m d (bpol pre) < 2 ^ 64 := by omega
    have g := ih (pre ++ [c]) (by simpa using hl)
    have e : wrap64 ((pre.length : Int) + 1) = ((pre ++ [c]).length : Int) := by
      simp only [List.length_append, List.length_cons] at hl
      rw [wrap64_id (by omega) (by omega)]; simp
    have e1 : wrap64 ((d : Int) - 1) = ((d - 1 : Nat) : Int) := by rw [wrap64_id (by omega) (by omega)]; omega
    have e2 : IntKind.u64.wrap (((pm m d (bpol pre) : Nat) : Int) * 2) = ((2 * pm m d (bpol pre) : Nat) : Int) := by rw [wrap_u64]; omega
    rw [bpol_snoc, pm_bit _ _ _ _ (by cases c <;> simp), List.append_assoc, List.singleton_append] at g
    have hbit : (2 * pm m d (bpol pre) ^^^ c.toNat).testBit d = (pm m d (bpol pre)).testBit (d - 1) := by
      obtain ⟨d', rfl⟩ : ∃ d', d = d' + 1 := ⟨d - 1, by omega⟩
      rw [Nat.testBit_xor, Nat.testBit_succ, Nat.mul_div_cancel_left _ (by omega), Nat.add_sub_cancel]
      have : c.toNat.testBit (d' + 1) = false := by
        apply Nat.testBit_lt_two_pow
        have := Nat.pow_le_pow_right (n := 2) (by omega) (show 1 ≤ d' + 1 from by omega)
        cases c <;> simp <;> omega
      rw [this, Bool.xor_false]
    unfold red at g
    rw [hbit] at g
    refine Ev.step (fun k => parapetref01_Bits.l0.eq_2 ..) (Ev_ite_pos hlt ?_)
    rw [e1]
    refine Ev_ite_pos (by omega) (Ev_ite_pos (by omega) ?_)
    rw [rdOf_at, e, e2, show (1 : Int) = ((1 : Nat) : Int) from rfl, xor64 h2 (by omega), xor64 (Nat.xor_lt_two_pow h2 (by omega)) hm, xor64 h2 hm]
    by_cases tb : (pm m d (bpol pre)).testBit (d - 1) = true
    · have tn : ¬ (Go.bits .and .u64 (shr .u64 ((pm m d (bpol pre) : Nat) : Int) ((d - 1 : Nat) : Int)) ((1 : Nat) : Int) = 0) := by
        rw [show ((1 : Nat) : Int) = 1 from rfl, bit64_zero h1 (by omega), tb]; simp
      rw [if_pos tb] at g
      cases c
      · refine Ev_ite_neg (by simp) (Ev_ite_neg tn ?_)
        simpa using g
      · refine Ev_ite_pos rfl (Ev_ite_neg tn ?_)
        simpa using g
    · have tb' : (pm m d (bpol pre)).testBit (d - 1) = false := by simpa using tb
      have tn : (Go.bits .and .u64 (shr .u64 ((pm m d (bpol pre) : Nat) : Int) ((d - 1 : Nat) : Int)) ((1 : Nat) : Int) = 0) := by
        rw [show ((1 : Nat) : Int) = 1 from rfl, bit64_zero h1 (by omega), tb']
      rw [if_neg tb] at g
      cases c
      · refine Ev_ite_neg (by simp) (Ev_ite_pos tn ?_)
        simpa using g
      · refine Ev_ite_pos rfl (Ev_ite_pos tn ?_)
        simpa using g
theorem rbits_ev {m d : Nat} (hd : Deg m d) (hm : m < 2 ^ 64) {l : List Bool} (hl : l.length ≤ 9223372036854775806) :
    Ev (fun k => parapetref01_Bits.f k l (m : Int)) ((pm m d (bpol l) : Nat) : Int) := by
  unfold parapetref01_Bits.f
  refine Ev.bind (ref_deg_ev hd hm) ?_
  by_cases h : d = 0
  · subst h
    refine Ev_ite_pos rfl ?_
    have := pm_lt hd.1 hd.2 (bpol l)
    rw [show pm m 0 (bpol l) = 0 from by omega]
    exact Ev.now _
  · refine Ev_ite_neg (by omega) ?_
    have := rbits_loop hd hm (by omega) l [] hl
    rw [bpol_nil, pm_zero] at this
    exact this

theorem rof_inner {m : Nat} (pre : List Int) (n : Nat) (l : List Int) (hn : n < 256) (hl : (pre ++ (n : Int) :: l).length ≤ 10000000) (r : Int × Int) (P : Nat)
    (h : ∀ bs : List Bool, bs.length = 8 * (pre.length + 1) → bpol bs = P * 256 + n → Ev (fun k => parapetref01_Of.l0 k (pre ++ (n : Int) :: l) (m : Int) bs ((pre.length + 1 : Nat) : Int)) r) :
    ∀ (j : Nat) (bs : List Bool), j ≤ 8 → bs.length + j = 8 * (pre.length + 1) → bpol bs = P * 2 ^ (8 - j) + n / 2 ^ j →
    Ev (fun k => parapetref01_Of.l1 k (pre ++ (n : Int) :: l) (m : Int) bs (pre.length : Int) ((j : Int) - 1)) r := by
  have hlen : (pre ++ (n : Int) :: l).length = pre.length + (l.length + 1) := by simp
  intro j
  induction j with
  | zero =>
    intro bs _ hb hp
    refine Ev.step (fun k => parapetref01_Of.l1.eq_2 ..) (Ev_ite_neg (by omega) ?_)
    rw [w_succ (by omega)]
    exact h bs (by omega) (by rw [hp, Nat.pow_zero, Nat.div_one])
  | succ j ih =>
    intro bs hj hb hp
    have e1 : ((j + 1 : Nat) : Int) - 1 = (j : Int) := by omega
    rw [e1]
    refine Ev.step (fun k => parapetref01_Of.l1.eq_2 ..) (Ev_ite_pos (by omega) (Ev_ite_pos (by omega) (Ev_ite_pos (by omega) (Ev_ite_pos (by omega) (Ev_ite_pos (by omega) ?_)))))
    rw [rd_at, bit8 hn (by omega), w_pred (by omega)]
    have eb : (((((n.testBit j).toNat : Nat) : Int)) != 0) = n.testBit j := by cases n.testBit j <;> rfl
    rw [eb]
    refine ih _ (by omega) (by rw [List.length_append, List.length_singleton]; omega) ?_
    rw [bpol_snoc, hp]
    have hh := halves n j
    have e5 : P * 2 ^ (8 - j) = 2 * (P * 2 ^ (8 - (j + 1))) := by
      rw [show 8 - j = (8 - (j + 1)) + 1 from by omega, Nat.pow_succ, ← Nat.mul_assoc, Nat.mul_comm 2]
    rw [e5, ← hh.2]
    clear h ih hp eb
    generalize P * 2 ^ (8 - (j + 1)) = u at *
    generalize n / 2 ^ j = v at *
    omega
theorem rof_loop {m d : Nat} (hd : Deg m d) (hm : m < 2 ^ 64) : ∀ (l pre : List Int) (bs : List Bool), By l → (pre ++ l).length ≤ 10000000 → bs.length = 8 * pre.length → bpol bs = pol pre →
    Ev (fun k => parapetref01_Of.l0 k (pre ++ l) (m : Int) bs (pre.length : Int)) (((pm m d (pol (pre ++ l)) : Nat) : Int), 0) := by
  intro l
  induction l with
  | nil =>
    intro pre bs _ hl hb hp
    rw [List.append_nil] at hl ⊢
    refine Ev.step (fun k => parapetref01_Of.l0.eq_2 ..) (Ev_ite_neg (by omega) (Ev.bind (rbits_ev hd hm (by omega)) ?_))
    rw [hp]; exact Ev.now _
  | cons c l ih =>
    intro pre bs hb hl hbs hp
    have hc := hb.head
    obtain ⟨n, rfl⟩ : ∃ n : Nat, c = (n : Int) := ⟨c.toNat, by omega⟩
    have hlen : (pre ++ (n : Int) :: l).length = pre.length + (l.length + 1) := by simp
    have e3 : (pre ++ [(n : Int)]).length = pre.length + 1 := by simp
    refine Ev.step (fun k => parapetref01_Of.l0.eq_2 ..) (Ev_ite_pos (by omega) ?_)
    refine rof_inner pre n l (by omega) hl _ (pol pre) (fun bs' h1 h2 => ?_) 8 bs (Nat.le_refl _) (by omega) (by rw [hp, Nat.div_eq_of_lt (by omega)]; simp)
    have g := ih (pre ++ [(n : Int)]) bs' hb.tail (by simpa using hl) (by rw [e3]; exact h1) (by rw [h2, pol_append, pol_cons]; simp [pol_nil])
    rw [List.append_assoc, List.singleton_append, e3] at g
    exact g
theorem rof_ev {m d : Nat} (hd : Deg m d) (hm : m < 2 ^ 64) {l : List Int} (hb : By l) (hl : l.length ≤ 10000000) :
    Ev (fun k => parapetref01_Of.f k l (m : Int)) (((pm m d (pol l) : Nat) : Int), 0) := by
  have hm0 : m ≠ 0 := by
    have h5 := hd.1
    have h6 := Nat.two_pow_pos d
    omega
  unfold parapetref01_Of.f
  have e : wrap64 (8 * (l.length : Int)) = ((8 * l.length : Nat) : Int) := by rw [wrap64_id (by omega) (by omega)]; omega
  rw [e]
  exact Ev_ite_neg (by omega) (Ev_ite_pos (by omega) (Ev_ite_pos (by omega) (rof_loop hd hm l [] [] hb hl rfl rfl)))

theorem awake_ev : Ev (fun k => parapetlaw01_Awake.f k) true := Ev.of parapetlaw01_Awake.mono (k := 100) (by decide +kernel)

end Go.Proofs.Ytcnlomknmhgpbac.Pure
