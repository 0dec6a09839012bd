/- Go's operations on unsigned words, as the natural numbers' own; small lemmas on rounds. -/
import Derived.Test.YtcnlomknmhgpbaaWWords
import Derived.Test.YtcnlomknmhgpbaaWMore
import Derived.Laws.BitsAllLaws
import Derived.Test.YtcnlomknmhgpbaaGf
namespace Go.Proofs.Ytcnlomknmhgpbaa.Bt
open Go Go.RowKit Go.Proofs.YtcnlomknmhgpbaaW.PrintWords Go.Proofs.YtcnlomknmhgpbaaW.PrintMore Go.Proofs.Ytcnlomknmhgpbaa

theorem wrap_u64 (n : Int) : IntKind.u64.wrap n = n % 18446744073709551616 := by simp [IntKind.wrap, IntKind.bits, IntKind.signed]
theorem wrap64_id {n : Int} (h1 : -9223372036854775808 ≤ n) (h2 : n < 9223372036854775808) : wrap64 n = n := by unfold wrap64; omega
theorem xor32 {a b : Nat} (ha : a < 2 ^ 32) (hb : b < 2 ^ 32) : bits .xor .u32 (a : Int) (b : Int) = ((a ^^^ b : Nat) : Int) := u32_xor_nat a b (by omega) (by omega)
theorem xor64 {a b : Nat} (ha : a < 2 ^ 64) (hb : b < 2 ^ 64) : bits .xor .u64 (a : Int) (b : Int) = ((a ^^^ b : Nat) : Int) := u64_xor_nat a b (by omega) (by omega)
theorem or64 {a b : Nat} (ha : a < 2 ^ 64) (hb : b < 2 ^ 64) : bits .or .u64 (a : Int) (b : Int) = ((a ||| b : Nat) : Int) := u64_or_nat a b (by omega) (by omega)
theorem and64 {a b : Nat} (ha : a < 2 ^ 64) (hb : b < 2 ^ 64) : bits .and .u64 (a : Int) (b : Int) = ((a &&& b : Nat) : Int) := u64_and_nat a b (by omega) (by omega)
theorem shr64 {a i : Nat} (hi : i ≤ 64) : shr .u64 (a : Int) (i : Int) = ((a / 2 ^ i : Nat) : Int) := by
  unfold shr
  have h1 : ((i : Nat) : Int).toNat = i := Int.toNat_natCast i
  have h2 : min i (IntKind.u64.bits) = i := by show min i 64 = i; omega
  rw [h1, h2]; simp
theorem shl64 {a i : Nat} (hi : i ≤ 64) : shl .u64 (a : Int) (i : Int) = ((a * 2 ^ i % 18446744073709551616 : Nat) : Int) := by
  unfold shl
  have h1 : ((i : Nat) : Int).toNat = i := Int.toNat_natCast i
  have h2 : min i (IntKind.u64.bits) = i := by show min i 64 = i; omega
  rw [h1, h2, wrap_u64]; simp
/-- a bit that a shift and a mask look at -/
theorem bit64 {a i : Nat} (ha : a < 2 ^ 64) (hi : i ≤ 64) : bits .and .u64 (shr .u64 (a : Int) (i : Int)) 1 = ((a.testBit i).toNat : Int) := by
  rw [shr64 hi]
  have : a / 2 ^ i < 2 ^ 64 := Nat.lt_of_le_of_lt (Nat.div_le_self _ _) ha
  rw [show (1 : Int) = ((1 : Nat) : Int) from rfl, and64 this (by omega), Nat.and_one_is_mod, Nat.testBit_eq_decide_div_mod_eq]
  rcases Nat.mod_two_eq_zero_or_one (a / 2 ^ i) with h | h <;> simp [h]
theorem bit64_zero {a i : Nat} (ha : a < 2 ^ 64) (hi : i ≤ 64) : bits .and .u64 (shr .u64 (a : Int) (i : Int)) 1 = 0 ↔ a.testBit i = false := by
  rw [bit64 ha hi]
  cases a.testBit i <;> simp

theorem rd_at (pre : List Int) (c : Int) (l : List Int) : rd (pre ++ c :: l) (pre.length : Int) = c := by
  unfold rd; simp
theorem by_of_wf {l : List Int} (h : ∀ x ∈ l, (Lit.int .u8 x).wf = true) : Gf.By l := by
  intro x hx
  have := h x hx
  simp [Lit.wf, IntKind.min, IntKind.max, IntKind.signed, IntKind.bits] at this
  omega
theorem u64_of_wf {x : Int} (h : (Lit.int .u64 x).wf = true) : ∃ n : Nat, x = (n : Int) ∧ n < 2 ^ 64 := by
  simp [Lit.wf, IntKind.min, IntKind.max, IntKind.signed, IntKind.bits] at h
  exact ⟨x.toNat, by omega, by omega⟩
theorem u32_of_wf {x : Int} (h : (Lit.int .u32 x).wf = true) : ∃ n : Nat, x = (n : Int) ∧ n < 2 ^ 32 := by
  simp [Lit.wf, IntKind.min, IntKind.max, IntKind.signed, IntKind.bits] at h
  exact ⟨x.toNat, by omega, by omega⟩
theorem i64_of_wf {x : Int} (h : (Lit.int .i64 x).wf = true) : -9223372036854775808 ≤ x ∧ x < 9223372036854775808 := by
  simp [Lit.wf, IntKind.min, IntKind.max, IntKind.signed, IntKind.bits] at h
  omega
theorem Ev_ite_pos {α : Type} {c : Prop} [Decidable c] {f g : Nat → Option α} {r : α} (h : c) (k : Ev f r) : Ev (fun n => if c then f n else g n) r := by
  simp only [if_pos h]; exact k
theorem Ev_ite_neg {α : Type} {c : Prop} [Decidable c] {f g : Nat → Option α} {r : α} (h : ¬ c) (k : Ev g r) : Ev (fun n => if c then f n else g n) r := by
  simp only [if_neg h]; exact k
theorem Ev_some {α β : Type} {x : α} {f : Nat → α → Option β} {r : β} (k : Ev (fun n => f n x) r) : Ev (fun n => (some x).bind (f n)) r := k
end Go.Proofs.Ytcnlomknmhgpbaa.Bt
namespace Go.Proofs.Ytcnlomknmhgpbaa.Bt
open Go Go.RowKit Go.Proofs.YtcnlomknmhgpbaaW.PrintWords Go.Proofs.YtcnlomknmhgpbaaW.PrintMore Go.Proofs.Ytcnlomknmhgpbaa
theorem bit8 {a i : Nat} (ha : a < 256) (hi : i ≤ 8) : bits .and .u8 (shr .u8 (a : Int) (i : Int)) 1 = ((a.testBit i).toNat : Int) := by
  unfold shr
  have h1 : ((i : Nat) : Int).toNat = i := Int.toNat_natCast i
  have h2 : min i (IntKind.u8.bits) = i := by show min i 8 = i; omega
  rw [h1, h2]
  have e : (a : Int) / 2 ^ i = ((a / 2 ^ i : Nat) : Int) := by simp
  have : a / 2 ^ i < 256 := Nat.lt_of_le_of_lt (Nat.div_le_self _ _) ha
  rw [e, show (1 : Int) = ((1 : Nat) : Int) from rfl, u8_and_nat _ _ this (by omega), Nat.and_one_is_mod, Nat.testBit_eq_decide_div_mod_eq]
  rcases Nat.mod_two_eq_zero_or_one (a / 2 ^ i) with h | h <;> simp [h]
theorem bit32 {a i : Nat} (ha : a < 2 ^ 32) (hi : i ≤ 32) : bits .and .u32 (shr .u32 (a : Int) (i : Int)) 1 = ((a.testBit i).toNat : Int) := by
  unfold shr
  have h1 : ((i : Nat) : Int).toNat = i := Int.toNat_natCast i
  have h2 : min i (IntKind.u32.bits) = i := by show min i 32 = i; omega
  rw [h1, h2]
  have e : (a : Int) / 2 ^ i = ((a / 2 ^ i : Nat) : Int) := by simp
  have : a / 2 ^ i < 2 ^ 32 := Nat.lt_of_le_of_lt (Nat.div_le_self _ _) ha
  rw [e, show (1 : Int) = ((1 : Nat) : Int) from rfl, u32_and_nat _ _ (by omega) (by omega), Nat.and_one_is_mod, Nat.testBit_eq_decide_div_mod_eq]
  rcases Nat.mod_two_eq_zero_or_one (a / 2 ^ i) with h | h <;> simp [h]
theorem bit32_zero {a i : Nat} (ha : a < 2 ^ 32) (hi : i ≤ 32) : bits .and .u32 (shr .u32 (a : Int) (i : Int)) 1 = 0 ↔ a.testBit i = false := by
  rw [bit32 ha hi]
  cases a.testBit i <;> simp
end Go.Proofs.Ytcnlomknmhgpbaa.Bt
namespace Go.Proofs.Ytcnlomknmhgpbaa.Bt
open Go Go.RowKit Go.Proofs.YtcnlomknmhgpbaaW.PrintWords Go.Proofs.YtcnlomknmhgpbaaW.PrintMore Go.Proofs.Ytcnlomknmhgpbaa
theorem w_succ {i : Nat} (h : i < 4611686018427387904) : wrap64 ((i : Int) + 1) = ((i + 1 : Nat) : Int) := by rw [wrap64_id (by omega) (by omega)]; omega
theorem w_add {f i : Nat} (h : f + i < 4611686018427387904) : wrap64 ((f : Int) + (i : Int)) = ((f + i : Nat) : Int) := by rw [wrap64_id (by omega) (by omega)]; omega
theorem w_div8 {a : Nat} (h : a < 4611686018427387904) : wrap64 (Int.tdiv (a : Int) 8) = ((a / 8 : Nat) : Int) := by
  rw [Int.tdiv_eq_ediv_of_nonneg (by omega), wrap64_id (by omega) (by omega)]; omega
theorem t_mod8 {a : Nat} : Int.tmod (a : Int) 8 = ((a % 8 : Nat) : Int) := by rw [Int.tmod_eq_emod_of_nonneg (by omega)]; omega
theorem w_sub2 {s i : Nat} (h : i < s) (hs : s < 4611686018427387904) : wrap64 (wrap64 ((s : Int) - 1) - (i : Int)) = ((s - 1 - i : Nat) : Int) := by
  rw [wrap64_id (n := (s : Int) - 1) (by omega) (by omega), wrap64_id (by omega) (by omega)]; omega
theorem w_pred {i : Nat} (h : i < 4611686018427387904) : wrap64 ((i : Int) - 1) = (i : Int) - 1 := wrap64_id (by omega) (by omega)
end Go.Proofs.Ytcnlomknmhgpbaa.Bt
