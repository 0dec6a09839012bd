/- crc's engine of four tables: the plain law of four bytes at a time. -/
import Derived.Test.YtcnlomknmhgpbaaSlcD
import Derived.Laws.BitsAllLaws
namespace Go.Proofs.Ytcnlomknmhgpbaa.SlcA
open Go Go.RowKit Go.Proofs.Ytcnlomknmhgpbaa.Gf
open Go.Proofs.Ytcnlomknmhgpbaa.TabC (stp_lt)
set_option linter.unusedVariables false
theorem tk_eq (i : Nat) : ∀ k, tk k i = pm G 32 (i * 2 ^ 32 * 2 ^ (8 * k))
  | 0 => by
    unfold tk stp
    rw [Nat.zero_xor, Nat.mul_assoc, ← Nat.pow_add]; simp
  | k + 1 => by
    unfold tk stp
    rw [Nat.zero_mul, Nat.xor_zero, tk_eq i k, pm_shift G1 G2, Nat.mul_assoc, Nat.mul_assoc, Nat.mul_assoc, ← Nat.pow_add, show 8 * (k + 1) = 8 * k + 8 by omega]
theorem four_split (x : Nat) : x = (x / 2 ^ 24) * 2 ^ 24 ^^^ ((x / 2 ^ 16 % 256) * 2 ^ 16 ^^^ ((x / 2 ^ 8 % 256) * 2 ^ 8 ^^^ x % 256)) := by
  rw [← add_eq_xor (i := 8) (by omega), ← add_eq_xor (i := 16) (by omega), ← add_eq_xor (i := 24) (by omega)]
  omega
theorem tables_xor (x : Nat) : tk 3 (x / 2 ^ 24) ^^^ tk 2 (x / 2 ^ 16 % 256) ^^^ tk 1 (x / 2 ^ 8 % 256) ^^^ tk 0 (x % 256) = pm G 32 (x * 2 ^ 32) := by
  conv => rhs; rw [four_split x]
  rw [xor_shift, xor_shift, xor_shift, pm_xor G1 G2, pm_xor G1 G2, pm_xor G1 G2, tk_eq, tk_eq, tk_eq, tk_eq]
  have c : ∀ y n : Nat, y * 2 ^ n * 2 ^ 32 = y * 2 ^ 32 * 2 ^ n := fun y n => by rw [Nat.mul_assoc, Nat.mul_comm (2 ^ n), Nat.mul_assoc]
  rw [c, c, c, show 8 * 3 = 24 from rfl, show 8 * 2 = 16 from rfl, show 8 * 1 = 8 from rfl, show 8 * 0 = 0 from rfl, Nat.pow_zero, Nat.mul_one]
  simp only [Nat.xor_assoc]
/-- the word of four bytes -/
def word (a b c d : Nat) : Nat := a * 2 ^ 24 + b * 2 ^ 16 + c * 2 ^ 8 + d
theorem word_lt {a b c d : Nat} (ha : a < 256) (hb : b < 256) (hc : c < 256) (hd : d < 256) : word a b c d < 2 ^ 32 := by unfold word; omega
theorem four_steps (s a b c d : Nat) (ha : a < 256) (hb : b < 256) (hc : c < 256) (hd : d < 256) : stp (stp (stp (stp s a) b) c) d = pm G 32 ((s ^^^ word a b c d) * 2 ^ 32) := by
  have nb : ∀ n : Nat, n < 256 → ∀ l : List Int, By l → By ((n : Int) :: l) := fun n hn l hl x hx => by
    rcases List.mem_cons.1 hx with rfl | hx
    · exact ⟨by omega, by omega⟩
    · exact hl x hx
  have n0 : By ([] : List Int) := fun x hx => by simp at hx
  have h := crcFrom_cons s (a : Int) (nb b hb _ (nb c hc _ (nb d hd _ n0)))
  rw [crcFrom_cons _ (b : Int) (nb c hc _ (nb d hd _ n0)), crcFrom_cons _ (c : Int) (nb d hd _ n0), crcFrom_cons _ (d : Int) n0, crcFrom_nil (stp_lt _ _)] at h
  simp only [Int.toNat_natCast] at h
  have ep : pol [(a : Int), (b : Int), (c : Int), (d : Int)] = word a b c d := by
    simp only [pol_cons, pol_nil, List.length_cons, List.length_nil, Int.toNat_natCast]
    unfold word
    simp only [Nat.reduceMul, Nat.reduceAdd, Nat.reducePow]
    omega
  have el : [(a : Int), (b : Int), (c : Int), (d : Int)].length = 4 := rfl
  unfold crcFrom at h
  rw [ep, el, show 8 * 4 = 32 from rfl] at h
  rw [← h, xor_shift]
theorem crcFrom_four (s a b c d : Nat) (l : List Int) (ha : a < 256) (hb : b < 256) (hc : c < 256) (hd : d < 256) (hl : By l) :
    crcFrom s ((a : Int) :: (b : Int) :: (c : Int) :: (d : Int) :: l) = crcFrom (pm G 32 ((s ^^^ word a b c d) * 2 ^ 32)) l := by
  have nb : ∀ n : Nat, n < 256 → ∀ l : List Int, By l → By ((n : Int) :: l) := fun n hn l hl x hx => by
    rcases List.mem_cons.1 hx with rfl | hx
    · exact ⟨by omega, by omega⟩
    · exact hl x hx
  rw [crcFrom_cons s (a : Int) (nb b hb _ (nb c hc _ (nb d hd _ hl))), crcFrom_cons _ (b : Int) (nb c hc _ (nb d hd _ hl)), crcFrom_cons _ (c : Int) (nb d hd _ hl), crcFrom_cons _ (d : Int) hl]
  simp only [Int.toNat_natCast]
  rw [four_steps s a b c d ha hb hc hd]
theorem or_place {x y : Nat} (i : Nat) (hy : y < 2 ^ i) : x * 2 ^ i ||| y = x * 2 ^ i + y := by
  rw [Nat.mul_comm, Nat.two_pow_add_eq_or_of_lt hy]
/-- the word, as Go builds it -/
theorem word_bits {a b c d : Nat} (ha : a < 256) (hb : b < 256) (hc : c < 256) (hd : d < 256) :
    bits .or .u32 (bits .or .u32 (bits .or .u32 ((a : Int) * 16777216) ((b : Int) * 65536)) ((c : Int) * 256)) (d : Int) = ((word a b c d : Nat) : Int) := by
  have e1 : a * 2 ^ 24 ||| b * 2 ^ 16 = a * 2 ^ 24 + b * 2 ^ 16 := or_place 24 (by omega)
  have e2 : (a * 2 ^ 24 + b * 2 ^ 16) ||| c * 2 ^ 8 = a * 2 ^ 24 + b * 2 ^ 16 + c * 2 ^ 8 := by
    rw [show a * 2 ^ 24 + b * 2 ^ 16 = (a * 2 ^ 8 + b) * 2 ^ 16 by omega]; exact or_place 16 (by omega)
  have e3 : (a * 2 ^ 24 + b * 2 ^ 16 + c * 2 ^ 8) ||| d = word a b c d := by
    rw [show a * 2 ^ 24 + b * 2 ^ 16 + c * 2 ^ 8 = (a * 2 ^ 16 + b * 2 ^ 8 + c) * 2 ^ 8 by omega, or_place 8 (by omega)]; unfold word; omega
  rw [show (a : Int) * 16777216 = ((a * 2 ^ 24 : Nat) : Int) by omega, show (b : Int) * 65536 = ((b * 2 ^ 16 : Nat) : Int) by omega, show (c : Int) * 256 = ((c * 2 ^ 8 : Nat) : Int) by omega,
    u32_or_nat _ _ (by omega) (by omega), e1, u32_or_nat _ _ (by omega) (by omega), e2, u32_or_nat _ _ (by omega) (by omega), e3]
theorem and_byte {a : Nat} (ha : a < 2 ^ 32) : bits .and .u32 (a : Int) 255 = ((a % 256 : Nat) : Int) := by
  rw [show (255 : Int) = ((255 : Nat) : Int) from rfl, u32_and_nat _ _ (by omega) (by omega), show (255 : Nat) = 2 ^ 8 - 1 from rfl, Nat.and_two_pow_sub_one_eq_mod]
end Go.Proofs.Ytcnlomknmhgpbaa.SlcA
