/- Lemmas on the printed functions: what each comes to, over plain numbers and lists. -/
import Derived.Test.YtcnlomknmhgpbabPQx1
import Derived.Test.YtcnlomknmhgpbabPQx2
import Derived.Test.YtcnlomknmhgpbabPQx3
import Derived.Test.YtcnlomknmhgpbabPQx4
import Derived.Test.YtcnlomknmhgpbabPQx5
import Derived.Test.YtcnlomknmhgpbabPQx6
import Derived.Test.YtcnlomknmhgpbabBt
namespace Go.Proofs.Ytcnlomknmhgpbab.Pure
open Go Go.RowKit Go.Proofs.Ytcnlomknmhgpbab.PQ Go.Proofs.YtcnlomknmhgpbabW.PrintWords Go.Proofs.YtcnlomknmhgpbabW.PrintLast Go.Proofs.YtcnlomknmhgpbabW.PrintMore
open Go.Proofs.Ytcnlomknmhgpbab.Gf Go.Proofs.Ytcnlomknmhgpbab.Bt
theorem awake_ev : Ev (fun k => parapetlaw09_Awake.f k) true := Ev.of parapetlaw09_Awake.mono (k := 60) (by decide +kernel)
theorem or32 {a b : Nat} (ha : a < 2 ^ 32) (hb : b < 2 ^ 32) : bits .or .u32 (a : Int) (b : Int) = ((a ||| b : Nat) : Int) := u32_or_nat a b (by omega) (by omega)
theorem or_add {i a b : Nat} (h : b < 2 ^ i) : a * 2 ^ i ||| b = a * 2 ^ i + b := by rw [Nat.mul_comm a, Nat.two_pow_add_eq_or_of_lt h]
def num4 (a b c d : Nat) : Nat := a * 16777216 + b * 65536 + c * 256 + d
theorem num_or {a b c d : Nat} (ha : a < 256) (hb : b < 256) (hc : c < 256) (hd : d < 256) :
    Go.bits .or .u32 (Go.bits .or .u32 (Go.bits .or .u32 ((((a : Int) % 4294967296) * 16777216) % 4294967296) ((((b : Int) % 4294967296) * 65536) % 4294967296)) ((((c : Int) % 4294967296) * 256) % 4294967296)) ((d : Int) % 4294967296) = ((num4 a b c d : Nat) : Int) := by
  rw [show (((a : Int) % 4294967296) * 16777216) % 4294967296 = ((a * 2 ^ 24 : Nat) : Int) from by omega, show (((b : Int) % 4294967296) * 65536) % 4294967296 = ((b * 2 ^ 16 : Nat) : Int) from by omega,
    show (((c : Int) % 4294967296) * 256) % 4294967296 = ((c * 2 ^ 8 : Nat) : Int) from by omega, show ((d : Int) % 4294967296) = (d : Int) from by omega]
  rw [or32 (by omega) (by omega), or_add (by omega), or32 (by omega) (by omega), show a * 2 ^ 24 + b * 2 ^ 16 = (a * 2 ^ 8 + b) * 2 ^ 16 from by omega, or_add (by omega), or32 (by omega) (by omega),
    show (a * 2 ^ 8 + b) * 2 ^ 16 + c * 2 ^ 8 = ((a * 2 ^ 8 + b) * 2 ^ 8 + c) * 2 ^ 8 from by omega, or_add (by omega)]
  unfold num4; omega
theorem number_f {a b c d : Nat} (l : List Int) (ha : a < 256) (hb : b < 256) (hc : c < 256) (hd : d < 256) : param_number.f ((a : Int) :: (b : Int) :: (c : Int) :: (d : Int) :: l) = some ((num4 a b c d : Nat) : Int) := by
  unfold param_number.f
  simp only [List.length_cons]
  rw [if_pos (by omega), if_pos (by omega), if_pos (by omega), if_pos (by omega)]
  have e0 : rd ((a : Int) :: (b : Int) :: (c : Int) :: (d : Int) :: l) 0 = (a : Int) := rfl
  have e1 : rd ((a : Int) :: (b : Int) :: (c : Int) :: (d : Int) :: l) 1 = (b : Int) := rfl
  have e2 : rd ((a : Int) :: (b : Int) :: (c : Int) :: (d : Int) :: l) 2 = (c : Int) := rfl
  have e3 : rd ((a : Int) :: (b : Int) :: (c : Int) :: (d : Int) :: l) 3 = (d : Int) := rfl
  rw [e0, e1, e2, e3, num_or ha hb hc hd]
theorem rnumber_f {a b c d : Nat} (l : List Int) (ha : a < 256) (hb : b < 256) (hc : c < 256) (hd : d < 256) : parapetref04_Word.f ((a : Int) :: (b : Int) :: (c : Int) :: (d : Int) :: l) = some ((num4 a b c d : Nat) : Int) := number_f l ha hb hc hd
def w4 (s : Int) : List Int := [(s / 16777216) % 256, (s / 65536) % 256, (s / 256) % 256, s % 256]
theorem w4_num {a b c d : Nat} (ha : a < 256) (hb : b < 256) (hc : c < 256) (hd : d < 256) : w4 ((num4 a b c d : Nat) : Int) = [(a : Int), (b : Int), (c : Int), (d : Int)] := by
  unfold w4 num4
  congr 1
  · omega
  congr 1
  · omega
  congr 1
  · omega
  congr 1
  omega
theorem word_f (l : List Int) (s : Int) (hl : l.length < 1000) : param_word.f l s = some (l ++ w4 s) := by
  unfold param_word.f
  rw [Option.bind_some, if_pos (by simp; omega)]; rfl
theorem lawful_check (a b c d e : Int) (ha : 0 ≤ a) (he : 0 ≤ e) : (parapetref09_Lawful.f a b c d e = some true ∧ param_Check.f a b c d e = some 0) ∨ (parapetref09_Lawful.f a b c d e = some false ∧ param_Check.f a b c d e = some 90) := by
  unfold parapetref09_Lawful.f param_Check.f
  by_cases h1 : a = 0
  · exact .inr ⟨by rw [if_neg (by omega)], by rw [if_pos h1]⟩
  rw [if_pos (show a > 0 by omega), if_neg h1]
  by_cases h2 : b < 1
  · exact .inr ⟨by rw [if_neg (by omega)], by rw [if_pos h2]⟩
  rw [if_pos (show b ≥ 1 by omega), if_neg h2]
  by_cases h3 : b > 8
  · exact .inr ⟨by rw [if_neg (by omega)], by rw [if_pos h3]⟩
  rw [if_pos (show b ≤ 8 by omega), if_neg h3]
  by_cases h4 : c < 1
  · exact .inr ⟨by rw [if_neg (by omega)], by rw [if_pos h4]⟩
  rw [if_pos (show c ≥ 1 by omega), if_neg h4]
  by_cases h5 : c > 8
  · exact .inr ⟨by rw [if_neg (by omega)], by rw [if_pos h5]⟩
  rw [if_pos (show c ≤ 8 by omega), if_neg h5]
  by_cases h6 : d < 1
  · exact .inr ⟨by rw [if_neg (by omega)], by rw [if_pos h6]⟩
  rw [if_pos (show d ≥ 1 by omega), if_neg h6]
  by_cases h7 : d > 1048576
  · exact .inr ⟨by rw [if_neg (by omega)], by rw [if_pos h7]⟩
  rw [if_pos (show d ≤ 1048576 by omega), if_neg h7]
  by_cases h8 : e < 2
  · exact .inr ⟨by rw [decide_eq_false (by omega)], by rw [if_pos h8]⟩
  · exact .inl ⟨by rw [decide_eq_true (by omega)], by rw [if_neg h8]⟩
theorem encode_f {a b c d e : Int} (h : param_Check.f a b c d e = some 0) : param_Encode.f a b c d e = some (w4 a ++ [b % 256, c % 256] ++ w4 (d % 4294967296) ++ w4 e, 0) := by
  unfold param_Encode.f
  rw [h, Option.bind_some, if_pos rfl, word_f [] a (by simp), Option.bind_some, Option.bind_some, if_pos (by simp [w4]), word_f _ _ (by simp [w4]), Option.bind_some, word_f _ _ (by simp [w4]), Option.bind_some]
  rfl
theorem encode_no {a b c d e : Int} (h : param_Check.f a b c d e = some 90) : param_Encode.f a b c d e = some ([], 90) := by
  unfold param_Encode.f
  rw [h, Option.bind_some, if_neg (by omega)]
theorem uncons {α : Type} {l : List α} {k : Nat} (h : l.length = k + 1) : ∃ a t, l = a :: t ∧ t.length = k := by
  cases l with
  | nil => simp at h
  | cons a t => exact ⟨a, t, rfl, by simpa using h⟩

end Go.Proofs.Ytcnlomknmhgpbab.Pure
