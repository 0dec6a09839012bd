/- Laws of layer 5 that have plain numbers. -/
import Derived.Test.YtlafkeijikbenaaMeterC
import Derived.Lib.Hide
namespace Go.Proofs.Ytlafkeijikbenaa.Law05
open Go Go.RowKit Go.Proofs.Ytlafkeijikbenaa.Hp Go.Proofs.Ytlafkeijikbenaa.Atom Go.Proofs.Ytlafkeijikbenaa.AtomC Go.Proofs.Ytlafkeijikbenaa.MeterC
set_option linter.unusedVariables false
set_option linter.unusedSimpArgs false

theorem hnot : ∀ (x : Bool) (w : World), (Op.unary .not (.bool x)).run Try.prog w = .ok (.bool (!x)) w := fun _ _ => rfl
theorem awake_call (w : World) : Calls Try.prog 13 #[] w fun e w' => e = .returned (.bool true) ∧ Kept [] w w' := by
  have hn := hnot
  have A : ∀ b w, IsM w b M.new → Calls Try.prog 15 #[.pointer (some ⟨b, 0, none⟩), .int .u64 5] w fun e w' => e = .returned (.tuple #[.int .u64 5, .int .i64 0]) ∧ Kept [b] w w' ∧ IsM w' b ⟨5, 0, false, 0, false, none⟩ := fun b w h => add_call b M.new 5 w h
  have T : ∀ b w, IsM w b ⟨5, 0, false, 0, false, none⟩ → Calls Try.prog 16 #[.pointer (some ⟨b, 0, none⟩)] w fun e w' => e = .returned (.int .u64 5) ∧ w = w' := fun b w h => total_call b _ w h
  have R : ∀ b w, IsM w b ⟨5, 0, false, 0, false, none⟩ → Calls Try.prog 17 #[.pointer (some ⟨b, 0, none⟩), .int .i64 (-4)] w fun e w' => e = .returned (.bool true) ∧ Kept [b] w w' ∧ IsM w' b ⟨5, -4, true, 0, false, none⟩ := fun b w h => raise_call b _ (-4) w h
  have R' : ∀ b w, IsM w b ⟨5, -4, true, 0, false, none⟩ → Calls Try.prog 17 #[.pointer (some ⟨b, 0, none⟩), .int .i64 (-9)] w fun e w' => e = .returned (.bool false) ∧ Kept [b] w w' ∧ IsM w' b ⟨5, -4, true, 0, false, none⟩ := fun b w h => raise_call b _ (-9) w h
  have A' := Lib.hid A
  have T' := Lib.hid T
  have R1 := Lib.hid R
  have R2 := Lib.hid R'
  clear A T R R'
  go_enter Try.func13, Try.ntmps13
  go_wp2_with fail
  refine (new_call _).mono ?_
  rintro e w1 ⟨rfl, k1, h1⟩
  go_wp2_with fail
  refine (A'.out _ _ h1).mono ?_
  rintro e w2 ⟨rfl, k2, h2⟩
  go_wp2_with fail
  refine (T'.out _ _ h2).mono ?_
  rintro e w3 ⟨rfl, rfl⟩
  go_wp2_with fail
  refine (R1.out _ _ h2).mono ?_
  rintro e w4 ⟨rfl, k4, h4⟩
  go_wp2_with fail
  refine (R2.out _ _ h4).mono ?_
  rintro e w5 ⟨rfl, k5, h5⟩
  go_wp2_with fail
  go_ret
  have s := k1.size
  exact ⟨rfl, k1.fresh ((k2.trans k4).trans k5) (by intro i hi; simp at hi; omega)⟩
theorem wrap_nat (v : BitVec 32) : IntKind.u32.wrap (v.toNat : Int) = (v.toNat : Int) := by
  rw [IntKind.wrap_u32]; have := v.isLt; omega
theorem bits_or32 (x y : Int) : bits .or .u32 x y = ((BitVec.ofInt 32 x ||| BitVec.ofInt 32 y).toNat : Int) := wrap_nat _
theorem bits_and32 (x y : Int) : bits .and .u32 x y = ((BitVec.ofInt 32 x &&& BitVec.ofInt 32 y).toNat : Int) := wrap_nat _
theorem bits_xor32 (x y : Int) : bits .xor .u32 x y = ((BitVec.ofInt 32 x ^^^ BitVec.ofInt 32 y).toNat : Int) := wrap_nat _
theorem bits_andNot32 (x y : Int) : bits .andNot .u32 x y = ((BitVec.ofInt 32 x &&& ~~~BitVec.ofInt 32 y).toNat : Int) := wrap_nat _
theorem ofInt_toNat (v : BitVec 32) : BitVec.ofInt 32 (v.toNat : Int) = v := by simp
theorem bits_or_zero (a : Int) (wa : (Lit.int .u32 a).wf = true) : bits .or .u32 0 a = a := by
  have h : 0 ≤ a ∧ a ≤ 4294967295 := by simpa [Lit.wf, IntKind.min, IntKind.max, IntKind.signed, IntKind.bits] using wa
  obtain ⟨A, rfl⟩ := Int.eq_ofNat_of_zero_le h.1
  rw [bits_or32]; simp; omega
theorem bits_andNot_or_zero (a b : Int) : bits .or .u32 (bits .andNot .u32 a b) 0 = bits .andNot .u32 a b := by
  rw [bits_or32, bits_andNot32, ofInt_toNat]; simp
theorem bits_clear (a c : Int) : bits .and .u32 a (bits .xor .u32 4294967295 c) = bits .andNot .u32 a c := by
  rw [bits_and32, bits_xor32, bits_andNot32, ofInt_toNat]
  have : BitVec.ofInt 32 4294967295 = BitVec.allOnes 32 := rfl
  rw [this, BitVec.allOnes_xor]
def mf (x : Int) : M := ⟨0, 0, false, x, false, none⟩
theorem MeterFlags_walk (a b c : Int) (w : World) (wa : (Lit.int .u32 a).wf = true) (wb : (Lit.int .u32 b).wf = true) (wc : (Lit.int .u32 c).wf = true) :
    Calls Try.prog 5 #[.int .u32 a, .int .u32 b, .int .u32 c] w fun e w' => e = .returned (.bool true) ∧ Below w.heap.size w w' := by
  have S : ∀ x v b w, IsM w b (mf x) → Calls Try.prog 19 #[.pointer (some ⟨b, 0, none⟩), .int .u32 v] w fun e w' => e = .returned (.int .u32 x) ∧ Kept [b] w w' ∧ IsM w' b (mf (bits .or .u32 x v)) := fun x v b w h => set_call b _ v w h
  have C : ∀ x v b w, IsM w b (mf x) → Calls Try.prog 20 #[.pointer (some ⟨b, 0, none⟩), .int .u32 v] w fun e w' => e = .returned (.int .u32 x) ∧ Kept [b] w w' ∧ IsM w' b (mf (bits .andNot .u32 x v)) := fun x v b w h => by rw [← bits_clear]; exact clear_call b _ v w h
  have F : ∀ x b w, IsM w b (mf x) → Calls Try.prog 21 #[.pointer (some ⟨b, 0, none⟩)] w fun e w' => e = .returned (.int .u32 x) ∧ w = w' := fun x b w h => flags_call b _ w h
  have S' := Lib.hid S
  have C' := Lib.hid C
  have F' := Lib.hid F
  clear S C F
  have hn := hnot
  go_enter Try.func5, Try.ntmps5
  go_wp2_with fail
  refine (awake_call _).mono ?_
  rintro e w0 ⟨rfl, k0⟩
  go_wp2_with fail
  refine (new_call _).mono ?_
  rintro e w1 ⟨rfl, k1, h1⟩
  go_wp2_with fail
  refine (S'.out 0 a _ _ h1).mono ?_
  rintro e w2 ⟨rfl, k2, h2⟩
  rw [bits_or_zero a wa] at h2
  go_wp2_with fail
  refine (S'.out a b _ _ h2).mono ?_
  rintro e w3 ⟨rfl, k3, h3⟩
  go_wp2_with fail
  refine (C'.out (bits .or .u32 a b) c _ _ h3).mono ?_
  rintro e w4 ⟨rfl, k4, h4⟩
  go_wp2_with fail
  refine (F'.out _ _ _ h4).mono ?_
  rintro e w5 ⟨rfl, rfl⟩
  go_wp2_with fail
  refine (S'.out _ 0 _ _ h4).mono ?_
  rintro e w6 ⟨rfl, k6, h6⟩
  rw [bits_andNot_or_zero] at h6
  go_wp2_with fail
  refine (C'.out _ 0 _ _ h6).mono ?_
  rintro e w7 ⟨rfl, k7, h7⟩
  go_wp2_with fail
  go_ret
  exact ⟨rfl, ((k0.trans k1).fresh ((((k2.trans k3).trans k4).trans k6).trans k7) (S' := []) (by intro i hi; simp at hi; have := k0.size; omega)).toBelow (by simp)⟩
end Go.Proofs.Ytlafkeijikbenaa.Law05
