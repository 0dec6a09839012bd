/- Layer 11: Awake. -/
import Derived.Test.YtlafkeijikbenabValveR
namespace Go.Proofs.Ytlafkeijikbenab.S11
open Go Go.RowKit Go.Proofs.Ytlafkeijikbenab.Hp Go.Proofs.Ytlafkeijikbenab.GateC Go.Proofs.Ytlafkeijikbenab.Sl Go.Proofs.Ytlafkeijikbenab.ValveC Go.Proofs.Ytlafkeijikbenab.ValveR
set_option linter.unusedVariables false
set_option linter.unusedSimpArgs false
theorem own_built (w : World) (l : List Int) (h : l.length ≤ maxLen) : Own (w.alloc (.cells (U8 l).toArray 5)) w.heap.size (.slice (some ⟨w.heap.size, 0, none⟩) l.length l.length) l :=
  ⟨l.length, U8 l, rfl, Has.new w _ _, Nat.le_refl _, h, by simp [U8], by rw [List.take_of_length_le (by simp [U8])]⟩
theorem fresh_ne {S : List Nat} (hS : ∀ b, b ∈ S → False) {w : World} : ∀ b, b ∈ S → w.heap.size ≤ b := fun b hb => (hS b hb).elim
set_option maxRecDepth 100000 in
set_option maxHeartbeats 1600000 in
theorem awake_call (w : World) : Calls Try.prog 13 #[] w fun e w' => e = .returned (.bool true) ∧ Kept [] w w' := by
  go_enter Try.func13, Try.ntmps13
  go_wp2_with fail
  refine (ValveC.new_call 2 (by decide) (by decide) _).mono ?_
  rintro e w1 ⟨v, g, o, rfl, k1, h1, sv, sg, so⟩
  go_wp2_with fail
  refine (ValveC.run_call v g o _ true _ h1).mono ?_
  rintro e w2 ⟨rfl, k2, h2⟩
  have K2 : Kept [] w w2 := k1.fresh k2 (by simp; omega)
  have hb := own_built w2 [1, 2] (by decide)
  have h3 := h2.kept ((Kept.refl [] w2).alloc (.cells #[.int .u8 1, .int .u8 2] 5)) (by simp)
  have K3 := K2.alloc (.cells #[.int .u8 1, .int .u8 2] 5)
  have HB := Lib.hid (show Bytes (w2.alloc (.cells #[.int .u8 1, .int .u8 2] 5)) (.slice (some ⟨w2.heap.size, 0, none⟩) 2 2) [1, 2] from hb.bytes)
  clear hb h1 h2 k1 k2 K2
  go_wp2_with fail
  refine (take_call v g o _ _ [1, 2] _ h3 HB.out rfl (by simp) (by decide)).mono ?_
  rintro e w4 ⟨rfl, k4, h4⟩
  have K4 := K3.fresh k4 (by simp; omega)
  go_wp2_with fail
  refine (output_call v g o _ _ h4 (by decide) (by decide)).mono ?_
  rintro e w5 ⟨s, rfl, k5, kk, hkk, ho⟩
  have K5 := K4.trans k5
  have h5 := h4.kept k5 (by simp)
  have hs := (show Own w5 kk s [1, 2] from ho).bytes.str
  have hq : ((strOfNums [1, 2]).toList == [1, 2]) = true := by rw [ByteArray.toList_eq]; rfl
  clear K4 K3 h4 h3 HB ho
  go_wp2_with fail
  refine (trip_call v g o _ 100 _ h5).mono ?_
  rintro e w6 ⟨rfl, k6, h6⟩
  have K6 := K5.fresh k6 (by simp; omega)
  go_wp2_with fail
  refine (trip_call v g o _ 131 _ h6).mono ?_
  rintro e w7 ⟨rfl, k7, h7⟩
  have K7 := K6.fresh k7 (by simp; omega)
  go_wp2_with fail
  refine (latched_call v g o _ _ h7).mono ?_
  rintro e w8 ⟨rfl, rfl⟩
  go_wp2
  go_ret
  exact ⟨rfl, K7⟩
end Go.Proofs.Ytlafkeijikbenab.S11
