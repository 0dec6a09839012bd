/- crc's Bits, Seal, Valid, poly's Of, the layer's Awake: contracts out of the printed walks. -/
import Derived.Test.YtcnlomknmhgpbaaBr
import Derived.Test.YtcnlomknmhgpbaaLemS
namespace Go.Proofs.Ytcnlomknmhgpbaa.BrS
open Go Go.RowKit Go.Proofs.Ytcnlomknmhgpbaa.Hp Go.Proofs.Ytcnlomknmhgpbaa.Sl Go.Proofs.Ytcnlomknmhgpbaa.Ap Go.Proofs.Ytcnlomknmhgpbaa.Br Go.Proofs.YtcnlomknmhgpbaaW.PrintWords Go.Proofs.YtcnlomknmhgpbaaW.PrintLast Go.Proofs.YtcnlomknmhgpbaaW.PrintMore Go.Proofs.Ytcnlomknmhgpbaa.Gf Go.Proofs.Ytcnlomknmhgpbaa.Bt Go.Proofs.Ytcnlomknmhgpbaa.Pure Go.Proofs.Ytcnlomknmhgpbaa.PS
set_option linter.unusedVariables false
set_option linter.unusedSimpArgs false
theorem slOf {W : World} {s : Value} {l : List Int} (h : Bytes W s l) : ∃ p c, s = .slice p l.length c := by rcases h with ⟨rfl, rfl⟩ | ⟨x, cap, rfl, _⟩ <;> exact ⟨_, _, rfl⟩
theorem awake_call (W : World) : Calls Try.prog 13 #[] W fun e W' => e = .returned (.bool true) ∧ Hp.Kept [] W W' := by
  obtain ⟨K, hK⟩ := awake_ev
  refine (parapetlaw02_Awake.calls K _ W (hK K (Nat.le_refl _))).mono ?_
  rintro e W' ⟨rfl, hB⟩
  exact ⟨rfl, kept_of_below hB⟩
theorem bits_call (s : Value) (l : List Int) (W : World) (hs : Bytes W s l) (hb : By l) (hl : l.length ≤ 1000000) :
    Calls Try.prog 14 #[s] W fun x W' => x = .returned (.int .u32 ((crc l : Nat) : Int)) ∧ ∃ n, W' = W.drewN n := by
  obtain ⟨p, q, rfl⟩ := slOf hs
  obtain ⟨K, hK⟩ := bits_ev (l := l) hb (by omega)
  refine (crc_Bits.calls K p q l _ W (C_of_bytes hs).1 (C_of_bytes hs).2 (hK K (Nat.le_refl _))).mono ?_
  rintro x W' ⟨rfl, n, hB⟩
  exact ⟨rfl, n, hB⟩
theorem seal_call (a : Value) (x : List Int) (W : World) (ha : Bytes W a x) (hb : By x) (hl : x.length ≤ 1000000) :
    Calls Try.prog 16 #[a] W fun e W' => ∃ v, e = .returned v ∧ Hp.Kept [] W W' ∧ Made W W' v (sealed x) := by
  obtain ⟨p, q, rfl⟩ := slOf ha
  obtain ⟨K, hK⟩ := seal_ev (l := x) hb (by omega)
  refine (crc_Seal.calls K p q x _ W (C_of_bytes ha).1 (C_of_bytes ha).2 (hK K (Nat.le_refl _))).mono ?_
  rintro e W' ⟨v, rfl, hR, hB⟩
  exact ⟨v, rfl, kept_of_below hB, made_of_R hR⟩
theorem valid_call (a : Value) (x : List Int) (W : World) (ha : Bytes W a x) (hb : By x) (hl : x.length ≤ 1000000) (h4 : 4 ≤ x.length) :
    Calls Try.prog 17 #[a] W fun e W' => e = .returned (.bool (decide (crc x = 0))) ∧ ∃ n, W' = W.drewN n := by
  obtain ⟨p, q, rfl⟩ := slOf ha
  obtain ⟨K, hK⟩ := valid_ev (l := x) hb (by omega) h4
  refine (crc_Valid.calls K p q x _ W (C_of_bytes ha).1 (C_of_bytes ha).2 (hK K (Nat.le_refl _))).mono ?_
  rintro e W' ⟨rfl, n, hB⟩
  exact ⟨rfl, n, hB⟩
theorem gen_call (W : World) : Calls Try.prog 21 #[] W fun x W' => x = .returned (.int .u64 ((G : Nat) : Int)) ∧ Hp.Kept [] W W' := by
  refine (crc_Generator.calls _ W generator_f).mono ?_
  rintro x W' ⟨rfl, n, rfl⟩
  exact ⟨rfl, (Hp.Kept.refl [] W).drewN n⟩
theorem of_call (s : Value) (l : List Int) (W : World) (hs : Bytes W s l) (hb : By l) (hl : l.length ≤ 1000000) :
    Calls Try.prog 20 #[s, .int .u64 ((G : Nat) : Int)] W fun x W' => x = .returned (.tuple #[.int .u64 ((pm G 32 (pol l) : Nat) : Int), .int .i64 0]) ∧ Hp.Kept [] W W' := by
  obtain ⟨p, q, rfl⟩ := slOf hs
  obtain ⟨K, hK⟩ := of_ev GD G64 (l := l) hb (by omega)
  refine (poly_Of.calls K p q l _ _ _ W (C_of_bytes hs).1 (C_of_bytes hs).2 (hK K (Nat.le_refl _))).mono ?_
  rintro x W' ⟨rfl, n, rfl⟩
  exact ⟨rfl, (Hp.Kept.refl [] W).drewN n⟩
end Go.Proofs.Ytcnlomknmhgpbaa.BrS
