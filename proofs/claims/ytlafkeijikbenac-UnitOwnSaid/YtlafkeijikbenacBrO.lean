/- unit's Encode and Decode, and the layer's Awake: contracts out of the printed walks. -/
import Derived.Test.YtlafkeijikbenacBr
import Derived.Test.YtlafkeijikbenacLemO
namespace Go.Proofs.Ytlafkeijikbenac.BrO
open Go Go.RowKit Go.Proofs.Ytlafkeijikbenac.Hp Go.Proofs.Ytlafkeijikbenac.Sl Go.Proofs.Ytlafkeijikbenac.Ap Go.Proofs.Ytlafkeijikbenac.Br Go.Proofs.YtlafkeijikbenacW.PrintWords Go.Proofs.YtlafkeijikbenacW.PrintLast Go.Proofs.YtlafkeijikbenacW.PrintMore Go.Proofs.Ytlafkeijikbenac.Gf Go.Proofs.Ytlafkeijikbenac.Bt Go.Proofs.Ytlafkeijikbenac.Pure Go.Proofs.Ytlafkeijikbenac.PO
set_option linter.unusedVariables false
set_option linter.unusedSimpArgs false
theorem awake_call (W : World) : Calls Try.prog 10 #[] W fun e W' => e = .returned (.bool true) ∧ Hp.Kept [] W W' := by
  obtain ⟨K, hK⟩ := awake_ev
  refine (parapetlaw04_Awake.calls K _ W (hK K (Nat.le_refl _))).mono ?_
  rintro e W' ⟨rfl, hB⟩
  exact ⟨rfl, kept_of_below hB⟩
/-- What Encode makes. -/
def frame (a b c d e : Int) (l : List Int) : List Int := sealed (body a b c d e l)
theorem frame_length (a b c d e : Int) (l : List Int) : (frame a b c d e l).length = 19 + l.length := by unfold frame; rw [sealed_length, body_length]; omega
theorem encode_yes (a b c d e : Int) (s : Value) (l : List Int) (W : World) (hs : Bytes W s l) (hb : By l) (h : law a b c d e (l.length : Int) = 0) :
    Calls Try.prog 15 #[.agg #[.int .i64 a, .int .u32 b, .int .u32 c, .int .u32 d, .int .i64 e, s]] W fun x W' => ∃ v, x = .returned (.tuple #[v, .int .i64 0]) ∧ Hp.Kept [] W W' ∧ Made W W' v (frame a b c d e l) := by
  obtain ⟨p, q, rfl⟩ : ∃ p c, s = .slice p l.length c := by rcases hs with ⟨rfl, rfl⟩ | ⟨x, cap, rfl, _⟩ <;> exact ⟨_, _, rfl⟩
  obtain ⟨K, hK⟩ := encode_ev hb h
  refine (unit_Encode.calls K a b c d e p q l _ _ W (C_of_bytes hs).1 (C_of_bytes hs).2 (hK K (Nat.le_refl _))).mono ?_
  rintro e W' ⟨v, rfl, hR, hB⟩
  exact ⟨v, rfl, kept_of_below hB, made_of_R hR⟩
theorem encode_not (a b c d e : Int) (s : Value) (l : List Int) (W : World) (hs : Bytes W s l) (h : law a b c d e (l.length : Int) ≠ 0) :
    Calls Try.prog 15 #[.agg #[.int .i64 a, .int .u32 b, .int .u32 c, .int .u32 d, .int .i64 e, s]] W fun x W' => ∃ v, x = .returned (.tuple #[v, .int .i64 (law a b c d e (l.length : Int))]) ∧ Hp.Kept [] W W' ∧ Made W W' v [] := by
  obtain ⟨p, q, rfl⟩ : ∃ p c, s = .slice p l.length c := by rcases hs with ⟨rfl, rfl⟩ | ⟨x, cap, rfl, _⟩ <;> exact ⟨_, _, rfl⟩
  obtain ⟨K, hK⟩ := encode_no h
  refine (unit_Encode.calls K a b c d e p q l _ _ W (C_of_bytes hs).1 (C_of_bytes hs).2 (hK K (Nat.le_refl _))).mono ?_
  rintro e W' ⟨v, rfl, hR, hB⟩
  exact ⟨v, rfl, kept_of_below hB, made_of_R hR⟩
theorem decode_back (a b c d e : Int) (s : Value) (l : List Int) (W : World) (hs : Bytes W s (frame a b c d e l)) (hb : By l) (h1 : 0 ≤ b ∧ b < 4294967296) (h2 : 0 ≤ c ∧ c < 4294967296) (h3 : 0 ≤ d ∧ d < 4294967296) (h : law a b c d e (l.length : Int) = 0) :
    Calls Try.prog 12 #[s] W fun x W' => ∃ v, x = .returned (.tuple #[.agg #[.int .i64 a, .int .u32 b, .int .u32 c, .int .u32 d, .int .i64 e, v], .int .i64 0]) ∧ Hp.Kept [] W W' ∧ Made W W' v l := by
  obtain ⟨p, q, rfl⟩ : ∃ p q0, s = .slice p (frame a b c d e l).length q0 := by
    rcases hs with ⟨rfl, e⟩ | ⟨x, cap, rfl, _⟩
    · exact ⟨none, 0, by rw [e]; rfl⟩
    · exact ⟨_, _, rfl⟩
  obtain ⟨K, hK⟩ := back_ev hb h1 h2 h3 h
  refine (unit_Decode.calls K p q (frame a b c d e l) _ _ _ _ _ _ _ W (C_of_bytes hs).1 (C_of_bytes hs).2 (hK K (Nat.le_refl _))).mono ?_
  rintro e W' ⟨v, rfl, hR, hB⟩
  exact ⟨v, rfl, kept_of_below hB, made_of_R hR⟩
theorem u32_range {x : Int} (h : (Lit.int .u32 x).wf = true) : 0 ≤ x ∧ x < 4294967296 := by
  simp [Lit.wf, IntKind.min, IntKind.max, IntKind.signed, IntKind.bits] at h
  omega
end Go.Proofs.Ytlafkeijikbenac.BrO
