/- unit's Decode, the document's, Same, Seal: contracts out of the printed walks. -/
import Derived.Test.YtlafkeijikbenacBr
import Derived.Test.YtlafkeijikbenacLemD
namespace Go.Proofs.Ytlafkeijikbenac.BrD
open Go Go.RowKit Go.Proofs.Ytlafkeijikbenac.Hp Go.Proofs.Ytlafkeijikbenac.Sl Go.Proofs.Ytlafkeijikbenac.Ap Go.Proofs.Ytlafkeijikbenac.Br Go.Proofs.YtlafkeijikbenacW.PrintWords Go.Proofs.YtlafkeijikbenacW.PrintLast Go.Proofs.YtlafkeijikbenacW.PrintMore Go.Proofs.Ytlafkeijikbenac.Gf Go.Proofs.Ytlafkeijikbenac.Bt Go.Proofs.Ytlafkeijikbenac.Pure Go.Proofs.Ytlafkeijikbenac.PD
set_option linter.unusedVariables false
set_option linter.unusedSimpArgs false
theorem awake_call (W : World) : Calls Try.prog 10 #[] W fun e W' => e = .returned (.bool true) ∧ Hp.Kept [] W W' := by
  obtain ⟨K, hK⟩ := awake_ev
  refine (parapetlaw04_Awake.calls K _ W (hK K (Nat.le_refl _))).mono ?_
  rintro e W' ⟨rfl, hB⟩
  exact ⟨rfl, kept_of_below hB⟩
theorem slOf {W : World} {s : Value} {l : List Int} (h : Bytes W s l) : ∃ p c, s = .slice p l.length c := by rcases h with ⟨rfl, rfl⟩ | ⟨x, cap, rfl, _⟩ <;> exact ⟨_, _, rfl⟩
theorem rseal_call (s : Value) (l : List Int) (W : World) (hs : Bytes W s l) (hb : By l) (hl : l.length ≤ 1000000) :
    Calls Try.prog 11 #[s] W fun x W' => ∃ v, x = .returned v ∧ Hp.Kept [] W W' ∧ Made W W' v (sealed l) := by
  obtain ⟨p, q, rfl⟩ := slOf hs
  obtain ⟨K, hK⟩ := rseal_ev hb (by omega)
  refine (parapetref02_Seal.calls K p q l _ W (C_of_bytes hs).1 (C_of_bytes hs).2 (hK K (Nat.le_refl _))).mono ?_
  rintro e W' ⟨v, rfl, hR, hB⟩
  exact ⟨v, rfl, kept_of_below hB, made_of_R hR⟩
/-- What both answer to bytes. -/
structure DC (L : List Int) (a b c d e : Int) (data : List Int) (er : Int) : Prop where
  dec : ∀ W s, Bytes W s L → Calls Try.prog 12 #[s] W fun x W' => ∃ v, x = .returned (.tuple #[.agg #[.int .i64 a, .int .u32 b, .int .u32 c, .int .u32 d, .int .i64 e, v], .int .i64 er]) ∧ Hp.Kept [] W W' ∧ Made W W' v data
  rdec : ∀ W s, Bytes W s L → Calls Try.prog 13 #[s] W fun x W' => ∃ v, x = .returned (.tuple #[.agg #[.int .i64 a, .int .u32 b, .int .u32 c, .int .u32 d, .int .i64 e, v], .int .i64 er]) ∧ Hp.Kept [] W W' ∧ Made W W' v data
  same : ∀ W s t, Bytes W s data → Bytes W t data → Calls Try.prog 14 #[.agg #[.int .i64 a, .int .u32 b, .int .u32 c, .int .u32 d, .int .i64 e, s], .agg #[.int .i64 a, .int .u32 b, .int .u32 c, .int .u32 d, .int .i64 e, t]] W fun x W' => x = .returned (.bool true) ∧ Hp.Kept [] W W'
theorem decode_all {L : List Int} (hb : By L) : ∃ a b c d e data er, DC L a b c d e data er := by
  obtain ⟨⟨a, b, c, d, e, data, er⟩, ⟨K1, h1⟩, ⟨K2, h2⟩⟩ := both_decode hb
  refine ⟨a, b, c, d, e, data, er, fun W s hs => ?_, fun W s hs => ?_, fun W s t hs ht => ?_⟩
  · obtain ⟨p, q, rfl⟩ := slOf hs
    refine (unit_Decode.calls K1 p q L _ _ _ _ _ _ _ W (C_of_bytes hs).1 (C_of_bytes hs).2 (h1 K1 (Nat.le_refl _))).mono ?_
    rintro e W' ⟨v, rfl, hR, hB⟩
    exact ⟨v, rfl, kept_of_below hB, made_of_R hR⟩
  · obtain ⟨p, q, rfl⟩ := slOf hs
    refine (parapetref04_Decode.calls K2 p q L _ _ _ _ _ _ _ W (C_of_bytes hs).1 (C_of_bytes hs).2 (h2 K2 (Nat.le_refl _))).mono ?_
    rintro e W' ⟨v, rfl, hR, hB⟩
    exact ⟨v, rfl, kept_of_below hB, made_of_R hR⟩
  · obtain ⟨p, q, rfl⟩ := slOf hs
    obtain ⟨p', q', rfl⟩ := slOf ht
    refine (parapetref04_Same.calls a b c d e p q data a b c d e p' q' data _ W (C_of_bytes hs).1 (C_of_bytes hs).2 (C_of_bytes ht).1 (C_of_bytes ht).2 (same_yes a b c d e data)).mono ?_
    rintro e W' ⟨rfl, hB⟩
    exact ⟨rfl, kept_of_below hB⟩
end Go.Proofs.Ytlafkeijikbenac.BrD
