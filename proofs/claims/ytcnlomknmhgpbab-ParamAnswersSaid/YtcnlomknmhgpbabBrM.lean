/- param's calls, the document's, crc.Bits: contracts out of the printed walks. -/
import Derived.Test.YtcnlomknmhgpbabBr
import Derived.Test.YtcnlomknmhgpbabLemM
namespace Go.Proofs.Ytcnlomknmhgpbab.BrM
open Go Go.RowKit Go.Proofs.Ytcnlomknmhgpbab.Hp Go.Proofs.Ytcnlomknmhgpbab.Sl Go.Proofs.Ytcnlomknmhgpbab.Ap Go.Proofs.Ytcnlomknmhgpbab.Br Go.Proofs.YtcnlomknmhgpbabW.PrintWords Go.Proofs.YtcnlomknmhgpbabW.PrintLast Go.Proofs.YtcnlomknmhgpbabW.PrintMore Go.Proofs.Ytcnlomknmhgpbab.Gf Go.Proofs.Ytcnlomknmhgpbab.Bt Go.Proofs.Ytcnlomknmhgpbab.Pure Go.Proofs.Ytcnlomknmhgpbab.PM
set_option linter.unusedVariables false
set_option linter.unusedSimpArgs false
theorem awake_call (W : World) : Calls Try.prog 13 #[] W fun e W' => e = .returned (.bool true) ∧ Hp.Kept [] W W' := by
  obtain ⟨K, hK⟩ := awake_ev
  refine (parapetlaw09_Awake.calls K _ W (hK K (Nat.le_refl _))).mono ?_
  rintro e W' ⟨rfl, hB⟩
  exact ⟨rfl, kept_of_below hB⟩
/-- What layer 9 answers about a set p. -/
structure PC (p : Value) (enc sign : List Int) (err sig : Int) (m : List Int → Bool) : Prop where
  encode : ∀ W, Calls Try.prog 14 #[p] W fun x W' => ∃ v, x = .returned (.tuple #[v, .int .i64 err]) ∧ Hp.Kept [] W W' ∧ Made W W' v enc
  rencode : ∀ W, Calls Try.prog 15 #[p] W fun x W' => ∃ v, x = .returned (.tuple #[v, .int .i64 err]) ∧ Hp.Kept [] W W' ∧ Made W W' v enc
  check : ∀ W, Calls Try.prog 16 #[p] W fun x W' => x = .returned (.int .i64 err) ∧ Hp.Kept [] W W'
  signature : ∀ W, Calls Try.prog 17 #[p] W fun x W' => x = .returned (.tuple #[.int .u32 sig, .int .i64 err]) ∧ Hp.Kept [] W W'
  sign_ : ∀ W, Calls Try.prog 18 #[p] W fun x W' => ∃ v, x = .returned v ∧ Hp.Kept [] W W' ∧ Made W W' v sign
  match_ : ∀ W s l, Bytes W s l → By l → Calls Try.prog 19 #[p, s] W fun x W' => x = .returned (.tuple #[.bool (m l), .int .i64 err]) ∧ Hp.Kept [] W W'
  short : enc.length ≤ 14 ∧ sign.length ≤ 4
  bys : By sign ∧ By enc
  says : (err = 0 ∧ sign = w4 sig ∧ sig = ((crc enc : Nat) : Int) ∧ ∀ l, m l = decide (l = sign)) ∨ (err = 90 ∧ sig = 0 ∧ ∀ l, m l = false)
theorem param_all (a b c d e : Int) (ha : 0 ≤ a) (he : 0 ≤ e) : ∃ enc sign err sig m, PC (.agg #[.int .u32 a, .int .i64 b, .int .i64 c, .int .i64 d, .int .u32 e]) enc sign err sig m := by
  rcases lawful_check a b c d e ha he with ⟨hL, hC⟩ | ⟨hL, hC⟩
  · refine ⟨setB a b c d e, w4 ((crc (setB a b c d e) : Nat) : Int), 0, ((crc (setB a b c d e) : Nat) : Int), fun l => decide (l = w4 ((crc (setB a b c d e) : Nat) : Int)), ?_, ?_, ?_, ?_, ?_, ?_, ?_, ?_, ?_⟩
    · intro W
      refine (param_Encode.calls a b c d e _ _ W (encode_f hC)).mono ?_
      rintro x W' ⟨v, rfl, hR, hB⟩
      exact ⟨v, rfl, kept_of_below hB, made_of_R hR⟩
    · intro W
      refine (parapetref09_Encode.calls a b c d e _ _ W (Pure.rencode_f hL)).mono ?_
      rintro x W' ⟨v, rfl, hR, hB⟩
      exact ⟨v, rfl, kept_of_below hB, made_of_R hR⟩
    · intro W
      refine (param_Check.calls a b c d e _ W hC).mono ?_
      rintro x W' ⟨rfl, hB⟩
      exact ⟨rfl, kept_of_below hB⟩
    · intro W
      obtain ⟨K, hK⟩ := sig_yes hC
      refine (param_Signature.calls K a b c d e _ _ W (hK K (Nat.le_refl _))).mono ?_
      rintro x W' ⟨rfl, hB⟩
      exact ⟨rfl, kept_of_below hB⟩
    · intro W
      obtain ⟨K, hK⟩ := sign_yes hL
      refine (parapetref09_Sign.calls K a b c d e _ W (hK K (Nat.le_refl _))).mono ?_
      rintro x W' ⟨v, rfl, hR, hB⟩
      exact ⟨v, rfl, kept_of_below hB, made_of_R hR⟩
    · intro W s l hs hb
      obtain ⟨p, q, rfl⟩ : ∃ p c, s = .slice p l.length c := by rcases hs with ⟨rfl, rfl⟩ | ⟨x, cap, rfl, _⟩ <;> exact ⟨_, _, rfl⟩
      obtain ⟨K, hK⟩ := match_yes hC hb
      refine (param_Match.calls K a b c d e p q l _ _ W (C_of_bytes hs).1 (C_of_bytes hs).2 (hK K (Nat.le_refl _))).mono ?_
      rintro x W' ⟨rfl, hB⟩
      exact ⟨rfl, kept_of_below hB⟩
    · exact ⟨by rw [setB_length]; omega, by rw [w4_len]; omega⟩
    · exact ⟨w4_by' _, setB_by a b c d e⟩
    · exact .inl ⟨rfl, rfl, rfl, fun _ => rfl⟩
  · refine ⟨[], [], 90, 0, fun l => false, ?_, ?_, ?_, ?_, ?_, ?_, ?_, ?_, ?_⟩
    · intro W
      refine (param_Encode.calls a b c d e _ _ W (encode_no hC)).mono ?_
      rintro x W' ⟨v, rfl, hR, hB⟩
      exact ⟨v, rfl, kept_of_below hB, made_of_R hR⟩
    · intro W
      refine (parapetref09_Encode.calls a b c d e _ _ W (Pure.rencode_no hL)).mono ?_
      rintro x W' ⟨v, rfl, hR, hB⟩
      exact ⟨v, rfl, kept_of_below hB, made_of_R hR⟩
    · intro W
      refine (param_Check.calls a b c d e _ W hC).mono ?_
      rintro x W' ⟨rfl, hB⟩
      exact ⟨rfl, kept_of_below hB⟩
    · intro W
      obtain ⟨K, hK⟩ := sig_no hC
      refine (param_Signature.calls K a b c d e _ _ W (hK K (Nat.le_refl _))).mono ?_
      rintro x W' ⟨rfl, hB⟩
      exact ⟨rfl, kept_of_below hB⟩
    · intro W
      obtain ⟨K, hK⟩ := sign_no hL
      refine (parapetref09_Sign.calls K a b c d e _ W (hK K (Nat.le_refl _))).mono ?_
      rintro x W' ⟨v, rfl, hR, hB⟩
      exact ⟨v, rfl, kept_of_below hB, made_of_R hR⟩
    · intro W s l hs hb
      obtain ⟨p, q, rfl⟩ : ∃ p c, s = .slice p l.length c := by rcases hs with ⟨rfl, rfl⟩ | ⟨x, cap, rfl, _⟩ <;> exact ⟨_, _, rfl⟩
      obtain ⟨K, hK⟩ := match_no hC (l := l)
      refine (param_Match.calls K a b c d e p q l _ _ W (C_of_bytes hs).1 (C_of_bytes hs).2 (hK K (Nat.le_refl _))).mono ?_
      rintro x W' ⟨rfl, hB⟩
      exact ⟨rfl, kept_of_below hB⟩
    · exact ⟨by simp, by simp⟩
    · exact And.intro (by intro x hx; simp at hx) (by intro x hx; simp at hx)
    · exact .inr ⟨rfl, rfl, fun _ => rfl⟩
theorem bytes_call (s : Int) (W : World) : Calls Try.prog 20 #[.int .u32 s] W fun x W' => ∃ v, x = .returned v ∧ Hp.Kept [] W W' ∧ Made W W' v (w4 s) := by
  refine (param_Bytes.calls s _ W (bytes_w4 s)).mono ?_
  rintro x W' ⟨v, rfl, hR, hB⟩
  exact ⟨v, rfl, kept_of_below hB, made_of_R hR⟩
theorem bits_call (s : Value) (l : List Int) (W : World) (hs : Bytes W s l) (hb : By l) (hl : l.length ≤ 1000000) :
    Calls Try.prog 21 #[s] W fun x W' => x = .returned (.int .u32 ((crc l : Nat) : Int)) ∧ ∃ n, W' = W.drewN n := by
  obtain ⟨p, q, rfl⟩ : ∃ p c, s = .slice p l.length c := by rcases hs with ⟨rfl, rfl⟩ | ⟨x, cap, rfl, _⟩ <;> exact ⟨_, _, rfl⟩
  obtain ⟨K, hK⟩ := bits_ev (l := l) hb (by omega)
  refine (crc_Bits.calls K p q l _ W (C_of_bytes hs).1 (C_of_bytes hs).2 (hK K (Nat.le_refl _))).mono ?_
  rintro x W' ⟨rfl, n, hB⟩
  exact ⟨rfl, n, hB⟩
theorem decode_call (s : Value) (l : List Int) (W : World) (hs : Bytes W s l) :
    Calls Try.prog 22 #[s] W fun x W' => (∃ v, x = .returned v) ∧ Hp.Kept [] W W' := by
  obtain ⟨p, q, rfl⟩ : ∃ p c, s = .slice p l.length c := by rcases hs with ⟨rfl, rfl⟩ | ⟨x, cap, rfl, _⟩ <;> exact ⟨_, _, rfl⟩
  obtain ⟨⟨r1, r2, r3, r4, r5, r6⟩, h⟩ := decode_some l
  refine (param_Decode.calls p q l r1 r2 r3 r4 r5 r6 W (C_of_bytes hs).1 (C_of_bytes hs).2 h).mono ?_
  rintro x W' ⟨rfl, hB⟩
  exact ⟨⟨_, rfl⟩, kept_of_below hB⟩
end Go.Proofs.Ytcnlomknmhgpbab.BrM
