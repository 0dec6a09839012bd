/- burst's Make, Turn, Parts, and the layer's Awake: contracts out of the printed walks. -/
import Derived.Test.YtcnlomknmhgpbabBr
import Derived.Test.YtcnlomknmhgpbabLemW
namespace Go.Proofs.Ytcnlomknmhgpbab.BrW
open Go Go.RowKit Go.Proofs.Ytcnlomknmhgpbab.Hp Go.Proofs.Ytcnlomknmhgpbab.Sl Go.Proofs.Ytcnlomknmhgpbab.Ap Go.Proofs.Ytcnlomknmhgpbab.Br Go.Proofs.YtcnlomknmhgpbabW.PrintWords Go.Proofs.YtcnlomknmhgpbabW.PrintLast Go.Proofs.YtcnlomknmhgpbabW.PrintMore Go.Proofs.Ytcnlomknmhgpbab.Gf Go.Proofs.Ytcnlomknmhgpbab.Bt Go.Proofs.Ytcnlomknmhgpbab.Pure Go.Proofs.Ytcnlomknmhgpbab.PW
set_option linter.unusedVariables false
set_option linter.unusedSimpArgs false
theorem make_call (n at' : Int) (w : Nat) (hw : w < 2 ^ 32) (hn : -9223372036854775808 ≤ n ∧ n < 9223372036854775808) (W : World) :
    Calls Try.prog 28 #[.int .i64 n, .int .i64 at', .int .u32 (w : Int)] W fun e W' => ∃ v c l, e = .returned (.tuple #[v, .int .i64 c]) ∧ Hp.Kept [] W W' ∧ Made W W' v l ∧ l.length ≤ 65536 := by
  have key : ∃ l c, l.length ≤ 65536 ∧ Ev (fun k => burst_Make.f k n at' (w : Int)) (l, c) := by
    rcases make_ev n at' hw hn with ⟨h, g⟩ | ⟨h0, h1, h2, g⟩ | ⟨N, A, rfl, rfl, h3, h4, h5, g⟩
    · exact ⟨_, _, by simp, g⟩
    · exact ⟨_, _, by simp, g⟩
    · exact ⟨_, _, by rw [mkl_length, List.length_replicate]; exact h3, g⟩
  obtain ⟨l, c, hl, K, hK⟩ := key
  refine (burst_Make.calls K n at' (w : Int) _ _ W (hK K (Nat.le_refl _))).mono ?_
  rintro e W' ⟨v, rfl, hR, hB⟩
  exact ⟨v, _, l, rfl, kept_of_below hB, made_of_R hR, hl⟩
theorem turn_call (a b : Value) (x y : List Int) (W : World) (ha : Bytes W a x) (hb : Bytes W b y) (h : x.length = y.length) (hl : x.length ≤ 1000000) :
    Calls Try.prog 33 #[a, b] W fun e W' => ∃ v, e = .returned (.tuple #[v, .int .i64 0]) ∧ Hp.Kept [] W W' ∧ Made W W' v (xl x y) := by
  obtain ⟨pa, ca, rfl⟩ : ∃ p c, a = .slice p x.length c := by rcases ha with ⟨rfl, rfl⟩ | ⟨x, cap, rfl, _⟩ <;> exact ⟨_, _, rfl⟩
  obtain ⟨pb, cb, rfl⟩ : ∃ p c, b = .slice p y.length c := by rcases hb with ⟨rfl, rfl⟩ | ⟨x, cap, rfl, _⟩ <;> exact ⟨_, _, rfl⟩
  obtain ⟨K, hK⟩ := turn_ev (a := x) (b := y) h (by omega)
  refine (burst_Turn.calls K pa ca x pb cb y _ _ W (C_of_bytes ha).1 (C_of_bytes ha).2 (C_of_bytes hb).1 (C_of_bytes hb).2 (hK K (Nat.le_refl _))).mono ?_
  rintro e W' ⟨v, rfl, hR, hB⟩
  exact ⟨v, rfl, kept_of_below hB, made_of_R hR⟩
theorem parts_call (a : Value) (x : List Int) (W : World) (ha : Bytes W a x) (hb : By x) (hl : x.length ≤ 100000) :
    Calls Try.prog 35 #[a] W fun e W' => ∃ v, e = .returned v ∧ Hp.Kept [] W W' := by
  obtain ⟨pa, ca, rfl⟩ : ∃ p c, a = .slice p x.length c := by rcases ha with ⟨rfl, rfl⟩ | ⟨x, cap, rfl, _⟩ <;> exact ⟨_, _, rfl⟩
  obtain ⟨K, hK⟩ := parts_ev hb hl
  refine (burst_Parts.calls K pa ca x _ W (C_of_bytes ha).1 (C_of_bytes ha).2 (hK K (Nat.le_refl _))).mono ?_
  rintro e W' ⟨v, rfl, hR, hB⟩
  exact ⟨v, rfl, kept_of_below hB⟩
theorem awake_call (W : World) : Calls Try.prog 27 #[] W fun e W' => e = .returned (.bool true) ∧ Hp.Kept [] W W' := by
  obtain ⟨K, hK⟩ := awake_ev
  refine (parapetlaw03_Awake.calls K _ W (hK K (Nat.le_refl _))).mono ?_
  rintro e W' ⟨rfl, hB⟩
  exact ⟨rfl, kept_of_below hB⟩
end Go.Proofs.Ytcnlomknmhgpbab.BrW
