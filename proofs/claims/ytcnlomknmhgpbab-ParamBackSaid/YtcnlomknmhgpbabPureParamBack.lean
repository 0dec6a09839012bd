/- The law ParamBack, as its printed function has it: it answers true for every input. -/
import Derived.Test.YtcnlomknmhgpbabLemQ
namespace Go.Proofs.Ytcnlomknmhgpbab.Pure
open Go Go.RowKit Go.Proofs.Ytcnlomknmhgpbab.PQ Go.Proofs.YtcnlomknmhgpbabW.PrintWords Go.Proofs.YtcnlomknmhgpbabW.PrintLast Go.Proofs.YtcnlomknmhgpbabW.PrintMore
open Go.Proofs.Ytcnlomknmhgpbab.Gf Go.Proofs.Ytcnlomknmhgpbab.Bt
theorem w4_bytes {a : Nat} (h : a < 4294967296) : ∃ x y z v : Nat, x < 256 ∧ y < 256 ∧ z < 256 ∧ v < 256 ∧ w4 (a : Int) = [(x : Int), (y : Int), (z : Int), (v : Int)] ∧ num4 x y z v = a := by
  refine ⟨a / 16777216, a / 65536 % 256, a / 256 % 256, a % 256, by omega, by omega, by omega, by omega, ?_, ?_⟩
  · unfold w4
    congr 1
    · omega
  · unfold num4; omega
theorem check_yes {a b c d e : Int} (h : param_Check.f a b c d e = some 0) : 1 ≤ b ∧ b ≤ 8 ∧ 1 ≤ c ∧ c ≤ 8 ∧ 1 ≤ d ∧ d ≤ 1048576 := by
  unfold param_Check.f at h
  by_cases h1 : a = 0
  · rw [if_pos h1] at h; simp at h
  rw [if_neg h1] at h
  by_cases h2 : b < 1
  · rw [if_pos h2] at h; simp at h
  rw [if_neg h2] at h
  by_cases h3 : b > 8
  · rw [if_pos h3] at h; simp at h
  rw [if_neg h3] at h
  by_cases h4 : c < 1
  · rw [if_pos h4] at h; simp at h
  rw [if_neg h4] at h
  by_cases h5 : c > 8
  · rw [if_pos h5] at h; simp at h
  rw [if_neg h5] at h
  by_cases h6 : d < 1
  · rw [if_pos h6] at h; simp at h
  rw [if_neg h6] at h
  by_cases h7 : d > 1048576
  · rw [if_pos h7] at h; simp at h
  omega
theorem decode_of {A : Nat} {b c : Nat} {D E : Nat} (hA : A < 4294967296) (hb : b < 256) (hc : c < 256) (hD : D < 4294967296) (hE : E < 4294967296) (h : param_Check.f (A : Int) (b : Int) (c : Int) (D : Int) (E : Int) = some 0) :
    param_Decode.f (w4 (A : Int) ++ [(b : Int), (c : Int)] ++ w4 (D : Int) ++ w4 (E : Int)) = some ((A : Int), (b : Int), (c : Int), (D : Int), (E : Int), 0) := by
  obtain ⟨a0, a1, a2, a3, g0, g1, g2, g3, e1, n1⟩ := w4_bytes hA
  obtain ⟨a6, a7, a8, a9, g6, g7, g8, g9, e2, n2⟩ := w4_bytes hD
  obtain ⟨a10, a11, a12, a13, g10, g11, g12, g13, e3, n3⟩ := w4_bytes hE
  rw [e1, e2, e3]
  generalize hL : ([(a0 : Int), (a1 : Int), (a2 : Int), (a3 : Int)] ++ [(b : Int), (c : Int)] ++ [(a6 : Int), (a7 : Int), (a8 : Int), (a9 : Int)] ++ [(a10 : Int), (a11 : Int), (a12 : Int), (a13 : Int)] : List Int) = L
  have d6 : L.drop 6 = [(a6 : Int), (a7 : Int), (a8 : Int), (a9 : Int), (a10 : Int), (a11 : Int), (a12 : Int), (a13 : Int)] := by rw [← hL]; rfl
  have d10 : L.drop 10 = [(a10 : Int), (a11 : Int), (a12 : Int), (a13 : Int)] := by rw [← hL]; rfl
  have r4 : rd L 4 = (b : Int) := by rw [← hL]; rfl
  have r5 : rd L 5 = (c : Int) := by rw [← hL]; rfl
  have hlen : L.length = 14 := by rw [← hL]; rfl
  have n0 : param_number.f L = some ((num4 a0 a1 a2 a3 : Nat) : Int) := by rw [← hL]; exact number_f _ g0 g1 g2 g3
  have n6 : param_number.f (L.drop 6) = some ((num4 a6 a7 a8 a9 : Nat) : Int) := by rw [d6]; exact number_f _ g6 g7 g8 g9
  have n10 : param_number.f (L.drop 10) = some ((num4 a10 a11 a12 a13 : Nat) : Int) := by rw [d10]; exact number_f _ g10 g11 g12 g13
  rw [n1] at n0
  rw [n2] at n6
  rw [n3] at n10
  clear n1 n2 n3 e1 e2 e3 d6 d10 hL
  unfold param_Decode.f
  rw [if_pos (by omega), n0, Option.bind_some, if_pos (by omega), if_pos (by omega), if_pos (by omega), n6, Option.bind_some, if_pos (by omega), n10, Option.bind_some, r4, r5, wrap64_id (n := (b : Int)) (by omega) (by omega), wrap64_id (n := (c : Int)) (by omega) (by omega), wrap64_id (by omega) (by omega), h, Option.bind_some, if_pos rfl]
theorem ParamBack : ∀ (a b c d e : Int), (Lit.int .u32 a).wf = true → (Lit.int .i64 b).wf = true → (Lit.int .i64 c).wf = true → (Lit.int .i64 d).wf = true → (Lit.int .u32 e).wf = true → ∃ k, parapetlaw09_ParamBack.f k a b c d e = some true := by
  intro a b c d e ha _ _ _ he
  obtain ⟨A, rfl, hA⟩ := u32_of_wf ha
  obtain ⟨E, rfl, hE⟩ := u32_of_wf he
  apply Ev.rounds (g := fun k => parapetlaw09_ParamBack.f k (A : Int) b c d (E : Int))
  unfold parapetlaw09_ParamBack.f
  refine Ev.bind awake_ev (Ev_ite_pos rfl ?_)
  rcases lawful_check (A : Int) b c d (E : Int) (by omega) (by omega) with ⟨_, h⟩ | ⟨_, h⟩
  · obtain ⟨h1, h2, h3, h4, h5, h6⟩ := check_yes h
    obtain ⟨B, rfl⟩ := Int.eq_ofNat_of_zero_le (show 0 ≤ b by omega)
    obtain ⟨C, rfl⟩ := Int.eq_ofNat_of_zero_le (show 0 ≤ c by omega)
    obtain ⟨D, rfl⟩ := Int.eq_ofNat_of_zero_le (show 0 ≤ d by omega)
    rw [encode_f h]
    refine Ev_some (Ev_ite_pos rfl ?_)
    simp only
    rw [show (B : Int) % 256 = (B : Int) from by omega, show (C : Int) % 256 = (C : Int) from by omega, show (D : Int) % 4294967296 = (D : Int) from by omega, decode_of (by omega) (by omega) (by omega) (by omega) (by omega) h]
    refine Ev_some (Ev_ite_pos rfl (Ev_ite_pos (by simp) ?_))
    have e : ((((w4 (A : Int) ++ [(B : Int), (C : Int)] ++ w4 (D : Int) ++ w4 (E : Int)).length : Nat) : Int) == 14) = true := by simp [w4]
    rw [e]; exact Ev.now _
  · rw [encode_no h]
    exact Ev_some (Ev_ite_neg (by simp) (Ev_ite_pos rfl (Ev.now _)))
/-- The law's call: true, and nothing that was there is touched. -/
theorem ParamBack_walk (a b c d e : Int) (w : World) (wa : (Lit.int .u32 a).wf = true) (wb : (Lit.int .i64 b).wf = true) (wc : (Lit.int .i64 c).wf = true) (wd : (Lit.int .i64 d).wf = true) (we : (Lit.int .u32 e).wf = true) :
    Calls Try.prog 5 #[.agg #[.int .u32 a, .int .i64 b, .int .i64 c, .int .i64 d, .int .u32 e]] w fun e w' => e = .returned (.bool true) ∧ Below w.heap.size w w' := by
  obtain ⟨k, h⟩ := ParamBack a b c d e wa wb wc wd we
  exact parapetlaw09_ParamBack.calls k a b c d e true w h

end Go.Proofs.Ytcnlomknmhgpbab.Pure
