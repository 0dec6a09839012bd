/- burst's Make and Turn, the document's, crc's Seal and Valid: contracts out of the printed walks. -/
import Derived.Test.YtlafkeijikbenabBr
import Derived.Test.YtlafkeijikbenabLemG
namespace Go.Proofs.Ytlafkeijikbenab.BrG
open Go Go.RowKit Go.Proofs.Ytlafkeijikbenab.Hp Go.Proofs.Ytlafkeijikbenab.Sl Go.Proofs.Ytlafkeijikbenab.Ap Go.Proofs.Ytlafkeijikbenab.Br Go.Proofs.YtlafkeijikbenabW.PrintWords Go.Proofs.YtlafkeijikbenabW.PrintLast Go.Proofs.YtlafkeijikbenabW.PrintMore Go.Proofs.Ytlafkeijikbenab.Gf Go.Proofs.Ytlafkeijikbenab.Bt Go.Proofs.Ytlafkeijikbenab.Pure Go.Proofs.Ytlafkeijikbenab.PG
set_option linter.unusedVariables false
set_option linter.unusedSimpArgs false
/-- What Make answers. -/
def mkA (n at' : Int) (w : Nat) : List Int × Int :=
  if n < 0 ∨ n > 65536 then ([], 2) else if w = 0 ∨ at' < 0 ∨ at' > 8 * n - (len w : Nat) then ([], 30) else (mkl w (len w) at'.toNat (len w) 0 (List.replicate n.toNat 0), 0)
theorem mkA_ev (n at' : Int) {w : Nat} (hw : w < 2 ^ 32) (hn : -9223372036854775808 ≤ n ∧ n < 9223372036854775808) :
    Ev (fun k => burst_Make.f k n at' (w : Int)) (mkA n at' w) := by
  unfold mkA
  rcases make_ev n at' hw hn with ⟨h, g⟩ | ⟨h0, h1, h2, g⟩ | ⟨N, A, rfl, rfl, h3, h4, h5, g⟩
  · rw [if_pos h]; exact g
  · rw [if_neg (by omega), if_pos h2]; exact g
  · rw [if_neg (by omega), if_neg (by omega), Int.toNat_natCast, Int.toNat_natCast]; exact g
theorem mkA_rev (n at' : Int) {w : Nat} (hw : w < 2 ^ 32) : Ev (fun k => parapetref03_Make.f k n at' (w : Int)) (mkA n at' w) := by
  unfold mkA
  obtain ⟨g1, g2, g3⟩ := rmake_ev n at' hw
  by_cases c1 : n < 0 ∨ n > 65536
  · rw [if_pos c1]; exact g1 c1
  rw [if_neg c1]
  by_cases c2 : w = 0 ∨ at' < 0 ∨ at' > 8 * n - (len w : Nat)
  · rw [if_pos c2]; exact g2 (by omega) (by omega) c2
  rw [if_neg c2]
  exact g3 n.toNat at'.toNat (by omega) (by omega) (by omega) (by omega) (by omega)
theorem mkA_len {n at' : Int} {w : Nat} (h : (mkA n at' w).2 = 0) : ((mkA n at' w).1.length : Int) = n := by
  unfold mkA at h ⊢
  by_cases c1 : n < 0 ∨ n > 65536
  · rw [if_pos c1] at h; cases h
  rw [if_neg c1] at h ⊢
  by_cases c2 : w = 0 ∨ at' < 0 ∨ at' > 8 * n - (len w : Nat)
  · rw [if_pos c2] at h; cases h
  rw [if_neg c2, mkl_length, List.length_replicate]; omega
theorem mkA_short (n at' : Int) (w : Nat) : (mkA n at' w).1.length ≤ 65536 := by
  unfold mkA
  by_cases c1 : n < 0 ∨ n > 65536
  · rw [if_pos c1]; simp
  rw [if_neg c1]
  by_cases c2 : w = 0 ∨ at' < 0 ∨ at' > 8 * n - (len w : Nat)
  · rw [if_pos c2]; simp
  rw [if_neg c2, mkl_length, List.length_replicate]; omega
theorem make_call (n at' : Int) (w : Nat) (hw : w < 2 ^ 32) (hn : -9223372036854775808 ≤ n ∧ n < 9223372036854775808) (W : World) :
    Calls Try.prog 60 #[.int .i64 n, .int .i64 at', .int .u32 (w : Int)] W fun e W' => ∃ v, e = .returned (.tuple #[v, .int .i64 (mkA n at' w).2]) ∧ Hp.Kept [] W W' ∧ Made W W' v (mkA n at' w).1 := by
  obtain ⟨K, hK⟩ := mkA_ev n at' hw hn
  refine (burst_Make.calls K n at' (w : Int) _ _ W (hK K (Nat.le_refl _))).mono ?_
  rintro e W' ⟨v, rfl, hR, hB⟩
  exact ⟨v, rfl, kept_of_below hB, made_of_R hR⟩
theorem rmake_call (n at' : Int) (w : Nat) (hw : w < 2 ^ 32) (W : World) :
    Calls Try.prog 62 #[.int .i64 n, .int .i64 at', .int .u32 (w : Int)] W fun e W' => ∃ v, e = .returned (.tuple #[v, .int .i64 (mkA n at' w).2]) ∧ Hp.Kept [] W W' ∧ Made W W' v (mkA n at' w).1 := by
  obtain ⟨K, hK⟩ := mkA_rev n at' hw
  refine (parapetref03_Make.calls K n at' (w : Int) _ _ W (hK K (Nat.le_refl _))).mono ?_
  rintro e W' ⟨v, rfl, hR, hB⟩
  exact ⟨v, rfl, kept_of_below hB, made_of_R hR⟩
theorem turn_call (a b : Value) (x y : List Int) (W : World) (ha : Bytes W a x) (hb : Bytes W b y) (h : x.length = y.length) (hl : x.length ≤ 1000000) :
    Calls Try.prog 61 #[a, b] W fun e W' => ∃ v, e = .returned (.tuple #[v, .int .i64 0]) ∧ Hp.Kept [] W W' ∧ Made W W' v (xl x y) := by
  obtain ⟨pa, ca, rfl⟩ : ∃ p c, a = .slice p x.length c := by rcases ha with ⟨rfl, rfl⟩ | ⟨x, cap, rfl, _⟩ <;> exact ⟨_, _, rfl⟩
  obtain ⟨pb, cb, rfl⟩ : ∃ p c, b = .slice p y.length c := by rcases hb with ⟨rfl, rfl⟩ | ⟨x, cap, rfl, _⟩ <;> exact ⟨_, _, rfl⟩
  obtain ⟨K, hK⟩ := turn_ev (a := x) (b := y) h (by omega)
  refine (burst_Turn.calls K pa ca x pb cb y _ _ W (C_of_bytes ha).1 (C_of_bytes ha).2 (C_of_bytes hb).1 (C_of_bytes hb).2 (hK K (Nat.le_refl _))).mono ?_
  rintro e W' ⟨v, rfl, hR, hB⟩
  exact ⟨v, rfl, kept_of_below hB, made_of_R hR⟩
theorem rturn_call (a b : Value) (x y : List Int) (W : World) (ha : Bytes W a x) (hb : Bytes W b y) (h : x.length = y.length) (hl : x.length ≤ 1000000) :
    Calls Try.prog 63 #[a, b] W fun e W' => ∃ v, e = .returned (.tuple #[v, .int .i64 0]) ∧ Hp.Kept [] W W' ∧ Made W W' v (xl x y) := by
  obtain ⟨pa, ca, rfl⟩ : ∃ p c, a = .slice p x.length c := by rcases ha with ⟨rfl, rfl⟩ | ⟨x, cap, rfl, _⟩ <;> exact ⟨_, _, rfl⟩
  obtain ⟨pb, cb, rfl⟩ : ∃ p c, b = .slice p y.length c := by rcases hb with ⟨rfl, rfl⟩ | ⟨x, cap, rfl, _⟩ <;> exact ⟨_, _, rfl⟩
  obtain ⟨K, hK⟩ := rturn_ev (a := x) (b := y) h (by omega)
  refine (parapetref03_Turn.calls K pa ca x pb cb y _ _ W (C_of_bytes ha).1 (C_of_bytes ha).2 (C_of_bytes hb).1 (C_of_bytes hb).2 (hK K (Nat.le_refl _))).mono ?_
  rintro e W' ⟨v, rfl, hR, hB⟩
  exact ⟨v, rfl, kept_of_below hB, made_of_R hR⟩
theorem seal_call (a : Value) (x : List Int) (W : World) (ha : Bytes W a x) (hb : By x) (hl : x.length ≤ 1000000) :
    Calls Try.prog 41 #[a] W fun e W' => ∃ v, e = .returned v ∧ Hp.Kept [] W W' ∧ Made W W' v (sealed x) := by
  obtain ⟨pa, ca, rfl⟩ : ∃ p c, a = .slice p x.length c := by rcases ha with ⟨rfl, rfl⟩ | ⟨x, cap, rfl, _⟩ <;> exact ⟨_, _, rfl⟩
  obtain ⟨K, hK⟩ := seal_ev (l := x) hb (by omega)
  refine (crc_Seal.calls K pa ca x _ W (C_of_bytes ha).1 (C_of_bytes ha).2 (hK K (Nat.le_refl _))).mono ?_
  rintro e W' ⟨v, rfl, hR, hB⟩
  exact ⟨v, rfl, kept_of_below hB, made_of_R hR⟩
theorem valid_call (a : Value) (x : List Int) (W : World) (ha : Bytes W a x) (hb : By x) (hl : x.length ≤ 1000000) (h4 : 4 ≤ x.length) :
    Calls Try.prog 42 #[a] W fun e W' => e = .returned (.bool (decide (crc x = 0))) ∧ ∃ n, W' = W.drewN n := by
  obtain ⟨pa, ca, rfl⟩ : ∃ p c, a = .slice p x.length c := by rcases ha with ⟨rfl, rfl⟩ | ⟨x, cap, rfl, _⟩ <;> exact ⟨_, _, rfl⟩
  obtain ⟨K, hK⟩ := valid_ev (l := x) hb (by omega) h4
  refine (crc_Valid.calls K pa ca x _ W (C_of_bytes ha).1 (C_of_bytes ha).2 (hK K (Nat.le_refl _))).mono ?_
  rintro e W' ⟨rfl, n, hB⟩
  exact ⟨rfl, n, hB⟩
end Go.Proofs.Ytlafkeijikbenab.BrG
