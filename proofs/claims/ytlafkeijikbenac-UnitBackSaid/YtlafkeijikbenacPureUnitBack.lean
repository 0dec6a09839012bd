/- The law UnitBack, as its printed function has it: it answers true for every input. -/
import Derived.Test.YtlafkeijikbenacLemK
namespace Go.Proofs.Ytlafkeijikbenac.Pure
open Go Go.RowKit Go.Proofs.Ytlafkeijikbenac.PK Go.Proofs.YtlafkeijikbenacW.PrintWords Go.Proofs.YtlafkeijikbenacW.PrintLast Go.Proofs.YtlafkeijikbenacW.PrintMore
open Go.Proofs.Ytlafkeijikbenac.Gf Go.Proofs.Ytlafkeijikbenac.Bt
/-- Decode of Encode is the unit -/
theorem back_ev {a b c d e : Int} {l : List Int} (hb : By l) (h1 : 0 ≤ b ∧ b < 4294967296) (h2 : 0 ≤ c ∧ c < 4294967296) (h3 : 0 ≤ d ∧ d < 4294967296) (h : law a b c d e (l.length : Int) = 0) :
    Ev (fun k => unit_Decode.f k (sealed (body a b c d e l))) (a, b, c, d, e, l, 0) := by
  obtain ⟨ha1, ha2, he1, he2, hl⟩ := law_zero h
  obtain ⟨A, rfl⟩ := Int.eq_ofNat_of_zero_le (show 0 ≤ a by omega)
  obtain ⟨B, rfl⟩ := Int.eq_ofNat_of_zero_le (show 0 ≤ b by omega)
  obtain ⟨C, rfl⟩ := Int.eq_ofNat_of_zero_le (show 0 ≤ c by omega)
  obtain ⟨D, rfl⟩ := Int.eq_ofNat_of_zero_le (show 0 ≤ d by omega)
  obtain ⟨E, rfl⟩ := Int.eq_ofNat_of_zero_le (show 0 ≤ e by omega)
  have hs := sealed_by (body_by (A : Int) (B : Int) (C : Int) (D : Int) (E : Int) hb)
  have hc : crc (sealed (body (A : Int) (B : Int) (C : Int) (D : Int) (E : Int) l)) = 0 := crc_sealed
  obtain ⟨x1, x2, x3, x4, g1, g2, g3, g4, e1, m1⟩ := w4_bytes (a := B) (by omega)
  obtain ⟨x5, x6, x7, x8, g5, g6, g7, g8, e2, m2⟩ := w4_bytes (a := C) (by omega)
  obtain ⟨x9, x10, x11, x12, g9, g10, g11, g12, e3, m3⟩ := w4_bytes (a := D) (by omega)
  have q0 : (A : Int) % 256 = (A : Int) := by omega
  have q1 : (E : Int) % 256 = (E : Int) := by omega
  have q2 : (l.length : Int) % 256 = ((l.length : Nat) : Int) := by omega
  have hL : sealed (body (A : Int) (B : Int) (C : Int) (D : Int) (E : Int) l) = (A : Int) :: (x1 : Int) :: (x2 : Int) :: (x3 : Int) :: (x4 : Int) :: (x5 : Int) :: (x6 : Int) :: (x7 : Int) :: (x8 : Int) :: (x9 : Int) :: (x10 : Int) :: (x11 : Int) :: (x12 : Int) :: (E : Int) :: ((l.length : Nat) : Int) :: (l ++ word4 (crc (body (A : Int) (B : Int) (C : Int) (D : Int) (E : Int) l) : Int)) := by
    unfold sealed
    generalize word4 (crc (body (A : Int) (B : Int) (C : Int) (D : Int) (E : Int) l) : Int) = W
    unfold body
    rw [e1, e2, e3, q0, q1, q2]
    simp
  have g := decode_ev (by omega) g1 g2 g3 g4 g5 g6 g7 g8 g9 g10 g11 g12 (show E < 256 by omega) (show l.length < 256 by omega) (by omega) (by rfl) hs hL hc
  rw [m1, m2, m3] at g
  have e : dec (A : Int) (B : Int) (C : Int) (D : Int) (E : Int) ((l.length : Nat) : Int) l = ((A : Int), (B : Int), (C : Int), (D : Int), (E : Int), l, 0) := by unfold dec; rw [if_pos rfl, if_pos h]
  rw [e] at g
  exact g
theorem same_yes (a b c d e : Int) (l : List Int) : parapetref04_Same.f a b c d e l a b c d e l = some true := by
  unfold parapetref04_Same.f
  rw [if_pos rfl, if_pos rfl, if_pos rfl, if_pos rfl, if_pos rfl]
  simp
theorem u32_range {x : Int} (h : (Lit.int .u32 x).wf = true) : 0 ≤ x ∧ x < 4294967296 := by
  obtain ⟨n, rfl, h⟩ := u32_of_wf h; omega
theorem UnitBack : ∀ (a b c d e : Int) (l : List Int), (Lit.int .u32 b).wf = true → (Lit.int .u32 c).wf = true → (Lit.int .u32 d).wf = true → (∀ x ∈ l, (Lit.int .u8 x).wf = true) → ∃ k, parapetlaw04_UnitBack.f k a b c d e l = some true := by
  intro a b c d e l hb hc hd hl
  have by' := by_of_wf hl
  apply Ev.rounds (g := fun k => parapetlaw04_UnitBack.f k a b c d e l)
  unfold parapetlaw04_UnitBack.f
  refine Ev.bind awake_ev (Ev_ite_pos rfl ?_)
  by_cases q : (l.length : Int) > 1000
  · exact Ev_ite_pos q (Ev.now _)
  refine Ev_ite_neg q ?_
  rw [copied_f a b c d e (by omega)]
  refine Ev_some ?_
  by_cases h : law a b c d e (l.length : Int) = 0
  · refine Ev.bind (encode_ev by' h) (Ev_ite_pos rfl (Ev.bind (back_ev by' (u32_range hb) (u32_range hc) (u32_range hd) h) (Ev_ite_pos rfl ?_)))
    obtain ⟨_, _, _, _, hl8⟩ := law_zero h
    have hlen := sealed_length (body a b c d e l)
    rw [body_length] at hlen
    rw [same_yes]
    refine Ev_some (Ev_ite_pos rfl (Ev_ite_pos (by show ((sealed (body a b c d e l)).length : Int) ≥ 19; omega) ?_))
    rw [decide_eq_true (by show ((sealed (body a b c d e l)).length : Int) ≤ 27; omega)]
    exact Ev.now _
  · exact Ev.bind (encode_no h) (Ev_ite_neg h (Ev_some (Ev.bind (lawful_ev _ _ _ _ _ _) (Ev_ite_pos rfl (Ev.now _)))))
/-- The law's call: true, and nothing that was there is touched. -/
theorem UnitBack_walk (a b c d e : Int) (A : Option Addr) (len cap : Nat) (z : List Int) (w : World) (_ : (Lit.int .i64 a).wf = true) (wb : (Lit.int .u32 b).wf = true) (wc : (Lit.int .u32 c).wf = true) (wd : (Lit.int .u32 d).wf = true) (_ : (Lit.int .i64 e).wf = true)
    (wz : ((A = none ∧ len = 0 ∧ cap = 0 ∧ z = []) ∨ ∃ x, A = some x ∧ len ≤ cap ∧ cap ≤ maxLen ∧ z.length = cap ∧ (∀ i, i < z.length → w.cell? (x.add i) = some (.int .u8 (z.getD i 0))) ∧ ∀ n ∈ z, (Lit.int .u8 n).wf = true)) :
    Calls Try.prog 4 #[.agg #[.int .i64 a, .int .u32 b, .int .u32 c, .int .u32 d, .int .i64 e, .slice A len cap]] w fun e w' => e = .returned (.bool true) ∧ Below w.heap.size w w' := by
  obtain ⟨l, rfl, hr, _, hw, hc⟩ := ReadsInt.ofRowC wz
  obtain ⟨k, h⟩ := UnitBack a b c d e l wb wc wd hw
  exact parapetlaw04_UnitBack.calls k a b c d e A cap l true w (Kd.C_of_reads (d := (0 : Int)) (h1 := fun _ => rfl) hr) hc h

end Go.Proofs.Ytlafkeijikbenac.Pure
