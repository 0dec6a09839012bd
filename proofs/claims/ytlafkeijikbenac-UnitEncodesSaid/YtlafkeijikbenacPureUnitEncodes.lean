/- The law UnitEncodes, as its printed function has it: it answers true for every input. -/
import Derived.Test.YtlafkeijikbenacLemE
namespace Go.Proofs.Ytlafkeijikbenac.Pure
open Go Go.RowKit Go.Proofs.Ytlafkeijikbenac.PE Go.Proofs.YtlafkeijikbenacW.PrintWords Go.Proofs.YtlafkeijikbenacW.PrintLast Go.Proofs.YtlafkeijikbenacW.PrintMore
open Go.Proofs.Ytlafkeijikbenac.Gf Go.Proofs.Ytlafkeijikbenac.Bt
theorem u32_lo {x : Int} (h : (Lit.int .u32 x).wf = true) : 0 ≤ x := by
  obtain ⟨n, rfl, h⟩ := u32_of_wf h; omega
theorem size_yes {a b c d e : Int} {l : List Int} (h : law a b c d e (l.length : Int) = 0) : Ev (fun k => unit_Size.f k a b c d e l) (19 + (l.length : Int), 0) := by
  obtain ⟨_, _, _, _, hl⟩ := law_zero h
  unfold unit_Size.f
  refine Ev.bind (lawful_ev _ _ _ _ _ _) (Ev_ite_pos h ?_)
  rw [wrap64_id (by omega) (by omega)]
  exact Ev.now _
theorem size_no {a b c d e : Int} {l : List Int} (h : law a b c d e (l.length : Int) ≠ 0) : Ev (fun k => unit_Size.f k a b c d e l) (0, law a b c d e (l.length : Int)) := by
  unfold unit_Size.f
  exact Ev.bind (lawful_ev _ _ _ _ _ _) (Ev_ite_neg h (Ev.now _))
theorem UnitEncodes : ∀ (a b c d e : Int) (l : List Int), (Lit.int .u32 b).wf = true → (Lit.int .u32 c).wf = true → (Lit.int .u32 d).wf = true → (∀ x ∈ l, (Lit.int .u8 x).wf = true) → ∃ k, parapetlaw04_UnitEncodes.f k a b c d e l = some true := by
  intro a b c d e l _ hc hd hl
  have by' := by_of_wf hl
  apply Ev.rounds (g := fun k => parapetlaw04_UnitEncodes.f k a b c d e l)
  unfold parapetlaw04_UnitEncodes.f
  refine Ev.bind awake_ev (Ev_ite_pos rfl ?_)
  by_cases q : (l.length : Int) > 1000
  · exact Ev_ite_pos q (Ev.now _)
  refine Ev_ite_neg q ?_
  rw [copied_f a b c d e (by omega)]
  refine Ev_some ?_
  by_cases h : law a b c d e (l.length : Int) = 0
  · refine Ev.bind (encode_ev by' h) (Ev.bind (rencode_ev by' (u32_lo hc) (u32_lo hd) h) (Ev_some (Ev.bind (size_yes h) (Ev_ite_pos rfl (Ev_ite_pos rfl (Ev_some (Ev.bind (lawful_ev _ _ _ _ _ _) (Ev_ite_pos h (Ev_ite_pos rfl ?_)))))))))
    have hlen := sealed_length (body a b c d e l)
    rw [body_length] at hlen
    have e1 : (19 + (l.length : Int) == ((sealed (body a b c d e l)).length : Int)) = true := beq_iff_eq.2 (by omega)
    dsimp only
    rw [e1]
    exact Ev.now _
  · refine Ev.bind (encode_no h) (Ev.bind (rencode_no (u32_lo hc) (u32_lo hd) h) (Ev_some (Ev.bind (size_no h) (Ev_ite_pos rfl (Ev_ite_pos rfl (Ev_some (Ev.bind (lawful_ev _ _ _ _ _ _) (Ev_ite_pos rfl (Ev_ite_pos rfl ?_)))))))))
    exact Ev.now _
/-- The law's call: true, and nothing that was there is touched. -/
theorem UnitEncodes_walk (a b c d e : Int) (A : Option Addr) (len cap : Nat) (z : List Int) (w : World) (_ : (Lit.int .i64 a).wf = true) (wb : (Lit.int .u32 b).wf = true) (wc : (Lit.int .u32 c).wf = true) (wd : (Lit.int .u32 d).wf = true) (_ : (Lit.int .i64 e).wf = true)
    (wz : ((A = none ∧ len = 0 ∧ cap = 0 ∧ z = []) ∨ ∃ x, A = some x ∧ len ≤ cap ∧ cap ≤ maxLen ∧ z.length = cap ∧ (∀ i, i < z.length → w.cell? (x.add i) = some (.int .u8 (z.getD i 0))) ∧ ∀ n ∈ z, (Lit.int .u8 n).wf = true)) :
    Calls Try.prog 9 #[.agg #[.int .i64 a, .int .u32 b, .int .u32 c, .int .u32 d, .int .i64 e, .slice A len cap]] w fun e w' => e = .returned (.bool true) ∧ Below w.heap.size w w' := by
  obtain ⟨l, rfl, hr, _, hw, hc⟩ := ReadsInt.ofRowC wz
  obtain ⟨k, h⟩ := UnitEncodes a b c d e l wb wc wd hw
  exact parapetlaw04_UnitEncodes.calls k a b c d e A cap l true w (Kd.C_of_reads (d := (0 : Int)) (h1 := fun _ => rfl) hr) hc h

end Go.Proofs.Ytlafkeijikbenac.Pure
