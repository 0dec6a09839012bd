/- The law UnitBursts, as its printed function has it: it answers true for every input. -/
import Derived.Test.YtlafkeijikbenacLemV
namespace Go.Proofs.Ytlafkeijikbenac.Pure
open Go Go.RowKit Go.Proofs.Ytlafkeijikbenac.PV Go.Proofs.YtlafkeijikbenacW.PrintWords Go.Proofs.YtlafkeijikbenacW.PrintLast Go.Proofs.YtlafkeijikbenacW.PrintMore
open Go.Proofs.Ytlafkeijikbenac.Gf Go.Proofs.Ytlafkeijikbenac.Bt
theorem same_none : parapetref04_Same.f 0 0 0 0 0 [] 0 0 0 0 0 [] = some true := by decide +kernel
theorem u32_lo' {x : Int} (h : (Lit.int .u32 x).wf = true) : 0 ≤ x := by
  obtain ⟨n, rfl, h⟩ := u32_of_wf h; omega
theorem UnitBursts : ∀ (a b c d e : Int) (l : List Int) (at' word : Int) (pl : List Int), (Lit.int .u32 b).wf = true → (Lit.int .u32 c).wf = true → (Lit.int .u32 d).wf = true → (∀ x ∈ l, (Lit.int .u8 x).wf = true) → (Lit.int .u32 word).wf = true → ∃ k, parapetlaw04_UnitBursts.f k a b c d e l at' word pl = some true := by
  intro a b c d e l at' word pl _ hc hd hl hw
  have by' := by_of_wf hl
  obtain ⟨w, rfl, hww⟩ := u32_of_wf hw
  apply Ev.rounds (g := fun k => parapetlaw04_UnitBursts.f k a b c d e l at' (w : Int) pl)
  unfold parapetlaw04_UnitBursts.f
  refine Ev.bind awake_ev (Ev_ite_pos rfl ?_)
  have tt : Ev (fun k => parapetlaw04_UnitBursts.j0 k at' (w : Int) pl true a b c d e l) true := Ev.step (fun _ => parapetlaw04_UnitBursts.j0.eq_2 ..) (Ev_ite_pos rfl (Ev.now _))
  by_cases q : (l.length : Int) > 1000
  · exact Ev_ite_pos q tt
  refine Ev_ite_neg q ?_
  by_cases q2 : (pl.length : Int) > 1000
  · rw [decide_eq_true q2]; exact tt
  rw [decide_eq_false q2]
  refine Ev.step (fun _ => parapetlaw04_UnitBursts.j0.eq_2 ..) (Ev_ite_neg (by simp) ?_)
  by_cases h : law a b c d e (l.length : Int) = 0
  case neg => exact Ev.bind (rencode_no (u32_lo' hc) (u32_lo' hd) h) (Ev_ite_neg h (Ev.now _))
  obtain ⟨_, _, _, _, hl8⟩ := law_zero h
  have hlen := sealed_length (body a b c d e l)
  rw [body_length] at hlen
  have hsb := sealed_by (body_by a b c d e by')
  have hcr : crc (sealed (body a b c d e l)) = 0 := crc_sealed
  refine Ev.bind (rencode_ev by' (u32_lo' hc) (u32_lo' hd) h) (Ev_ite_pos rfl ?_)
  dsimp only
  generalize sealed (body a b c d e l) = F at hlen hsb hcr
  have rest : Ev (fun k => parapetlaw04_UnitBursts.j1 k pl F) true := by
    have e : wrap64 (8 * (F.length : Int)) = ((8 * F.length : Nat) : Int) := by rw [wrap64_id (by omega) (by omega)]; omega
    refine Ev.step (fun _ => parapetlaw04_UnitBursts.j1.eq_2 ..) ?_
    rw [e]
    obtain ⟨ps, p1, p2, p3⟩ := places_ev (N := 8 * F.length) (by omega) (by omega) (src := pl) (by omega)
    refine Ev.bind p3 ?_
    by_cases z : ((ps.length : Nat) : Int) % 2 = 0
    · exact Ev_ite_pos z (Ev.now _)
    obtain ⟨l', g1, g2, g3, g4⟩ := turned_ev (ps := ps) hsb (by omega) (fun p hp => by have := p1 p hp; omega) (by omega)
    obtain ⟨x, x1, x2⟩ := g3
    have hx := crc_xor x1 hcr
    have ho := odd_seen (x := x) (by rw [x2]; omega)
    rw [← hx] at ho
    refine Ev_ite_neg z (Ev.bind g4 (Ev.bind (decode_bad g2 (by omega) (by omega) ho) (Ev_ite_pos rfl ?_)))
    dsimp only
    rw [same_none]
    exact Ev.now _
  rcases burst_ev (at' := at') hsb (by omega) hww with g | ⟨l', t, h0, h1, h2, h3, h4⟩
  · exact Ev.bind g (Ev_ite_neg (by simp) rest)
  · have e : ¬ crc l' = 0 := by
      rw [crc_xor h3 hcr, Nat.mul_assoc, ← Nat.pow_add]
      exact burst_seen h0 hww
    exact Ev.bind h4 (Ev_ite_pos rfl (Ev.bind (decode_bad (L := l') h2 (by omega) (by omega) e) (Ev_ite_pos rfl rest)))
/-- The law's call: true, and nothing that was there is touched. -/
theorem UnitBursts_walk (a b c d e : Int) (A : Option Addr) (len cap : Nat) (z : List Int) (at' word : Int) (A3 : Option Addr) (len3 cap3 : Nat) (z3 : List Int) (w : World) (_ : (Lit.int .i64 a).wf = true) (wb : (Lit.int .u32 b).wf = true) (wc : (Lit.int .u32 c).wf = true) (wd : (Lit.int .u32 d).wf = true) (_ : (Lit.int .i64 e).wf = true)
    (wz : ((A = none ∧ len = 0 ∧ cap = 0 ∧ z = []) ∨ ∃ x, A = some x ∧ len ≤ cap ∧ cap ≤ maxLen ∧ z.length = cap ∧ (∀ i, i < z.length → w.cell? (x.add i) = some (.int .u8 (z.getD i 0))) ∧ ∀ n ∈ z, (Lit.int .u8 n).wf = true)) (_ : (Lit.int .i64 at').wf = true) (ww : (Lit.int .u32 word).wf = true)
    (wz3 : ((A3 = none ∧ len3 = 0 ∧ cap3 = 0 ∧ z3 = []) ∨ ∃ x, A3 = some x ∧ len3 ≤ cap3 ∧ cap3 ≤ maxLen ∧ z3.length = cap3 ∧ (∀ i, i < z3.length → w.cell? (x.add i) = some (.int .i64 (z3.getD i 0))) ∧ ∀ n ∈ z3, (Lit.int .i64 n).wf = true)) (_ : len3 * 8 ≤ 140737488351232) :
    Calls Try.prog 6 #[.agg #[.int .i64 a, .int .u32 b, .int .u32 c, .int .u32 d, .int .i64 e, .slice A len cap], .int .i64 at', .int .u32 word, .slice A3 len3 cap3] w fun e w' => e = .returned (.bool true) ∧ Below w.heap.size w w' := by
  obtain ⟨l, rfl, hr, _, hw, hc⟩ := ReadsInt.ofRowC wz
  obtain ⟨l3, rfl, hr3, _, _, hc3⟩ := ReadsInt.ofRowC wz3
  obtain ⟨k, h⟩ := UnitBursts a b c d e l at' word l3 wb wc wd hw ww
  exact parapetlaw04_UnitBursts.calls k a b c d e A cap l at' word A3 cap3 l3 true w (Kd.C_of_reads (d := (0 : Int)) (h1 := fun _ => rfl) hr) hc (Kd.C_of_reads (d := (0 : Int)) (h1 := fun _ => rfl) hr3) hc3 h

end Go.Proofs.Ytlafkeijikbenac.Pure
