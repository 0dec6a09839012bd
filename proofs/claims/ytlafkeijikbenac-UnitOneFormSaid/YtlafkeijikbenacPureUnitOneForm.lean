/- The law UnitOneForm, as its printed function has it: it answers true for every input. -/
import Derived.Test.YtlafkeijikbenacLemK2
namespace Go.Proofs.Ytlafkeijikbenac.Pure
open Go Go.RowKit Go.Proofs.Ytlafkeijikbenac.PK Go.Proofs.YtlafkeijikbenacW.PrintWords Go.Proofs.YtlafkeijikbenacW.PrintLast Go.Proofs.YtlafkeijikbenacW.PrintMore
open Go.Proofs.Ytlafkeijikbenac.Gf Go.Proofs.Ytlafkeijikbenac.Bt
theorem same_none' : parapetref04_Same.f 0 0 0 0 0 [] 0 0 0 0 0 [] = some true := by decide +kernel
theorem UnitOneForm : parapetlaw04_UnitOneForm.Pure := by
  intro l _ _ hw
  have hb := by_of_wf hw
  apply Ev.rounds (g := fun k => parapetlaw04_UnitOneForm.f k l)
  unfold parapetlaw04_UnitOneForm.f
  refine Ev.bind awake_ev (Ev_ite_pos rfl ?_)
  by_cases q : (l.length : Int) > 1000
  · exact Ev_ite_pos q (Ev.now _)
  refine Ev_ite_neg q (Ev.bind (rseal_ev hb (by omega)) (Ev_some ?_))
  have hlen := sealed_length l
  refine Ev_ite_pos (by simp; omega) ?_
  rw [List.nil_append]
  have bad : ∀ v : Int, v ≠ 0 → Ev (fun k => unit_Decode.f k (sealed l)) (0, 0, 0, 0, 0, [], v) → Ev (fun k => (unit_Decode.f k (sealed l)).bind fun bt447 => (if bt447.2.2.2.2.2.2 = 0 then ((unit_Encode.f k bt447.1 bt447.2.1 bt447.2.2.1 bt447.2.2.2.1 bt447.2.2.2.2.1 bt447.2.2.2.2.2.1).bind fun bt457 => (if bt457.2 = 0 then (some ((strOfNums bt457.1).toList == (strOfNums (sealed l)).toList)) else (some false))) else ((parapetref04_Same.f bt447.1 bt447.2.1 bt447.2.2.1 bt447.2.2.2.1 bt447.2.2.2.2.1 bt447.2.2.2.2.2.1 0 0 0 0 0 ([] : List Int)).bind fun t461 => (some t461)))) true := by
    intro v hv h
    refine Ev.bind h (Ev_ite_neg hv ?_)
    dsimp only
    rw [same_none']
    exact Ev.now _
  by_cases c1 : (sealed l).length < 19
  · exact bad 40 (by omega) (decode_short c1)
  by_cases c2 : 27 < (sealed l).length
  · exact bad 41 (by omega) (decode_long c2)
  obtain ⟨x0, x1, x2, x3, x4, x5, x6, x7, x8, x9, x10, x11, x12, x13, x14, data, ⟨g0, g1, g2, g3, g4, g5, g6, g7, g8, g9, g10, g11, g12, g13, g14⟩, bd, ld, hl⟩ := split15 hb (by omega)
  have g := decode_ev (L := sealed l) g0 g1 g2 g3 g4 g5 g6 g7 g8 g9 g10 g11 g12 g13 g14 (data := data) (tl := word4 (crc l : Int)) (by omega) rfl (sealed_by hb) (by unfold sealed; rw [hl]; rfl) crc_sealed
  by_cases z : (x14 : Int) = (data.length : Int)
  · by_cases y : law (x0 : Int) (num4 x1 x2 x3 x4 : Nat) (num4 x5 x6 x7 x8 : Nat) (num4 x9 x10 x11 x12 : Nat) (x13 : Int) (data.length : Int) = 0
    · have e : dec (x0 : Int) (num4 x1 x2 x3 x4 : Nat) (num4 x5 x6 x7 x8 : Nat) (num4 x9 x10 x11 x12 : Nat) (x13 : Int) (x14 : Int) data = ((x0 : Int), ((num4 x1 x2 x3 x4 : Nat) : Int), ((num4 x5 x6 x7 x8 : Nat) : Int), ((num4 x9 x10 x11 x12 : Nat) : Int), (x13 : Int), data, 0) := by unfold dec; rw [if_pos z, if_pos y]
      rw [e] at g
      refine Ev.bind g (Ev_ite_pos rfl (Ev.bind (encode_ev bd y) (Ev_ite_pos rfl ?_)))
      have eb : body (x0 : Int) (num4 x1 x2 x3 x4 : Nat) (num4 x5 x6 x7 x8 : Nat) (num4 x9 x10 x11 x12 : Nat) (x13 : Int) data = l := by
        unfold body
        rw [w4_num g1 g2 g3 g4, w4_num g5 g6 g7 g8, w4_num g9 g10 g11 g12, ← z, show (x0 : Int) % 256 = (x0 : Int) from by omega, show (x13 : Int) % 256 = (x13 : Int) from by omega, show (x14 : Int) % 256 = (x14 : Int) from by omega, hl]
        rfl
      dsimp only
      rw [eb, show ((strOfNums (sealed l)).toList == (strOfNums (sealed l)).toList) = true from beq_iff_eq.2 rfl]
      exact Ev.now _
    · refine bad _ y ?_
      have e : dec (x0 : Int) (num4 x1 x2 x3 x4 : Nat) (num4 x5 x6 x7 x8 : Nat) (num4 x9 x10 x11 x12 : Nat) (x13 : Int) (x14 : Int) data = (0, 0, 0, 0, 0, [], law (x0 : Int) (num4 x1 x2 x3 x4 : Nat) (num4 x5 x6 x7 x8 : Nat) (num4 x9 x10 x11 x12 : Nat) (x13 : Int) (data.length : Int)) := by unfold dec; rw [if_pos z, if_neg y]
      rw [e] at g
      exact g
  · have e : ∃ v : Int, v ≠ 0 ∧ dec (x0 : Int) (num4 x1 x2 x3 x4 : Nat) (num4 x5 x6 x7 x8 : Nat) (num4 x9 x10 x11 x12 : Nat) (x13 : Int) (x14 : Int) data = (0, 0, 0, 0, 0, [], v) := by
      unfold dec
      rw [if_neg z]
      refine ⟨_, ?_, rfl⟩
      split
      · omega
      · split <;> omega
    obtain ⟨v, hv, e⟩ := e
    rw [e] at g
    exact bad v hv g

end Go.Proofs.Ytlafkeijikbenac.Pure
