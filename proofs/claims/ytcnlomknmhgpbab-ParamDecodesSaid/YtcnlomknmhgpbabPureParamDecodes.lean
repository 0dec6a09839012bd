/- The law ParamDecodes, as its printed function has it: it answers true for every input. -/
import Derived.Test.YtcnlomknmhgpbabLemQ
namespace Go.Proofs.Ytcnlomknmhgpbab.Pure
open Go Go.RowKit Go.Proofs.Ytcnlomknmhgpbab.PQ Go.Proofs.YtcnlomknmhgpbabW.PrintWords Go.Proofs.YtcnlomknmhgpbabW.PrintLast Go.Proofs.YtcnlomknmhgpbabW.PrintMore
open Go.Proofs.Ytcnlomknmhgpbab.Gf Go.Proofs.Ytcnlomknmhgpbab.Bt
theorem ParamDecodes : parapetlaw09_ParamDecodes.Pure := by
  intro l _ _ hw
  have hb := by_of_wf hw
  apply Ev.rounds (g := fun k => parapetlaw09_ParamDecodes.f k l)
  unfold parapetlaw09_ParamDecodes.f
  refine Ev.bind awake_ev (Ev_ite_pos rfl ?_)
  by_cases c : (l.length : Int) > 1000
  · exact Ev_ite_pos c (Ev.now _)
  refine Ev_ite_neg c (Ev_some (Ev_ite_pos (by simp; omega) ?_))
  rw [List.nil_append]
  by_cases h : l.length = 14
  · obtain ⟨n, rfl, hn⟩ : ∃ n : List Nat, l = n.map (fun x : Nat => (x : Int)) ∧ ∀ x ∈ n, x < 256 := by
      refine ⟨l.map Int.toNat, ?_, ?_⟩
      · rw [List.map_map]
        conv => lhs; rw [← List.map_id l]
        exact List.map_congr_left (fun x hx => by have := hb x hx; simp; omega)
      · intro x hx
        obtain ⟨y, hy, rfl⟩ := List.mem_map.1 hx
        have := hb y hy; omega
    rw [List.length_map] at h
    obtain ⟨a0, t0, rfl, h0⟩ := uncons h
    obtain ⟨a1, t1, rfl, h1⟩ := uncons h0
    obtain ⟨a2, t2, rfl, h2⟩ := uncons h1
    obtain ⟨a3, t3, rfl, h3⟩ := uncons h2
    obtain ⟨a4, t4, rfl, h4⟩ := uncons h3
    obtain ⟨a5, t5, rfl, h5⟩ := uncons h4
    obtain ⟨a6, t6, rfl, h6⟩ := uncons h5
    obtain ⟨a7, t7, rfl, h7⟩ := uncons h6
    obtain ⟨a8, t8, rfl, h8⟩ := uncons h7
    obtain ⟨a9, t9, rfl, h9⟩ := uncons h8
    obtain ⟨a10, t10, rfl, h10⟩ := uncons h9
    obtain ⟨a11, t11, rfl, h11⟩ := uncons h10
    obtain ⟨a12, t12, rfl, h12⟩ := uncons h11
    obtain ⟨a13, t13, rfl, h13⟩ := uncons h12
    obtain rfl : t13 = [] := List.length_eq_zero_iff.1 h13
    have g0 := hn a0 (by simp)
    have g1 := hn a1 (by simp)
    have g2 := hn a2 (by simp)
    have g3 := hn a3 (by simp)
    have g4 := hn a4 (by simp)
    have g5 := hn a5 (by simp)
    have g6 := hn a6 (by simp)
    have g7 := hn a7 (by simp)
    have g8 := hn a8 (by simp)
    have g9 := hn a9 (by simp)
    have g10 := hn a10 (by simp)
    have g11 := hn a11 (by simp)
    have g12 := hn a12 (by simp)
    have g13 := hn a13 (by simp)
    clear hn hb hw c
    simp only [List.map_cons, List.map_nil]
    generalize hL : ([(a0 : Int), (a1 : Int), (a2 : Int), (a3 : Int), (a4 : Int), (a5 : Int), (a6 : Int), (a7 : Int), (a8 : Int), (a9 : Int), (a10 : Int), (a11 : Int), (a12 : Int), (a13 : Int)] : List Int) = L
    have d6 : L.drop 6 = [(a6 : Int), (a7 : Int), (a8 : Int), (a9 : Int), (a10 : Int), (a11 : Int), (a12 : Int), (a13 : Int)] := by rw [← hL]; rfl
    have d10 : L.drop 10 = [(a10 : Int), (a11 : Int), (a12 : Int), (a13 : Int)] := by rw [← hL]; rfl
    have t4 : (L.take 4).drop 0 = [(a0 : Int), (a1 : Int), (a2 : Int), (a3 : Int)] := by rw [← hL]; rfl
    have t10 : (L.take 10).drop 6 = [(a6 : Int), (a7 : Int), (a8 : Int), (a9 : Int)] := by rw [← hL]; rfl
    have t14 : (L.take 14).drop 10 = [(a10 : Int), (a11 : Int), (a12 : Int), (a13 : Int)] := by rw [← hL]; rfl
    have r4 : rd L 4 = (a4 : Int) := by rw [← hL]; rfl
    have r5 : rd L 5 = (a5 : Int) := by rw [← hL]; rfl
    have hlen : L.length = 14 := by rw [← hL]; rfl
    have n0 : param_number.f L = some ((num4 a0 a1 a2 a3 : Nat) : Int) := by rw [← hL]; exact number_f _ g0 g1 g2 g3
    have n6 : param_number.f (L.drop 6) = some ((num4 a6 a7 a8 a9 : Nat) : Int) := by rw [d6]; exact number_f _ g6 g7 g8 g9
    have n10 : param_number.f (L.drop 10) = some ((num4 a10 a11 a12 a13 : Nat) : Int) := by rw [d10]; exact number_f _ g10 g11 g12 g13
    have m0 : parapetref04_Word.f ((L.take 4).drop 0) = some ((num4 a0 a1 a2 a3 : Nat) : Int) := by rw [t4]; exact rnumber_f _ g0 g1 g2 g3
    have m6 : parapetref04_Word.f ((L.take 10).drop 6) = some ((num4 a6 a7 a8 a9 : Nat) : Int) := by rw [t10]; exact rnumber_f _ g6 g7 g8 g9
    have m10 : parapetref04_Word.f ((L.take 14).drop 10) = some ((num4 a10 a11 a12 a13 : Nat) : Int) := by rw [t14]; exact rnumber_f _ g10 g11 g12 g13
    have b6 : num4 a6 a7 a8 a9 < 4294967296 := by unfold num4; omega
    have hD : param_Decode.f L = (param_Check.f ((num4 a0 a1 a2 a3 : Nat) : Int) (a4 : Int) (a5 : Int) ((num4 a6 a7 a8 a9 : Nat) : Int) ((num4 a10 a11 a12 a13 : Nat) : Int)).bind fun t149 => (if t149 = 0 then (some (((num4 a0 a1 a2 a3 : Nat) : Int), (a4 : Int), (a5 : Int), ((num4 a6 a7 a8 a9 : Nat) : Int), ((num4 a10 a11 a12 a13 : Nat) : Int), 0)) else (some (0, 0, 0, 0, 0, t149))) := by
      unfold param_Decode.f
      rw [if_pos (by omega), n0, Option.bind_some, if_pos (by omega), if_pos (by omega), if_pos (by omega), n6, Option.bind_some, if_pos (by omega), n10, Option.bind_some, r4, r5, wrap64_id (n := (a4 : Int)) (by omega) (by omega), wrap64_id (n := (a5 : Int)) (by omega) (by omega), wrap64_id (by omega) (by omega)]
    have hR : parapetref09_Decode.f L = (parapetref09_Lawful.f ((num4 a0 a1 a2 a3 : Nat) : Int) (a4 : Int) (a5 : Int) ((num4 a6 a7 a8 a9 : Nat) : Int) ((num4 a10 a11 a12 a13 : Nat) : Int)).bind fun t165 => (if t165 = true then (some (((num4 a0 a1 a2 a3 : Nat) : Int), (a4 : Int), (a5 : Int), ((num4 a6 a7 a8 a9 : Nat) : Int), ((num4 a10 a11 a12 a13 : Nat) : Int), 0)) else (some (0, 0, 0, 0, 0, 90))) := by
      unfold parapetref09_Decode.f
      rw [if_pos (by omega), if_pos (by omega), if_pos (by omega), m0, Option.bind_some, if_pos (by omega), if_pos (by omega), if_pos (by omega), if_pos (by omega), m6, Option.bind_some, if_pos (by omega), if_pos (by omega), m10, Option.bind_some, r4, r5, wrap64_id (n := (a4 : Int)) (by omega) (by omega), wrap64_id (n := (a5 : Int)) (by omega) (by omega), wrap64_id (by omega) (by omega)]
    rcases lawful_check ((num4 a0 a1 a2 a3 : Nat) : Int) (a4 : Int) (a5 : Int) ((num4 a6 a7 a8 a9 : Nat) : Int) ((num4 a10 a11 a12 a13 : Nat) : Int) (by omega) (by omega) with ⟨h1, h2⟩ | ⟨h1, h2⟩
    · rw [h2, Option.bind_some, if_pos rfl] at hD
      rw [h1, Option.bind_some, if_pos rfl] at hR
      rw [hD, hR]
      refine Ev_some (Ev_some (Ev_ite_neg (by simp) ?_))
      simp only [bne_self_eq_false]
      refine Ev.step (fun k => parapetlaw09_ParamDecodes.j0.eq_2 ..) (Ev_ite_neg (by simp) (Ev_ite_pos rfl ?_))
      rw [encode_f h2]
      refine Ev_some (Ev_ite_pos rfl ?_)
      have e : w4 ((num4 a0 a1 a2 a3 : Nat) : Int) ++ [(a4 : Int) % 256, (a5 : Int) % 256] ++ w4 (((num4 a6 a7 a8 a9 : Nat) : Int) % 4294967296) ++ w4 ((num4 a10 a11 a12 a13 : Nat) : Int) = L := by
        rw [show ((num4 a6 a7 a8 a9 : Nat) : Int) % 4294967296 = ((num4 a6 a7 a8 a9 : Nat) : Int) from by omega, w4_num g0 g1 g2 g3, w4_num g6 g7 g8 g9, w4_num g10 g11 g12 g13, show (a4 : Int) % 256 = (a4 : Int) from by omega, show (a5 : Int) % 256 = (a5 : Int) from by omega, ← hL]; rfl
      rw [e]
      simp only [beq_self_eq_true]
      exact Ev.now _
    · rw [h2, Option.bind_some, if_neg (by omega)] at hD
      rw [h1, Option.bind_some, if_neg (by simp)] at hR
      rw [hD, hR]
      refine Ev_some (Ev_some (Ev_ite_neg (by simp) ?_))
      exact Ev.step (fun k => parapetlaw09_ParamDecodes.j0.eq_2 ..) (Ev_ite_neg (by simp) (Ev_ite_neg (by simp) (Ev.now _)))
  · have hD : param_Decode.f l = some (0, 0, 0, 0, 0, 45) := by unfold param_Decode.f; rw [if_neg (by omega)]
    have hR : parapetref09_Decode.f l = some (0, 0, 0, 0, 0, 45) := by unfold parapetref09_Decode.f; rw [if_neg (by omega)]
    rw [hD, hR]
    refine Ev_some (Ev_some (Ev_ite_neg (by simp) ?_))
    exact Ev.step (fun k => parapetlaw09_ParamDecodes.j0.eq_2 ..) (Ev_ite_neg (by simp) (Ev_ite_neg (by simp) (Ev.now _)))

end Go.Proofs.Ytcnlomknmhgpbab.Pure
