/- The law GateFirst: the walk. -/
import Derived.Test.YtlafkeijikbenaaS06b
namespace Go.Proofs.Ytlafkeijikbenaa.Law06
open Go Go.RowKit Go.Proofs.Ytlafkeijikbenaa.Hp Go.Proofs.Ytlafkeijikbenaa.Atom Go.Proofs.Ytlafkeijikbenaa.AtomC Go.Proofs.Ytlafkeijikbenaa.OnceC Go.Proofs.Ytlafkeijikbenaa.GateC Go.Proofs.Ytlafkeijikbenaa.Law05
set_option linter.unusedVariables false
set_option linter.unusedSimpArgs false
def gOf (c t : Int) : G := ⟨c, decide (c ≠ 0), t⟩
theorem gTrip (g o : Nat) (c t d : Int) (w : World) (h : IsG w g o (gOf c t)) (hd : d ≠ 0) :
    Calls Try.prog 34 #[.pointer (some ⟨g, 0, none⟩), .int .i64 d] w fun e w' => e = .returned (.bool (!decide (c ≠ 0))) ∧ Kept [g, o] w w' ∧ IsG w' g o (gOf (tripC c d) (wrap64 (t + 1))) := by
  have e : (gOf c t).trip d = gOf (tripC c d) (wrap64 (t + 1)) := by
    unfold G.trip tripC gOf
    by_cases hc : c = 0
    · subst hc; simp [hd]
    · simp [hc]
  rw [← e]
  exact trip_call g o _ d w h hd
def FirstRel (W : World) (g len : Nat) (first times i : Value) (w : World) : Prop :=
  ∃ (k o : Nat) (c t : Int), k ≤ len ∧ i = .int .i64 k ∧ first = .int .i64 c ∧ times = .int .i64 t ∧ IsG w g o (gOf c t) ∧ W.heap.size ≤ o ∧ Kept [] W w
set_option maxRecDepth 100000 in
set_option maxHeartbeats 1600000 in
theorem GateFirst_walk (x : Option Addr) (len cap : Nat) (zs : List Int) (W : World) (hr : IsRow .i64 W x len cap zs) (_ : len * 8 ≤ 140737488351232) :
    Calls Try.prog 9 #[.slice x len cap] W fun e w' => e = .returned (.bool true) ∧ Below W.heap.size W w' := by
  obtain ⟨hm, hp⟩ := hr.parts
  clear hr
  unfold maxLen at hm
  have P' := Lib.hid hp
  have Cd : ∀ g o c t w, IsG w g o (gOf c t) → Calls Try.prog 36 #[.pointer (some ⟨g, 0, none⟩)] w fun e w' => e = .returned (.int .i64 c) ∧ w = w' := fun g o c t w h => code_call g o _ w h
  have Tm : ∀ g o c t w, IsG w g o (gOf c t) → Calls Try.prog 37 #[.pointer (some ⟨g, 0, none⟩)] w fun e w' => e = .returned (.int .i64 t) ∧ w = w' := fun g o c t w h => times_call g o _ w h
  have Lf : ∀ g o c t w, IsG w g o (gOf c t) → Calls Try.prog 32 #[.pointer (some ⟨g, 0, none⟩)] w fun e w' => e = .returned (.int .i64 c) ∧ Kept [g] w w' ∧ IsG w' g w.heap.size (gOf 0 0) := fun g o c t w h => lift_call g o _ w h
  replace Cd := Lib.hid Cd
  replace Tm := Lib.hid Tm
  replace Lf := Lib.hid Lf
  clear hp
  have hn := OnceC.hnot
  go_enter Try.func9, Try.ntmps9
  go_wp2_with fail
  refine (Law06.awake_call _).mono ?_
  rintro e w0 ⟨rfl, k0⟩
  go_wp2_with fail
  refine (GateC.new_call _).mono ?_
  rintro e w1 ⟨rfl, k1, h1, l1⟩
  have s0 := k0.size
  have hg : W.heap.size ≤ w0.heap.size + 1 ∧ W.heap.size ≤ w0.heap.size := ⟨by omega, by omega⟩
  have K' := Lib.hid (k0.trans k1)
  have H' : IsG w1 (w0.heap.size + 1) w0.heap.size (gOf 0 0) := h1
  replace H' := Lib.hid H'
  clear h1 k0 k1 l1 s0
  go_wp2_with fail
  go_loopw [4, 5, 6] (FirstRel W (w0.heap.size + 1) len) (fun _ _ i _ => len - (intOf i).toNat)
  case atStart => exact ⟨0, _, 0, 0, Nat.zero_le _, rfl, rfl, rfl, H'.out, hg.2, K'.out⟩
  case round =>
    clear H' K'
    generalize w0.heap.size + 1 = g at *
    obtain ⟨k, o, c, t, hk, rfl, rfl, rfl, hG, ho, hK⟩ := hrel
    rename_i wr
    rcases Nat.lt_or_ge k len with hlt | hge
    · obtain ⟨bs, off, rfl, hbs, hcc, hwz⟩ := P'.out.resolve_left (by omega)
      have hcell : ∀ w, Kept [] W w → w.cell? ⟨bs, off + k, none⟩ = some (.int .i64 (zs.getD k 0)) := fun w hw => (hw.cell hbs (by simp)).trans (hcc k hlt)
      clear hcc hwz
      generalize zs.getD k 0 = d at hcell
      have q0 := hcell _ hK
      clear hcell
      have K' := Lib.hid hK
      have lg := hG.1.lt
      have lo := hG.2.lt
      clear hK
      by_cases hd : d = 0
      · subst hd
        cases hcb : (c == 0) <;>
        · go_wp2_with fail
          refine (trip_ok g _).mono ?_
          rintro e w5 ⟨rfl, k5⟩
          have G5 := hG.kept k5 (by simp) (by simp)
          go_wp2_with (first | (go_at_call 36; refine (Cd.out _ _ _ _ _ G5).mono ?_; rintro e w' ⟨rfl, rfl⟩) | (go_at_call 37; refine (Tm.out _ _ _ _ _ G5).mono ?_; rintro e w' ⟨rfl, rfl⟩))
          go_roundw
          case rel => exact ⟨k + 1, o, c, t, by omega, by go_num, rfl, rfl, G5, ho, K'.out.trans k5⟩
          case measure => simp [intOf]; omega
      · have hd1 : (d != 0) = true := by simpa using hd
        have T5 := Lib.hid (gTrip g o c t d wr hG hd)
        by_cases hc : c = 0
        · subst hc
          have e1 : tripC 0 d = d := if_neg (by simp)
          rw [e1] at T5
          clear hd e1 hG
          go_wp2_with fail
          refine T5.out.mono ?_
          rintro e w5 ⟨rfl, k5, G5⟩
          go_wp2_with (first | (go_at_call 36; refine (Cd.out _ _ _ _ _ G5).mono ?_; rintro e w' ⟨rfl, rfl⟩) | (go_at_call 37; refine (Tm.out _ _ _ _ _ G5).mono ?_; rintro e w' ⟨rfl, rfl⟩))
          go_roundw
          case rel => exact ⟨k + 1, o, d, wrap64 (t + 1), by omega, by go_num, rfl, rfl, G5, ho, K'.out.fresh k5 (by intro i hi hl; simp at hi; omega)⟩
          case measure => simp [intOf]; omega
        · have hc1 : (c == 0) = false := by simpa using hc
          have e1 : tripC c d = c := if_pos hc
          have e2 : (!decide (c ≠ 0)) = false := by simpa using hc
          rw [e1, e2] at T5
          clear hd e1 e2 hc hG
          go_wp2_with fail
          refine T5.out.mono ?_
          rintro e w5 ⟨rfl, k5, G5⟩
          go_wp2_with (first | (go_at_call 36; refine (Cd.out _ _ _ _ _ G5).mono ?_; rintro e w' ⟨rfl, rfl⟩) | (go_at_call 37; refine (Tm.out _ _ _ _ _ G5).mono ?_; rintro e w' ⟨rfl, rfl⟩))
          go_roundw
          case rel => exact ⟨k + 1, o, c, wrap64 (t + 1), by omega, by go_num, rfl, rfl, G5, ho, K'.out.fresh k5 (by intro i hi hl; simp at hi; omega)⟩
          case measure => simp [intOf]; omega
    · have T5 : ∀ g o w, IsG w g o (gOf 0 0) → Calls Try.prog 34 #[.pointer (some ⟨g, 0, none⟩), .int .i64 5] w fun e w' => e = .returned (.bool true) ∧ Kept [g, o] w w' ∧ IsG w' g o (gOf 5 (wrap64 (0 + 1))) := fun g o w h => gTrip g o 0 0 5 w h (by decide)
      replace T5 := Lib.hid T5
      have K' := Lib.hid hK
      have z0 := hK.size
      clear hK
      go_wp2_with fail
      refine (Lf.out _ _ _ _ _ hG).mono ?_
      rintro e w5 ⟨rfl, k5, G5⟩
      go_wp2_with fail
      refine (Cd.out _ _ _ _ _ G5).mono ?_
      rintro e w' ⟨rfl, rfl⟩
      go_wp2_with fail
      refine (Tm.out _ _ _ _ _ G5).mono ?_
      rintro e w' ⟨rfl, rfl⟩
      go_wp2_with fail
      refine (Lf.out _ _ _ _ _ G5).mono ?_
      rintro e w6 ⟨rfl, k6, G6⟩
      have z5 := k5.size
      go_wp2_with fail
      refine (T5.out _ _ _ G6).mono ?_
      rintro e w7 ⟨rfl, k7, G7⟩
      go_wp2_with fail
      refine (Cd.out _ _ _ _ _ G7).mono ?_
      rintro e w' ⟨rfl, rfl⟩
      go_wp2_with fail
      go_ret
      exact ⟨rfl, (((K'.out.fresh k5 (S' := []) (by intro i hi hl; simp at hi; omega)).fresh k6 (by intro i hi hl; simp at hi; omega)).fresh k7 (by intro i hi hl; simp at hi; omega)).toBelow (by simp)⟩
end Go.Proofs.Ytlafkeijikbenaa.Law06
