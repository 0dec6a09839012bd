/- The law GatePlays: the walk. -/
import Derived.Test.YtlafkeijikbenaaS06a
import Derived.Test.YtlafkeijikbenaaS05b
import Derived.Deep.RegionHeld3
namespace Go.Proofs.Ytlafkeijikbenaa.Law06
open Go Go.RowKit Go.Proofs.Ytlafkeijikbenaa.Hp Go.Proofs.Ytlafkeijikbenaa.Atom Go.Proofs.Ytlafkeijikbenaa.AtomC Go.Proofs.Ytlafkeijikbenaa.OnceC Go.Proofs.Ytlafkeijikbenaa.GateC Go.Proofs.Ytlafkeijikbenaa.Law05
set_option linter.unusedVariables false
set_option linter.unusedSimpArgs false
theorem same1 {P : Program} {f : FuncId} {args : Array Value} {w : World} {v : Value} (h : Calls P f args w fun e w' => e = .returned v ∧ w = w') : Calls P f args w fun e w' => e = .returned v ∧ w' = w :=
  h.mono fun _ _ ⟨a, b⟩ => ⟨a, b.symm⟩
/-- A gate of the program, and one of the document, that hold the same. -/
structure P2 (w : World) (g o v : Nat) (c t : Int) : Prop where
  g : IsG w g o ⟨c, decide (c ≠ 0), t⟩
  v : Has w v 63 [.int .i64 c, .int .i64 t]
theorem P2.kept {w w' : World} {g o v : Nat} {c t : Int} {S : List Nat} (h : P2 w g o v c t) (k : Kept S w w') (hg : g ∉ S) (ho : o ∉ S) (hv : v ∉ S) : P2 w' g o v c t := ⟨h.g.kept k hg ho, k.has h.v hv⟩
theorem P2.ne {w : World} {g o v : Nat} {c t : Int} (h : P2 w g o v c t) : g ≠ o ∧ g ≠ v ∧ o ≠ v := ⟨h.g.ne, Has.ne h.g.1 h.v (by decide), Has.ne h.g.2 h.v (by decide)⟩
theorem P2.lt {w : World} {g o v : Nat} {c t : Int} (h : P2 w g o v c t) : g < w.heap.size ∧ o < w.heap.size ∧ v < w.heap.size := ⟨h.g.1.lt, h.g.2.lt, h.v.lt⟩
theorem P2.ne2 {w : World} {g o v g' o' v' : Nat} {c t c' t' : Int} (h : P2 w g o v c t) (h' : P2 w g' o' v' c' t') : g ≠ o' ∧ g ≠ v' ∧ o ≠ g' ∧ o ≠ v' ∧ v ≠ g' ∧ v ≠ o' :=
  ⟨Has.ne h.g.1 h'.g.2 (by decide), Has.ne h.g.1 h'.v (by decide), Has.ne h.g.2 h'.g.1 (by decide), Has.ne h.g.2 h'.v (by decide), Has.ne h.v h'.g.1 (by decide), Has.ne h.v h'.g.2 (by decide)⟩
/-- The code behind a trip. -/
def tripC (c d : Int) : Int := if c ≠ 0 then c else d
theorem refLift_call (v : Nat) (c t : Int) (w : World) (h : Has w v 63 [.int .i64 c, .int .i64 t]) :
    Calls Try.prog 33 #[.pointer (some ⟨v, 0, none⟩)] w fun e w' => e = .returned (.int .i64 c) ∧ Kept [v] w w' ∧ Has w' v 63 [.int .i64 0, .int .i64 0] := by
  have c0 := h.cell 0 (v := .int .i64 c) rfl
  have c1 := h.cell 1 (v := .int .i64 t) rfl
  have z0 := h.free 0
  have z1 := h.free 1
  have hf := (h.set 0 (.int .i64 0)).set 1 (.int .i64 0)
  have F := Lib.hid hf
  clear hf h
  go_enter Try.func33, Try.ntmps33
  go_wp2_with fail
  go_ret
  exact ⟨rfl, ((Kept.refl _ _).set _ _ (by simp)).set _ _ (by simp), F.out⟩
theorem refTrip_call (v : Nat) (c t d : Int) (w : World) (h : Has w v 63 [.int .i64 c, .int .i64 t]) (hd : d ≠ 0) :
    Calls Try.prog 35 #[.pointer (some ⟨v, 0, none⟩), .int .i64 d] w fun e w' => e = .returned (.bool (!decide (c ≠ 0))) ∧ Kept [v] w w' ∧ Has w' v 63 [.int .i64 (tripC c d), .int .i64 (wrap64 (t + 1))] := by
  have c0 := h.cell 0 (v := .int .i64 c) rfl
  have c1 := h.cell 1 (v := .int .i64 t) rfl
  have z0 := h.free 0
  have z1 := h.free 1
  have hd0 : (d == 0) = false := by simpa using hd
  by_cases hc : c = 0
  · subst hc
    have hf := (h.set 1 (.int .i64 (wrap64 (t + 1)))).set 0 (.int .i64 d)
    have F := Lib.hid hf
    clear hf h hd
    go_enter Try.func35, Try.ntmps35
    go_wp2_with fail
    go_ret
    exact ⟨rfl, ((Kept.refl _ _).set _ _ (by simp)).set _ _ (by simp), F.out⟩
  · have hc0 : (c != 0) = true := by simpa using hc
    have e : tripC c d = c := if_pos hc
    have e2 : (!decide (c ≠ 0)) = false := by simpa using hc
    rw [e, e2]
    have hf := (h.set 1 (.int .i64 (wrap64 (t + 1))))
    have F := Lib.hid hf
    clear hf h hd e e2 hc
    go_enter Try.func35, Try.ntmps35
    go_wp2_with fail
    go_ret
    exact ⟨rfl, ((Kept.refl _ _).set _ _ (by simp)), F.out⟩
theorem refTrip_ok (v : Nat) (w : World) :
    Calls Try.prog 35 #[.pointer (some ⟨v, 0, none⟩), .int .i64 0] w fun e w' => e = .returned (.bool false) ∧ w = w' := by
  go_enter Try.func35, Try.ntmps35
  go_wp2_with fail
  go_ret
  exact ⟨rfl, rfl⟩
theorem gTrip_call (g o v : Nat) (c t d : Int) (w : World) (h : P2 w g o v c t) (hd : d ≠ 0) :
    Calls Try.prog 34 #[.pointer (some ⟨g, 0, none⟩), .int .i64 d] w fun e w' => e = .returned (.bool (!decide (c ≠ 0))) ∧ Kept [g, o] w w' ∧ IsG w' g o ⟨tripC c d, decide (tripC c d ≠ 0), wrap64 (t + 1)⟩ := by
  have e : G.trip ⟨c, decide (c ≠ 0), t⟩ d = ⟨tripC c d, decide (tripC c d ≠ 0), wrap64 (t + 1)⟩ := by
    unfold G.trip tripC
    by_cases hc : c = 0
    · subst hc; simp [hd]
    · simp [hc]
  rw [← e]
  exact trip_call g o _ d w h.g hd
def PlRel (W : World) (a b v u len : Nat) (i : Value) (w : World) : Prop :=
  ∃ (k oa ob : Nat) (c t c' t' : Int), k ≤ len ∧ i = .int .i64 k ∧ P2 w a oa v c t ∧ P2 w b ob u c' t' ∧ oa ≠ ob ∧ W.heap.size ≤ oa ∧ W.heap.size ≤ ob ∧ Kept [] W w
set_option maxRecDepth 100000 in
set_option maxHeartbeats 3200000 in
theorem GatePlays_walk (x : Option Addr) (len cap : Nat) (zs : List Int) (W : World) (hr : IsRow .i64 W x len cap zs) (_ : len * 8 ≤ 140737488351232) :
    Calls Try.prog 8 #[.slice x len cap] W fun e w' => e = .returned (.bool true) ∧ Below W.heap.size W w' := by
  obtain ⟨hm, hp⟩ := hr.parts
  clear hr
  unfold maxLen at hm
  have P' := Lib.hid hp
  clear hp
  have hn := OnceC.hnot
  go_enter Try.func8, Try.ntmps8
  go_wp2_with fail
  refine (Law06.awake_call _).mono ?_
  rintro e w0 ⟨rfl, k0⟩
  go_wp2_with fail
  refine (GateC.new_call _).mono ?_
  rintro e w1 ⟨rfl, k1, h1, l1⟩
  go_wp2_with fail
  refine (GateC.new_call _).mono ?_
  rintro e w2 ⟨rfl, k2, h2, l2⟩
  have s0 := k0.size
  have s1 := k1.size
  have s2 := k2.size
  have hA : P2 ((w2.alloc (.cells #[.int .i64 0, .int .i64 0] 63)).alloc (.cells #[.int .i64 0, .int .i64 0] 63)) (w0.heap.size + 1) w0.heap.size w2.heap.size 0 0 :=
    ⟨(h1.kept k2 (by simp) (by simp)).kept (((Kept.refl [] w2).alloc _).alloc _) (by simp) (by simp), (Has.new w2 _ _).alloc _⟩
  have hB : P2 ((w2.alloc (.cells #[.int .i64 0, .int .i64 0] 63)).alloc (.cells #[.int .i64 0, .int .i64 0] 63)) (w1.heap.size + 1) w1.heap.size (w2.heap.size + 1) 0 0 := by
    refine ⟨h2.kept (((Kept.refl [] w2).alloc _).alloc _) (by simp) (by simp), ?_⟩
    have := Has.new (w2.alloc (.cells #[.int .i64 0, .int .i64 0] 63)) 63 [.int .i64 0, .int .i64 0]
    rw [World.size_alloc] at this
    exact this
  have hK : Kept [] W ((w2.alloc (.cells #[.int .i64 0, .int .i64 0] 63)).alloc (.cells #[.int .i64 0, .int .i64 0] 63)) := ((((k0.trans k1).trans k2).alloc _).alloc _)
  have hs : W.heap.size ≤ w0.heap.size ∧ W.heap.size ≤ w1.heap.size ∧ W.heap.size ≤ w2.heap.size ∧ w0.heap.size + 1 < w1.heap.size ∧ w1.heap.size + 1 < w2.heap.size := ⟨by omega, by omega, by omega, by omega, by omega⟩
  have K' := Lib.hid hK
  clear hK h1 h2 k0 k1 k2 l1 l2 s0 s1 s2
  have A' := Lib.hid hA
  have B' := Lib.hid hB
  clear hA hB
  go_wp2_with fail
  go_loopw [7] (PlRel W (w0.heap.size + 1) (w1.heap.size + 1) w2.heap.size (w2.heap.size + 1) len) (fun i _ => len - (intOf i).toNat)
  case atStart => exact ⟨0, _, _, 0, 0, 0, 0, Nat.zero_le _, rfl, A'.out, B'.out, by omega, by omega, by omega, K'.out⟩
  case round =>
    clear A' B' K'
    have hd4 : w0.heap.size + 1 ≠ w1.heap.size + 1 ∧ W.heap.size ≤ w0.heap.size + 1 ∧ W.heap.size ≤ w1.heap.size + 1 ∧ W.heap.size ≤ w2.heap.size := ⟨by omega, by omega, by omega, by omega⟩
    clear hs
    generalize w0.heap.size + 1 = a at *
    generalize w1.heap.size + 1 = b at *
    generalize w2.heap.size = v at *
    obtain ⟨k, oa, ob, c, t, c', t', hk, rfl, hA, hB, hab, hoa, hob, hK⟩ := hrel
    rename_i wr
    rcases Nat.lt_or_ge k len with hlt | hge
    · obtain ⟨bs, off, rfl, hbs, hcc, hwz⟩ := P'.out.resolve_left (by omega)
      have hcell : ∀ w, Kept [] W w → w.cell? ⟨bs, off + k, none⟩ = some (.int .i64 (zs.getD k 0)) := fun w hw => (hw.cell hbs (by simp)).trans (hcc k hlt)
      clear hcc hwz
      generalize zs.getD k 0 = d at hcell
      have C' := Lib.hid hcell
      have q0 := hcell _ hK
      clear hcell
      have K' := Lib.hid hK
      clear hK
      by_cases h3 : k % 3 = 2
      · have e3 : ((k : Int) % 3 == 2) = true := by
          rw [beq_iff_eq]; omega
        have nn := hA.ne2 hB
        have na := hA.ne
        have nb := hB.ne
        have la := hA.lt
        have lb := hB.lt
        by_cases hneg : d < 0
        · go_wp2_with fail
          refine (lift_call b ob _ wr hB.g).mono ?_
          rintro e w5 ⟨rfl, k5, h5⟩
          have z5 := k5.size
          have Y5 := hA.kept k5 (by simp <;> omega) (by simp <;> omega) (by simp <;> omega)
          have v5 := k5.has hB.v (by simp <;> omega)
          go_wp2_with fail
          refine (refLift_call (v + 1) _ _ w5 v5).mono ?_
          rintro e w6 ⟨rfl, k6, v6⟩
          have l5 := h5.2.lt
          have Y6 := Y5.kept k6 (by simp <;> omega) (by simp <;> omega) (by simp <;> omega)
          have H6 : P2 w6 b wr.heap.size (v + 1) 0 0 := ⟨h5.kept k6 (by simp <;> omega) (by simp <;> omega), v6⟩
          have K6 := Lib.hid (K'.out.fresh ((k5.mono (S' := [b, (v + 1)]) (by simp)).trans (k6.mono (by simp))) (S' := []) (by intro i hi hl; simp at hi; omega))
          clear q0 Y5 v5 h5 v6
          have TA1 : ∀ n, Calls Try.prog 36 #[.pointer (some ⟨a, 0, none⟩)] (w6.drewN n) fun e w' => e = .returned (.int .i64 (c)) ∧ w' = w6.drewN n := fun n => same1 (code_call a _ _ _ (Y6.g.kept ((Kept.refl [] _).drewN n) (by simp) (by simp)))
          have TA2 : ∀ n, Calls Try.prog 37 #[.pointer (some ⟨a, 0, none⟩)] (w6.drewN n) fun e w' => e = .returned (.int .i64 (t)) ∧ w' = w6.drewN n := fun n => same1 (times_call a _ _ _ (Y6.g.kept ((Kept.refl [] _).drewN n) (by simp) (by simp)))
          have TB1 : ∀ n, Calls Try.prog 36 #[.pointer (some ⟨b, 0, none⟩)] (w6.drewN n) fun e w' => e = .returned (.int .i64 (0)) ∧ w' = w6.drewN n := fun n => same1 (code_call b _ _ _ (H6.g.kept ((Kept.refl [] _).drewN n) (by simp) (by simp)))
          have TB2 : ∀ n, Calls Try.prog 37 #[.pointer (some ⟨b, 0, none⟩)] (w6.drewN n) fun e w' => e = .returned (.int .i64 (0)) ∧ w' = w6.drewN n := fun n => same1 (times_call b _ _ _ (H6.g.kept ((Kept.refl [] _).drewN n) (by simp) (by simp)))
          replace TA1 := Lib.hid TA1
          replace TA2 := Lib.hid TA2
          replace TB1 := Lib.hid TB1
          replace TB2 := Lib.hid TB2
          have y0 := Y6.v.cell 0 (v := .int .i64 (c)) rfl
          have y1 := Y6.v.cell 1 (v := .int .i64 (t)) rfl
          have y2 := H6.v.cell 0 (v := .int .i64 (0)) rfl
          have y3 := H6.v.cell 1 (v := .int .i64 (0)) rfl
          go_wp2_with fail
          go_quiet ((first | (go_at_call 36; first | (with_reducible exact Calls.quiet_of_same (TA1.out _)) | (with_reducible exact Calls.quiet_of_same (TB1.out _))) | (go_at_call 37; first | (with_reducible exact Calls.quiet_of_same (TA2.out _)) | (with_reducible exact Calls.quiet_of_same (TB2.out _)))))
          go_wp2_with fail
          go_roundw
          case rel => exact ⟨k + 1, oa, wr.heap.size, c, t, 0, 0, by omega, by go_num, Y6.kept ((Kept.refl [] _).drewN _) (by simp) (by simp) (by simp), H6.kept ((Kept.refl [] _).drewN _) (by simp) (by simp) (by simp), by omega, by omega, by omega, K6.out.drewN _⟩
          case measure => simp [intOf]; omega
        · by_cases hd0 : d = 0
          · subst hd0
            have hbw : bs < wr.heap.size := by have := K'.out.size; omega
            go_wp2_with fail
            go_region_held3 (fun w' => w'.cell? ⟨bs, off + k, none⟩ = some (.int .i64 0)) (first | assumption | go_keep)
              (first
                | (go_at_call 34; refine (trip_ok b _).mono ?_; rintro e w5 ⟨rfl, k5⟩; have q5 : w5.cell? ⟨bs, off + k, none⟩ = some (.int .i64 0) := (k5.cell (by simp <;> exact hbw) (by simp)).trans q0)
                | (go_at_call 35; refine (refTrip_ok (v + 1) _).mono ?_; rintro e w6 ⟨rfl, rfl⟩))
            have k5' : Kept [] wr w5 := ((Kept.refl [] wr).drew).trans k5
            have Y6 := hA.kept k5' (by simp) (by simp) (by simp)
            have H6 := hB.kept k5' (by simp) (by simp) (by simp)
            have K6 := Lib.hid (K'.out.trans k5')
            clear q0 q5 k5'
            have TA1 : ∀ n, Calls Try.prog 36 #[.pointer (some ⟨a, 0, none⟩)] (w5.drewN n) fun e w' => e = .returned (.int .i64 (c)) ∧ w' = w5.drewN n := fun n => same1 (code_call a _ _ _ (Y6.g.kept ((Kept.refl [] _).drewN n) (by simp) (by simp)))
            have TA2 : ∀ n, Calls Try.prog 37 #[.pointer (some ⟨a, 0, none⟩)] (w5.drewN n) fun e w' => e = .returned (.int .i64 (t)) ∧ w' = w5.drewN n := fun n => same1 (times_call a _ _ _ (Y6.g.kept ((Kept.refl [] _).drewN n) (by simp) (by simp)))
            have TB1 : ∀ n, Calls Try.prog 36 #[.pointer (some ⟨b, 0, none⟩)] (w5.drewN n) fun e w' => e = .returned (.int .i64 (c')) ∧ w' = w5.drewN n := fun n => same1 (code_call b _ _ _ (H6.g.kept ((Kept.refl [] _).drewN n) (by simp) (by simp)))
            have TB2 : ∀ n, Calls Try.prog 37 #[.pointer (some ⟨b, 0, none⟩)] (w5.drewN n) fun e w' => e = .returned (.int .i64 (t')) ∧ w' = w5.drewN n := fun n => same1 (times_call b _ _ _ (H6.g.kept ((Kept.refl [] _).drewN n) (by simp) (by simp)))
            replace TA1 := Lib.hid TA1
            replace TA2 := Lib.hid TA2
            replace TB1 := Lib.hid TB1
            replace TB2 := Lib.hid TB2
            have y0 := Y6.v.cell 0 (v := .int .i64 (c)) rfl
            have y1 := Y6.v.cell 1 (v := .int .i64 (t)) rfl
            have y2 := H6.v.cell 0 (v := .int .i64 (c')) rfl
            have y3 := H6.v.cell 1 (v := .int .i64 (t')) rfl
            go_wp2_with fail
            go_quiet ((first | (go_at_call 36; first | (with_reducible exact Calls.quiet_of_same (TA1.out _)) | (with_reducible exact Calls.quiet_of_same (TB1.out _))) | (go_at_call 37; first | (with_reducible exact Calls.quiet_of_same (TA2.out _)) | (with_reducible exact Calls.quiet_of_same (TB2.out _)))))
            go_wp2_with fail
            go_roundw
            case rel => exact ⟨k + 1, oa, ob, c, t, c', t', by omega, by go_num, Y6.kept ((Kept.refl [] _).drewN _) (by simp) (by simp) (by simp), H6.kept ((Kept.refl [] _).drewN _) (by simp) (by simp) (by simp), by omega, by omega, by omega, K6.out.drewN _⟩
            case measure => simp [intOf]; omega
          · have hbw : bs < wr.heap.size := by have := K'.out.size; omega
            go_wp2_with fail
            have T5 := Lib.hid (fun W h => gTrip_call b ob (v + 1) c' t' d W h hd0)
            have T6 := Lib.hid (fun W h => refTrip_call (v + 1) c' t' d W h hd0)
            go_region_held3 (fun w' => w'.cell? ⟨bs, off + k, none⟩ = some (.int .i64 d)) (first | assumption | go_keep)
              (first
                | (go_at_call 34; refine (T5.out _ (hB.kept ((Kept.refl [] wr).drew) (by simp) (by simp) (by simp))).mono ?_; rintro e w5 ⟨rfl, k5, h5⟩; have q5 : w5.cell? ⟨bs, off + k, none⟩ = some (.int .i64 d) := (k5.cell (by simp <;> exact hbw) (by simp <;> omega)).trans q0)
                | (go_at_call 35; refine (T6.out _ (k5.has (Has.drew hB.v) (by simp <;> omega))).mono ?_; rintro e w6 ⟨rfl, k6, v6⟩; have q6 : w6.cell? ⟨bs, off + k, none⟩ = some (.int .i64 d) := (k6.cell (by have := k5.size; simp at this; simp; omega) (by simp <;> omega)).trans q5))
            have k5' : Kept [b, ob] wr w5 := ((Kept.refl [b, ob] wr).drew).trans k5
            have z5 := k5'.size
            have Y6 := (hA.kept k5' (by simp <;> omega) (by simp <;> omega) (by simp <;> omega)).kept k6 (by simp <;> omega) (by simp <;> omega) (by simp <;> omega)
            have H6 : P2 w6 b ob (v + 1) (tripC c' d) (wrap64 (t' + 1)) := ⟨h5.kept k6 (by simp <;> omega) (by simp <;> omega), v6⟩
            have K6 := Lib.hid (K'.out.fresh ((k5'.mono (S' := [b, ob, (v + 1)]) (by simp)).trans (k6.mono (by simp))) (S' := []) (by intro i hi hl; simp at hi; omega))
            clear q0 q5 q6 k5' h5 v6 T5 T6
            have TA1 : ∀ n, Calls Try.prog 36 #[.pointer (some ⟨a, 0, none⟩)] (w6.drewN n) fun e w' => e = .returned (.int .i64 (c)) ∧ w' = w6.drewN n := fun n => same1 (code_call a _ _ _ (Y6.g.kept ((Kept.refl [] _).drewN n) (by simp) (by simp)))
            have TA2 : ∀ n, Calls Try.prog 37 #[.pointer (some ⟨a, 0, none⟩)] (w6.drewN n) fun e w' => e = .returned (.int .i64 (t)) ∧ w' = w6.drewN n := fun n => same1 (times_call a _ _ _ (Y6.g.kept ((Kept.refl [] _).drewN n) (by simp) (by simp)))
            have TB1 : ∀ n, Calls Try.prog 36 #[.pointer (some ⟨b, 0, none⟩)] (w6.drewN n) fun e w' => e = .returned (.int .i64 (tripC c' d)) ∧ w' = w6.drewN n := fun n => same1 (code_call b _ _ _ (H6.g.kept ((Kept.refl [] _).drewN n) (by simp) (by simp)))
            have TB2 : ∀ n, Calls Try.prog 37 #[.pointer (some ⟨b, 0, none⟩)] (w6.drewN n) fun e w' => e = .returned (.int .i64 (wrap64 (t' + 1))) ∧ w' = w6.drewN n := fun n => same1 (times_call b _ _ _ (H6.g.kept ((Kept.refl [] _).drewN n) (by simp) (by simp)))
            replace TA1 := Lib.hid TA1
            replace TA2 := Lib.hid TA2
            replace TB1 := Lib.hid TB1
            replace TB2 := Lib.hid TB2
            have y0 := Y6.v.cell 0 (v := .int .i64 (c)) rfl
            have y1 := Y6.v.cell 1 (v := .int .i64 (t)) rfl
            have y2 := H6.v.cell 0 (v := .int .i64 (tripC c' d)) rfl
            have y3 := H6.v.cell 1 (v := .int .i64 (wrap64 (t' + 1))) rfl
            go_wp2_with fail
            go_quiet ((first | (go_at_call 36; first | (with_reducible exact Calls.quiet_of_same (TA1.out _)) | (with_reducible exact Calls.quiet_of_same (TB1.out _))) | (go_at_call 37; first | (with_reducible exact Calls.quiet_of_same (TA2.out _)) | (with_reducible exact Calls.quiet_of_same (TB2.out _)))))
            go_wp2_with fail
            go_roundw
            case rel => exact ⟨k + 1, oa, ob, c, t, tripC c' d, wrap64 (t' + 1), by omega, by go_num, Y6.kept ((Kept.refl [] _).drewN _) (by simp) (by simp) (by simp), H6.kept ((Kept.refl [] _).drewN _) (by simp) (by simp) (by simp), by omega, by omega, by omega, K6.out.drewN _⟩
            case measure => simp [intOf]; omega
      · have e3 : ((k : Int) % 3 == 2) = false := by
          rw [beq_eq_false_iff_ne]; omega
        have nn := hA.ne2 hB
        have na := hA.ne
        have nb := hB.ne
        have la := hA.lt
        have lb := hB.lt
        by_cases hneg : d < 0
        · go_wp2_with fail
          refine (lift_call a oa _ wr hA.g).mono ?_
          rintro e w5 ⟨rfl, k5, h5⟩
          have z5 := k5.size
          have Y5 := hB.kept k5 (by simp <;> omega) (by simp <;> omega) (by simp <;> omega)
          have v5 := k5.has hA.v (by simp <;> omega)
          go_wp2_with fail
          refine (refLift_call v _ _ w5 v5).mono ?_
          rintro e w6 ⟨rfl, k6, v6⟩
          have l5 := h5.2.lt
          have Y6 := Y5.kept k6 (by simp <;> omega) (by simp <;> omega) (by simp <;> omega)
          have H6 : P2 w6 a wr.heap.size v 0 0 := ⟨h5.kept k6 (by simp <;> omega) (by simp <;> omega), v6⟩
          have K6 := Lib.hid (K'.out.fresh ((k5.mono (S' := [a, v]) (by simp)).trans (k6.mono (by simp))) (S' := []) (by intro i hi hl; simp at hi; omega))
          clear q0 Y5 v5 h5 v6
          have TA1 : ∀ n, Calls Try.prog 36 #[.pointer (some ⟨a, 0, none⟩)] (w6.drewN n) fun e w' => e = .returned (.int .i64 (0)) ∧ w' = w6.drewN n := fun n => same1 (code_call a _ _ _ (H6.g.kept ((Kept.refl [] _).drewN n) (by simp) (by simp)))
          have TA2 : ∀ n, Calls Try.prog 37 #[.pointer (some ⟨a, 0, none⟩)] (w6.drewN n) fun e w' => e = .returned (.int .i64 (0)) ∧ w' = w6.drewN n := fun n => same1 (times_call a _ _ _ (H6.g.kept ((Kept.refl [] _).drewN n) (by simp) (by simp)))
          have TB1 : ∀ n, Calls Try.prog 36 #[.pointer (some ⟨b, 0, none⟩)] (w6.drewN n) fun e w' => e = .returned (.int .i64 (c')) ∧ w' = w6.drewN n := fun n => same1 (code_call b _ _ _ (Y6.g.kept ((Kept.refl [] _).drewN n) (by simp) (by simp)))
          have TB2 : ∀ n, Calls Try.prog 37 #[.pointer (some ⟨b, 0, none⟩)] (w6.drewN n) fun e w' => e = .returned (.int .i64 (t')) ∧ w' = w6.drewN n := fun n => same1 (times_call b _ _ _ (Y6.g.kept ((Kept.refl [] _).drewN n) (by simp) (by simp)))
          replace TA1 := Lib.hid TA1
          replace TA2 := Lib.hid TA2
          replace TB1 := Lib.hid TB1
          replace TB2 := Lib.hid TB2
          have y0 := H6.v.cell 0 (v := .int .i64 (0)) rfl
          have y1 := H6.v.cell 1 (v := .int .i64 (0)) rfl
          have y2 := Y6.v.cell 0 (v := .int .i64 (c')) rfl
          have y3 := Y6.v.cell 1 (v := .int .i64 (t')) rfl
          go_wp2_with fail
          go_quiet ((first | (go_at_call 36; first | (with_reducible exact Calls.quiet_of_same (TA1.out _)) | (with_reducible exact Calls.quiet_of_same (TB1.out _))) | (go_at_call 37; first | (with_reducible exact Calls.quiet_of_same (TA2.out _)) | (with_reducible exact Calls.quiet_of_same (TB2.out _)))))
          go_wp2_with fail
          go_roundw
          case rel => exact ⟨k + 1, wr.heap.size, ob, 0, 0, c', t', by omega, by go_num, H6.kept ((Kept.refl [] _).drewN _) (by simp) (by simp) (by simp), Y6.kept ((Kept.refl [] _).drewN _) (by simp) (by simp) (by simp), by omega, by omega, by omega, K6.out.drewN _⟩
          case measure => simp [intOf]; omega
        · by_cases hd0 : d = 0
          · subst hd0
            have hbw : bs < wr.heap.size := by have := K'.out.size; omega
            go_wp2_with fail
            go_region_held3 (fun w' => w'.cell? ⟨bs, off + k, none⟩ = some (.int .i64 0)) (first | assumption | go_keep)
              (first
                | (go_at_call 34; refine (trip_ok a _).mono ?_; rintro e w5 ⟨rfl, k5⟩; have q5 : w5.cell? ⟨bs, off + k, none⟩ = some (.int .i64 0) := (k5.cell (by simp <;> exact hbw) (by simp)).trans q0)
                | (go_at_call 35; refine (refTrip_ok v _).mono ?_; rintro e w6 ⟨rfl, rfl⟩))
            have k5' : Kept [] wr w5 := ((Kept.refl [] wr).drew).trans k5
            have Y6 := hB.kept k5' (by simp) (by simp) (by simp)
            have H6 := hA.kept k5' (by simp) (by simp) (by simp)
            have K6 := Lib.hid (K'.out.trans k5')
            clear q0 q5 k5'
            have TA1 : ∀ n, Calls Try.prog 36 #[.pointer (some ⟨a, 0, none⟩)] (w5.drewN n) fun e w' => e = .returned (.int .i64 (c)) ∧ w' = w5.drewN n := fun n => same1 (code_call a _ _ _ (H6.g.kept ((Kept.refl [] _).drewN n) (by simp) (by simp)))
            have TA2 : ∀ n, Calls Try.prog 37 #[.pointer (some ⟨a, 0, none⟩)] (w5.drewN n) fun e w' => e = .returned (.int .i64 (t)) ∧ w' = w5.drewN n := fun n => same1 (times_call a _ _ _ (H6.g.kept ((Kept.refl [] _).drewN n) (by simp) (by simp)))
            have TB1 : ∀ n, Calls Try.prog 36 #[.pointer (some ⟨b, 0, none⟩)] (w5.drewN n) fun e w' => e = .returned (.int .i64 (c')) ∧ w' = w5.drewN n := fun n => same1 (code_call b _ _ _ (Y6.g.kept ((Kept.refl [] _).drewN n) (by simp) (by simp)))
            have TB2 : ∀ n, Calls Try.prog 37 #[.pointer (some ⟨b, 0, none⟩)] (w5.drewN n) fun e w' => e = .returned (.int .i64 (t')) ∧ w' = w5.drewN n := fun n => same1 (times_call b _ _ _ (Y6.g.kept ((Kept.refl [] _).drewN n) (by simp) (by simp)))
            replace TA1 := Lib.hid TA1
            replace TA2 := Lib.hid TA2
            replace TB1 := Lib.hid TB1
            replace TB2 := Lib.hid TB2
            have y0 := H6.v.cell 0 (v := .int .i64 (c)) rfl
            have y1 := H6.v.cell 1 (v := .int .i64 (t)) rfl
            have y2 := Y6.v.cell 0 (v := .int .i64 (c')) rfl
            have y3 := Y6.v.cell 1 (v := .int .i64 (t')) rfl
            go_wp2_with fail
            go_quiet ((first | (go_at_call 36; first | (with_reducible exact Calls.quiet_of_same (TA1.out _)) | (with_reducible exact Calls.quiet_of_same (TB1.out _))) | (go_at_call 37; first | (with_reducible exact Calls.quiet_of_same (TA2.out _)) | (with_reducible exact Calls.quiet_of_same (TB2.out _)))))
            go_wp2_with fail
            go_roundw
            case rel => exact ⟨k + 1, oa, ob, c, t, c', t', by omega, by go_num, H6.kept ((Kept.refl [] _).drewN _) (by simp) (by simp) (by simp), Y6.kept ((Kept.refl [] _).drewN _) (by simp) (by simp) (by simp), by omega, by omega, by omega, K6.out.drewN _⟩
            case measure => simp [intOf]; omega
          · have hbw : bs < wr.heap.size := by have := K'.out.size; omega
            go_wp2_with fail
            have T5 := Lib.hid (fun W h => gTrip_call a oa v c t d W h hd0)
            have T6 := Lib.hid (fun W h => refTrip_call v c t d W h hd0)
            go_region_held3 (fun w' => w'.cell? ⟨bs, off + k, none⟩ = some (.int .i64 d)) (first | assumption | go_keep)
              (first
                | (go_at_call 34; refine (T5.out _ (hA.kept ((Kept.refl [] wr).drew) (by simp) (by simp) (by simp))).mono ?_; rintro e w5 ⟨rfl, k5, h5⟩; have q5 : w5.cell? ⟨bs, off + k, none⟩ = some (.int .i64 d) := (k5.cell (by simp <;> exact hbw) (by simp <;> omega)).trans q0)
                | (go_at_call 35; refine (T6.out _ (k5.has (Has.drew hA.v) (by simp <;> omega))).mono ?_; rintro e w6 ⟨rfl, k6, v6⟩; have q6 : w6.cell? ⟨bs, off + k, none⟩ = some (.int .i64 d) := (k6.cell (by have := k5.size; simp at this; simp; omega) (by simp <;> omega)).trans q5))
            have k5' : Kept [a, oa] wr w5 := ((Kept.refl [a, oa] wr).drew).trans k5
            have z5 := k5'.size
            have Y6 := (hB.kept k5' (by simp <;> omega) (by simp <;> omega) (by simp <;> omega)).kept k6 (by simp <;> omega) (by simp <;> omega) (by simp <;> omega)
            have H6 : P2 w6 a oa v (tripC c d) (wrap64 (t + 1)) := ⟨h5.kept k6 (by simp <;> omega) (by simp <;> omega), v6⟩
            have K6 := Lib.hid (K'.out.fresh ((k5'.mono (S' := [a, oa, v]) (by simp)).trans (k6.mono (by simp))) (S' := []) (by intro i hi hl; simp at hi; omega))
            clear q0 q5 q6 k5' h5 v6 T5 T6
            have TA1 : ∀ n, Calls Try.prog 36 #[.pointer (some ⟨a, 0, none⟩)] (w6.drewN n) fun e w' => e = .returned (.int .i64 (tripC c d)) ∧ w' = w6.drewN n := fun n => same1 (code_call a _ _ _ (H6.g.kept ((Kept.refl [] _).drewN n) (by simp) (by simp)))
            have TA2 : ∀ n, Calls Try.prog 37 #[.pointer (some ⟨a, 0, none⟩)] (w6.drewN n) fun e w' => e = .returned (.int .i64 (wrap64 (t + 1))) ∧ w' = w6.drewN n := fun n => same1 (times_call a _ _ _ (H6.g.kept ((Kept.refl [] _).drewN n) (by simp) (by simp)))
            have TB1 : ∀ n, Calls Try.prog 36 #[.pointer (some ⟨b, 0, none⟩)] (w6.drewN n) fun e w' => e = .returned (.int .i64 (c')) ∧ w' = w6.drewN n := fun n => same1 (code_call b _ _ _ (Y6.g.kept ((Kept.refl [] _).drewN n) (by simp) (by simp)))
            have TB2 : ∀ n, Calls Try.prog 37 #[.pointer (some ⟨b, 0, none⟩)] (w6.drewN n) fun e w' => e = .returned (.int .i64 (t')) ∧ w' = w6.drewN n := fun n => same1 (times_call b _ _ _ (Y6.g.kept ((Kept.refl [] _).drewN n) (by simp) (by simp)))
            replace TA1 := Lib.hid TA1
            replace TA2 := Lib.hid TA2
            replace TB1 := Lib.hid TB1
            replace TB2 := Lib.hid TB2
            have y0 := H6.v.cell 0 (v := .int .i64 (tripC c d)) rfl
            have y1 := H6.v.cell 1 (v := .int .i64 (wrap64 (t + 1))) rfl
            have y2 := Y6.v.cell 0 (v := .int .i64 (c')) rfl
            have y3 := Y6.v.cell 1 (v := .int .i64 (t')) rfl
            go_wp2_with fail
            go_quiet ((first | (go_at_call 36; first | (with_reducible exact Calls.quiet_of_same (TA1.out _)) | (with_reducible exact Calls.quiet_of_same (TB1.out _))) | (go_at_call 37; first | (with_reducible exact Calls.quiet_of_same (TA2.out _)) | (with_reducible exact Calls.quiet_of_same (TB2.out _)))))
            go_wp2_with fail
            go_roundw
            case rel => exact ⟨k + 1, oa, ob, tripC c d, wrap64 (t + 1), c', t', by omega, by go_num, H6.kept ((Kept.refl [] _).drewN _) (by simp) (by simp) (by simp), Y6.kept ((Kept.refl [] _).drewN _) (by simp) (by simp) (by simp), by omega, by omega, by omega, K6.out.drewN _⟩
            case measure => simp [intOf]; omega
    · go_wp2_with fail
      go_ret
      exact ⟨rfl, hK.toBelow (by simp)⟩
end Go.Proofs.Ytlafkeijikbenaa.Law06
