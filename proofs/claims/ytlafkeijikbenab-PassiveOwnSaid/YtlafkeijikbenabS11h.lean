/- Layer 11: the law PassiveOwn. -/
import Derived.Test.YtlafkeijikbenabS11b
import Derived.Test.YtlafkeijikbenabApD
import Derived.Test.YtlafkeijikbenabValveK
namespace Go.Proofs.Ytlafkeijikbenab.S11
open Go Go.RowKit Go.Proofs.Ytlafkeijikbenab.Hp Go.Proofs.Ytlafkeijikbenab.GateC Go.Proofs.Ytlafkeijikbenab.Sl Go.Proofs.Ytlafkeijikbenab.ValveC Go.Proofs.Ytlafkeijikbenab.ValveR Go.Proofs.Ytlafkeijikbenab.Fit Go.Proofs.Ytlafkeijikbenab.Ap
set_option linter.unusedVariables false
set_option linter.unusedSimpArgs false
theorem V_own_on (n : Int) (l : List Int) : (((V.new n).run true).take l).on = true := by simp [V.new, V.run, V.take, V.on]
theorem V_own_out (n : Int) (l : List Int) : (((V.new n).run true).take l).out = l := by simp [V.new, V.run, V.take, V.on, V.out]
set_option maxRecDepth 100000 in
set_option maxHeartbeats 3200000 in
theorem PassiveOwn_skip (s : Value) (l : List Int) (w : World) (hb : Bytes w s l) (h : l.length < 1 ∨ 8 < l.length) :
    Calls Try.prog 3 #[s] w fun e w' => e = .returned (.bool true) ∧ Below w.heap.size w w' := by
  obtain ⟨sp, sc, rfl⟩ := bytes_len hb
  clear hb
  by_cases h1 : l.length < 1
  · have e1 : decide ((l.length : Int) < 1) = true := by simp; omega
    clear h h1
    go_enter Try.func3, Try.ntmps3
    go_wp2_with fail
    refine (awake_call _).mono ?_
    rintro e w0 ⟨rfl, k0⟩
    go_wp2_with fail
    go_ret
    exact ⟨rfl, k0.toBelow (by simp)⟩
  · have e1 : decide ((l.length : Int) < 1) = false := by simp; omega
    have e2 : decide ((l.length : Int) > 8) = true := by simp; omega
    clear h h1
    go_enter Try.func3, Try.ntmps3
    go_wp2_with fail
    refine (awake_call _).mono ?_
    rintro e w0 ⟨rfl, k0⟩
    go_wp2_with fail
    go_ret
    exact ⟨rfl, k0.toBelow (by simp)⟩
set_option maxRecDepth 100000 in
set_option maxHeartbeats 3200000 in
theorem PassiveOwn_walk (s : Value) (l : List Int) (w : World) (hb : Bytes w s l) (h1 : 1 ≤ l.length) (h8 : l.length ≤ 8) :
    Calls Try.prog 3 #[s] w fun e w' => e = .returned (.bool true) ∧ Below w.heap.size w w' := by
  obtain ⟨sp, sc, rfl⟩ := bytes_len hb
  have e1 : decide ((l.length : Int) < 1) = false := by simp; omega
  have e2 : decide ((l.length : Int) > 8) = false := by simp; omega
  have SB := Lib.hid hb
  have H1 := Lib.hid h1
  have H8 := Lib.hid h8
  clear hb h1 h8
  go_enter Try.func3, Try.ntmps3
  go_wp2_with fail
  refine (awake_call _).mono ?_
  rintro e w0 ⟨rfl, k0⟩
  go_wp2_with fail
  refine (ValveC.new_call (l.length : Int) (by have := H1.out; omega) (by have := H8.out; omega) _).mono ?_
  rintro e w1 ⟨v, g, o, rfl, k1, hv, sv, sg, so⟩
  have K1 := k0.trans k1
  have z0 := k0.size
  go_wp2_with fail
  refine (ValveC.run_call v g o _ true _ hv).mono ?_
  rintro e w2 ⟨rfl, k2, h2⟩
  have K2 := Lib.hid (K1.fresh k2 (by intro i hi hl; simp at hi; omega))
  clear hv K1 k1 k0 k2
  go_wp2_with fail
  refine (spare_call _ l _ (SB.out.kept K2.out (by simp)) (by have := H8.out; omega)).mono ?_
  rintro e w3 ⟨gI, rfl, k3, hgI, hW⟩
  have h3 := h2.kept k3 (by simp)
  have K3 := Lib.hid (K2.out.trans k3)
  have K9z := Lib.hid (Nat.le_trans K2.out.size hgI)
  have hin := own_whole hW (by have := H8.out; omega)
  go_wp2_with fail
  refine (take_own v g o _ _ l _ h3 hin.bytes rfl (by have := H1.out; rintro rfl; simp at this) H8.out (by simp [V.new, V.run])).mono ?_
  rintro e w4 ⟨rfl, k4, kk, hkk, h4⟩
  have hvg : v ≠ gI := by have := (h2.kept (Kept.refl [] _) (by simp)); have z := K2.out.size; have q : v < w2.heap.size := by obtain ⟨_, _, q1, _⟩ := h2; exact q1.lt
                          omega
  have hW4 := k4.has hW (by simp; omega)
  have n4 : (v < gI ∧ g < gI ∧ o < gI) ∧ gI < kk ∧ kk < w4.heap.size := by
    obtain ⟨_, _, q1, q2, _⟩ := h2
    have := q1.lt; have := q2.1.lt; have := q2.2.lt; have := hW.lt; have := h4.lt
    omega
  have K4 := Lib.hid (K3.out.fresh k4 (by intro i hi hl; simp at hi; omega))
  clear h2 h3 k3 k4 K2 K3 hin
  go_wp2_with fail
  refine (kept_call gI _ l _ (SB.out.kept K4.out (by simp)) hW4 (by have := H8.out; omega)).mono ?_
  rintro e w5 ⟨rfl, k5⟩
  have h5 := h4.kept k5 (by simp) (by simp) (by simp) (by simp)
  have hW5 := k5.has hW4 (by simp)
  have K5 := Lib.hid (K4.out.trans k5)
  have z5 := k5.size
  have NN := Lib.hid n4
  clear n4
  have nn : (((V.new (l.length : Int)).run true).take l).n = (l.length : Int) := by simp [V.new, V.run, V.take]
  have hn1 : 1 ≤ (((V.new (l.length : Int)).run true).take l).n := by rw [nn]; have := H1.out; omega
  have hn8 : (((V.new (l.length : Int)).run true).take l).n ≤ 8 := by rw [nn]; have := H8.out; omega
  have OA := output_call v g o _ _ h5.v hn1 hn8
  rw [V_own_on, V_own_out] at OA
  have OA' := Lib.hid OA
  clear OA h4 hW4 K4 hW
  go_wp2_with fail
  refine OA'.out.mono ?_
  rintro e w6 ⟨sa, rfl, k6, ka, hka, oa⟩
  have h6 := h5.kept k6 (by simp) (by simp) (by simp) (by simp)
  have OB := output_call v g o _ _ h6.v hn1 hn8
  rw [V_own_on, V_own_out] at OB
  have OB' := Lib.hid OB
  clear OB
  go_wp2_with fail
  refine OB'.out.mono ?_
  rintro e w7 ⟨sb, rfl, k7, kb, hkb, ob⟩
  have h7 := h6.kept k7 (by simp) (by simp) (by simp) (by simp)
  have oa7 := oa.kept k7 (by simp)
  have hW7 := (k6.trans k7).has hW5 (by simp)
  have oi7 := own_whole hW7 (by have := H8.out; omega)
  have K7 := Lib.hid ((K5.out.trans k6).trans k7)
  have la := oa.lt
  have lI := hW5.lt
  obtain ⟨ca, cua, rfl, _⟩ := id oa7
  obtain ⟨cb, cub, rfl, _⟩ := id ob
  have ne1 : gI ≠ ka := by omega
  have ne2 : gI ≠ kb := by have := k6.size; omega
  have ne3 : ka ≠ kb := by omega
  have hL : Lists (w7.alloc (.cells #[.slice (some ⟨gI, 0, none⟩) l.length (l.length + 9), .slice (some ⟨ka, 0, none⟩) l.length ca, .slice (some ⟨kb, 0, none⟩) l.length cb] 22)) w7.heap.size [.slice (some ⟨gI, 0, none⟩) l.length (l.length + 9), .slice (some ⟨ka, 0, none⟩) l.length ca, .slice (some ⟨kb, 0, none⟩) l.length cb] (fun _ => l.length) [gI, ka, kb] := by
    have kk := (Kept.refl [] w7).alloc (.cells #[.slice (some ⟨gI, 0, none⟩) l.length (l.length + 9), .slice (some ⟨ka, 0, none⟩) l.length ca, .slice (some ⟨kb, 0, none⟩) l.length cb] 22)
    refine ⟨by simp, Has.new w7 _ _, fun _ => by have := H8.out; omega, ?_, ?_, ?_⟩
    · intro i hi
      match i, hi with
      | 0, _ => exact ⟨l, rfl, .inr ⟨gI, oi7.kept kk (by simp)⟩⟩
      | 1, _ => exact ⟨l, rfl, .inr ⟨ka, oa7.kept kk (by simp)⟩⟩
      | 2, _ => exact ⟨l, rfl, .inr ⟨kb, ob.kept kk (by simp)⟩⟩
    · intro i j k hi hj hij
      match i, hi, j, hj with
      | 0, _, 0, _ => exact absurd rfl hij
      | 1, _, 1, _ => exact absurd rfl hij
      | 2, _, 2, _ => exact absurd rfl hij
      | 0, _, 1, _ => simp [at_, Value.ownBlock]; omega
      | 0, _, 2, _ => simp [at_, Value.ownBlock]; omega
      | 1, _, 0, _ => simp [at_, Value.ownBlock]; omega
      | 1, _, 2, _ => simp [at_, Value.ownBlock]; omega
      | 2, _, 0, _ => simp [at_, Value.ownBlock]; omega
      | 2, _, 1, _ => simp [at_, Value.ownBlock]; omega
    · intro i k hi
      match i, hi with
      | 0, _ => simp [at_, Value.ownBlock]; omega
      | 1, _ => simp [at_, Value.ownBlock]; omega
      | 2, _ => simp [at_, Value.ownBlock]; omega
  have hV7 := h7.kept ((Kept.refl [] w7).alloc (.cells #[.slice (some ⟨gI, 0, none⟩) l.length (l.length + 9), .slice (some ⟨ka, 0, none⟩) l.length ca, .slice (some ⟨kb, 0, none⟩) l.length cb] 22)) (by simp) (by simp) (by simp) (by simp)
  have K8 := Lib.hid (K7.out.alloc (.cells #[.slice (some ⟨gI, 0, none⟩) l.length (l.length + 9), .slice (some ⟨ka, 0, none⟩) l.length ca, .slice (some ⟨kb, 0, none⟩) l.length cb] 22))
  have AP := Lib.hid (apart_call _ _ _ _ _ hL)
  clear hL K7
  go_wp2_with fail
  refine AP.out.mono ?_
  rintro e w8 ⟨rfl, k8⟩
  have z6 := k6.size
  have hV8 := hV7.kept k8 (by have := NN.out; simp; omega) (by have := NN.out; simp; omega) (by have := NN.out; simp; omega) (by have := NN.out; simp; omega)
  have K9 := Lib.hid (K8.out.fresh k8 (by intro i hi hl; have := NN.out; have := K5.out.size; simp at hi; exfalso; have := K9z.out; omega))
  have SB9 := Lib.hid (SB.out.kept K9.out (by simp))
  have OC := output_call v g o _ _ hV8.v hn1 hn8
  rw [V_own_on, V_own_out] at OC
  have OC' := Lib.hid OC
  clear OC hV7 k8 AP K8
  go_wp2_with fail
  refine OC'.out.mono ?_
  rintro e wa ⟨sc', rfl, ka', kc, hkc, oc⟩
  have s1 := oc.bytes.str
  have s2 := (SB9.out.kept ka' (by simp)).str
  go_wp2_with fail
  go_ret
  exact ⟨rfl, (K9.out.trans ka').toBelow (by simp)⟩
theorem PassiveOwn_law (x : Option Addr) (len cap : Nat) (w : World) (hg : ∃ n, Fits Try.prog w n 22 [.slice x len cap]) :
    Calls Try.prog 3 #[.slice x len cap] w fun e w' => e = .returned (.bool true) ∧ Below w.heap.size w w' := by
  obtain ⟨n, hg⟩ := hg
  obtain ⟨l, rfl, hb, hl, _⟩ := bytes_of_fits hg
  by_cases h : 1 ≤ l.length ∧ l.length ≤ 8
  · exact PassiveOwn_walk _ l w hb h.1 h.2
  · exact PassiveOwn_skip _ l w hb (by omega)
end Go.Proofs.Ytlafkeijikbenab.S11
