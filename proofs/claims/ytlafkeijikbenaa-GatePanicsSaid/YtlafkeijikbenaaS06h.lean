/- The law GatePanics: the walk. -/
import Derived.Test.YtlafkeijikbenaaS06g
namespace Go.Proofs.Ytlafkeijikbenaa.Law06
open Go Go.RowKit Go.Proofs.Ytlafkeijikbenaa.Hp Go.Proofs.Ytlafkeijikbenaa.Atom Go.Proofs.Ytlafkeijikbenaa.AtomC Go.Proofs.Ytlafkeijikbenaa.OnceC Go.Proofs.Ytlafkeijikbenaa.GateC
set_option linter.unusedVariables false
set_option linter.unusedSimpArgs false
def PanRel (W : World) (b c pn : Nat) (n : Int) (i : Value) (w : World) : Prop :=
  ∃ k : Nat, k ≤ 3 ∧ i = .int .i64 k ∧ IsL w b true false (fP c pn) (.int .i64 0) ∧ P2 c pn n 1 w ∧ Kept [] W w
set_option maxRecDepth 100000 in
set_option maxHeartbeats 1600000 in
theorem GatePanics_walk (n : Int) (W : World) (wn : (Lit.int .i64 n).wf = true) :
    Calls Try.prog 11 #[.int .i64 n] W fun e w' => e = .returned (.bool true) ∧ Below W.heap.size W w' := by
  have hn := OnceC.hnot
  have hmf : ∀ (fn : Fn) (first cap : Array Value) (w : World), (Instr.makeFunc fn first cap).run Try.prog w = .ok (.func fn first cap) w := fun _ _ _ _ => rfl
  have hN := Has.new W 3 [.int .i64 n]
  have hk : Kept [] W (W.alloc (.cells #[.int .i64 n] 3)) := (Kept.refl _ _).alloc _
  have s0 : W.heap.size < (W.alloc (.cells #[.int .i64 n] 3)).heap.size := by simp
  go_enter Try.func11, Try.ntmps11
  go_wp2_with fail
  generalize W.alloc (.cells #[.int .i64 n] 3) = wa at *
  refine (Law06.awake_call _).mono ?_
  rintro e w0 ⟨rfl, k0⟩
  have hN0 := k0.has hN (by simp)
  have K0 := hk.trans k0
  have s1 := k0.size
  have n0 := hN0.cell 0 (v := .int .i64 n) rfl
  clear hN hk k0
  by_cases hz : n = 0
  · subst hz
    go_wp2_with fail
    go_ret
    exact ⟨rfl, K0.toBelow (by simp)⟩
  · have hz1 : (n == 0) = false := by simpa using hz
    have K0' := Lib.hid K0
    have hz' := Lib.hid hz
    clear hz K0
    go_wp2_with fail
    clear n0
    have hne : w0.heap.size ≠ W.heap.size := by omega
    have hC := Has.new w0 3 [.int .i64 0]
    have hN1 := hN0.alloc (.cells #[.int .i64 0] 3)
    have K1 := Lib.hid (K0'.out.alloc (.cells #[.int .i64 0] 3))
    refine (mk_call _ _ _).mono ?_
    rintro e w1 ⟨rfl, k1, h1⟩
    rw [World.size_alloc] at h1
    have z1 := k1.size
    rw [World.size_alloc] at z1
    have hP : P2 w0.heap.size W.heap.size n 0 w1 := ⟨k1.has hC (by simp), k1.has hN1 (by simp)⟩
    have K2 := Lib.hid (K1.out.trans k1)
    have C1 := Lib.hid (caught_first (w0.heap.size + 1) w0.heap.size W.heap.size n w1 h1 hP hne)
    have hlb : W.heap.size ≤ w0.heap.size := by omega
    rw [World.size_alloc]
    clear hC hN1 K1 k1 h1 hP hN0 K0' s0 s1
    go_wp2_with fail
    refine C1.out.mono ?_
    rintro e w2 ⟨rfl, k2, h2, hp2⟩
    have K3 := Lib.hid (K2.out.fresh k2 (S' := []) (by intro i hi hl; simp at hi; omega))
    clear K2 C1 k2 z1
    generalize hb : w0.heap.size + 1 = b at *
    generalize w0.heap.size = c at *
    have hbl : W.heap.size ≤ b := by omega
    clear hb
    have n2 := hp2.2.cell 0 (v := .int .i64 n) rfl
    have c2 := hp2.1.cell 0 (v := .int .i64 1) rfl
    have M2 := Lib.hid (made_call b true false _ _ w2 h2)
    go_wp2_with fail
    refine M2.out.mono ?_
    rintro e w' ⟨rfl, rfl⟩
    clear n2 c2 M2
    go_wp2_with fail
    go_loopw [7] (PanRel W b c W.heap.size n) (fun i _ => 3 - (intOf i).toNat)
    case atStart => exact ⟨0, by omega, rfl, h2, hp2, K3.out⟩
    case round =>
      clear h2 hp2 K3
      obtain ⟨k, hk, rfl, h2, hp2, hK⟩ := hrel
      rename_i wr
      have K3 := Lib.hid hK
      clear hK
      rcases Nat.lt_or_ge k 3 with hlt | hge
      · have C2 := Lib.hid (caught_again b c W.heap.size n wr h2 hp2)
        clear h2 hp2
        go_wp2_with fail
        refine C2.out.mono ?_
        rintro e w5 ⟨rfl, k5, h5, hp5⟩
        have c5 := hp5.1.cell 0 (v := .int .i64 1) rfl
        have M5 := Lib.hid (made_call b true false _ _ w5 h5)
        have K5 := Lib.hid (K3.out.trans k5)
        clear C2 k5 K3
        go_wp2_with fail
        refine M5.out.mono ?_
        rintro e w' ⟨rfl, rfl⟩
        go_wp2_with fail
        go_roundw
        case rel => exact ⟨k + 1, by omega, by go_num, h5, hp5, K5.out⟩
        case measure => simp [intOf]; omega
      · go_wp2_with fail
        go_ret
        exact ⟨rfl, K3.out.toBelow (by simp)⟩
end Go.Proofs.Ytlafkeijikbenaa.Law06
