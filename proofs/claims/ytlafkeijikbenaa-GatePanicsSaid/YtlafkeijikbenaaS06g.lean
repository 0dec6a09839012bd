/- The law GatePanics: the one that catches; the walk. -/
import Derived.Test.YtlafkeijikbenaaS06f
namespace Go.Proofs.Ytlafkeijikbenaa.Law06
open Go Go.RowKit Go.Proofs.Ytlafkeijikbenaa.Hp Go.Proofs.Ytlafkeijikbenaa.Atom Go.Proofs.Ytlafkeijikbenaa.AtomC Go.Proofs.Ytlafkeijikbenaa.OnceC Go.Proofs.Ytlafkeijikbenaa.GateC
set_option linter.unusedVariables false
set_option linter.unusedSimpArgs false
set_option maxRecDepth 100000 in
theorem catch_panicking (p : Addr) (x n : Int) (older : List PanicEntry) (w : World) (hc : w.cell? p = some (.int .i64 x)) (hz : w.frozen? p = false) :
    CallsD Try.prog 70 #[.pointer (some p)] (.panicking (thrown n :: older)) w fun e u' w' =>
      e = .returned (.tuple #[]) ∧ u' = .panicking ({ v := .iface 3 (.int .i64 n), recovered := true } :: older) ∧ w' = w.setCell p (.int .i64 n) := by
  have hta : ∀ w : World, (Instr.typeAssert (.iface 3 (.int .i64 n)) 20 3 true).run Try.prog w = .ok (.tuple #[.int .i64 n, .bool true]) w := fun w => by kernel_rfl
  refine callsD_of_wpS Try.func70 rfl fun c₀ cs hu => ?_
  apply wpS_seq
  apply wpS_region
  simp [wpOpsS, go_sem, recoverD, hu, thrown, Try.ntmps70, Exit.thenS]
  apply wpS_seq
  apply wpS_region
  simp [wpOpsS, go_sem, Exit.thenS, Array.replicate]
  refine wpS_cond (t := true) (by simp [Act.eval, Array.replicate]) ?_
  simp only [if_true]
  apply wpS_region
  simp [wpOpsS, go_sem, hc, hz, hta, bodyPostS, results, Try.results70]
set_option maxRecDepth 100000 in
theorem catch_idle (p : Addr) (w : World) :
    CallsD Try.prog 70 #[.pointer (some p)] .returning w fun e u' w' => e = .returned (.tuple #[]) ∧ u' = .returning ∧ w' = w := by
  refine callsD_of_wpS Try.func70 rfl fun c₀ cs hu => ?_
  apply wpS_seq
  apply wpS_region
  simp [wpOpsS, go_sem, recoverD, hu, Try.ntmps70, Exit.thenS]
  apply wpS_seq
  apply wpS_region
  simp [wpOpsS, go_sem, Exit.thenS, Array.replicate]
  refine wpS_cond (t := false) (by simp [Act.eval, Array.replicate]) ?_
  simp only [Bool.false_eq_true, if_false]
  refine wpS_of_wp (wp_skip ?_)
  cases c₀
  simp_all [bodyPostS, results, Try.results70]
/-- What one catching leaves, the first time. -/
def Caught (w : World) (b c pn : Nat) (n : Int) (e : Ending) (w' : World) : Prop :=
  e = .returned (.tuple #[.int .i64 0, .int .i64 n]) ∧ Kept [b, c] w w' ∧ IsL w' b true false (fP c pn) (.int .i64 0) ∧ P2 c pn n 1 w'
set_option maxRecDepth 100000 in
set_option maxHeartbeats 1600000 in
theorem caught_first (b c pn : Nat) (n : Int) (w : World) (h : IsL w b false false (fP c pn) (.int .i64 0)) (hc : P2 c pn n 0 w) (hne : c ≠ pn) :
    Calls Try.prog 47 #[.pointer (some ⟨b, 0, none⟩)] w (Caught w b c pn n) := by
  have hmf : ∀ (fn : Fn) (first cap : Array Value) (w : World), (Instr.makeFunc fn first cap).run Try.prog w = .ok (.func fn first cap) w := fun _ _ _ _ => rfl
  have k0 : Kept [] w (w.alloc (.cells #[.int .i64 0] 3)) := (Kept.refl _ _).alloc _
  have G := get_panics b c pn n _ (k0.has h (by simp)) (hc.kept k0 (by simp) (by simp)) hne
  have hT := Has.new w 3 [.int .i64 0]
  have hb : b ≠ w.heap.size := Nat.ne_of_lt h.lt
  have hcc : c ≠ w.heap.size := Nat.ne_of_lt hc.1.lt
  have hpn : pn ≠ w.heap.size := Nat.ne_of_lt hc.2.lt
  have k1 : Kept [b, c] w (w.alloc (.cells #[.int .i64 0] 3)) := (Kept.refl _ _).alloc _
  have G' := Lib.hid G
  have K1 := Lib.hid k1
  have T1 := Lib.hid hT
  clear G k0 k1 h hc hT
  go_enter_defers Try.func47, Try.ntmps47
  go_wp2_with fail
  refine G'.out.mono ?_
  rintro e w2 ⟨rfl, k2, h2, hp2⟩
  have t2 := k2.has T1.out (by simp; exact ⟨fun e => hb e.symm, fun e => hcc e.symm⟩)
  have t0 := t2.cell 0 (v := .int .i64 0) rfl
  have z0 := t2.free 0
  have K2 := Lib.hid (K1.out.trans k2)
  clear G' K1 T1 k2
  go_wp2_with fail
  refine leaves_cons (f := 70) (args := #[.pointer (some ⟨w.heap.size, 0, none⟩)]) (by simp) (by simp [go_sem]) ?_
  refine (catch_panicking ⟨w.heap.size, 0, none⟩ 0 n [] _ t0 z0).mono ?_
  rintro e u' w'' ⟨rfl, rfl, rfl⟩
  have hf : (w2.setCell ⟨w.heap.size, 0, none⟩ (.int .i64 n)).cell? ⟨w.heap.size, 0, none⟩ = some (.int .i64 n) := (t2.set 0 _).cell 0 rfl
  have fin : Caught w b c pn n (.returned (.tuple #[.int .i64 0, .int .i64 n])) (w2.setCell ⟨w.heap.size, 0, none⟩ (.int .i64 n)) :=
    ⟨rfl, K2.out.set _ _ (fun h => by simp at h), h2.set_ne _ _ hb, hp2.kept ((Kept.refl [w.heap.size] w2).set _ _ (by simp)) (by simp; exact hcc) (by simp; exact hpn)⟩
  refine ⟨.tuple #[.int .i64 0, .int .i64 n], ?_, fin⟩
  simp [results, Try.results47, go_sem, hf]
/-- .. and again: nothing is thrown, and the value is nothing. -/
theorem caught_again (b c pn : Nat) (n : Int) (w : World) (h : IsL w b true false (fP c pn) (.int .i64 0)) (hc : P2 c pn n 1 w) :
    Calls Try.prog 47 #[.pointer (some ⟨b, 0, none⟩)] w fun e w' => e = .returned (.tuple #[.int .i64 0, .int .i64 0]) ∧ Kept [] w w' ∧ IsL w' b true false (fP c pn) (.int .i64 0) ∧ P2 c pn n 1 w' := by
  have hmf : ∀ (fn : Fn) (first cap : Array Value) (w : World), (Instr.makeFunc fn first cap).run Try.prog w = .ok (.func fn first cap) w := fun _ _ _ _ => rfl
  have k0 : Kept [] w (w.alloc (.cells #[.int .i64 0] 3)) := (Kept.refl _ _).alloc _
  have G := get_again b false 46 _ 0 _ (k0.has h (by simp))
  have hT := Has.new w 3 [.int .i64 0]
  have h0 := k0.has h (by simp)
  have hc0 := hc.kept k0 (by simp) (by simp)
  have hb : b ≠ w.heap.size := Nat.ne_of_lt h.lt
  have hcc : c ≠ w.heap.size := Nat.ne_of_lt hc.1.lt
  have hpn : pn ≠ w.heap.size := Nat.ne_of_lt hc.2.lt
  have G' := Lib.hid G
  have K1 := Lib.hid k0
  have T1 := Lib.hid hT
  clear G k0 hT h hc
  go_enter_defers Try.func47, Try.ntmps47
  go_wp2_with fail
  refine G'.out.mono ?_
  rintro e w2 ⟨rfl, k2⟩
  have t2 := k2.has T1.out (by simp)
  have h2 := k2.has h0 (by simp)
  have hp2 := hc0.kept k2 (by simp) (by simp)
  have t0 := t2.cell 0 (v := .int .i64 0) rfl
  have z0 := t2.free 0
  have hf : (w2.setCell ⟨w.heap.size, 0, none⟩ (.int .i64 0)).cell? ⟨w.heap.size, 0, none⟩ = some (.int .i64 0) := (t2.set 0 _).cell 0 rfl
  have K2 := Lib.hid (K1.out.trans k2)
  clear G' K1 T1 k2 h0 hc0
  go_wp2_with fail
  refine leaves_cons (f := 70) (args := #[.pointer (some ⟨w.heap.size, 0, none⟩)]) (by simp) (by simp [go_sem]) ?_
  refine (catch_idle ⟨w.heap.size, 0, none⟩ _).mono ?_
  rintro e u' w'' ⟨rfl, rfl, rfl⟩
  refine ⟨.tuple #[.int .i64 0, .int .i64 0], ?_, rfl, K2.out.set _ _ (fun h => by simp at h), h2.set_ne _ _ hb, hp2.kept ((Kept.refl [w.heap.size] w2).set _ _ (by simp)) (by simp; exact hcc) (by simp; exact hpn)⟩
  simp [results, Try.results47, go_sem, hf]
end Go.Proofs.Ytlafkeijikbenaa.Law06
