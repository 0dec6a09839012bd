/- Layer 6: Awake; a nil gate, a nil Lazy. -/
import Derived.Test.YtlafkeijikbenaaGateC
import Derived.Test.YtlafkeijikbenaaFit
namespace Go.Proofs.Ytlafkeijikbenaa.Law06
open Go Go.RowKit Go.Proofs.Ytlafkeijikbenaa.Hp Go.Proofs.Ytlafkeijikbenaa.Atom Go.Proofs.Ytlafkeijikbenaa.AtomC Go.Proofs.Ytlafkeijikbenaa.OnceC Go.Proofs.Ytlafkeijikbenaa.GateC
set_option linter.unusedVariables false
set_option linter.unusedSimpArgs false
theorem tr1 : G.new.trip 100 = ⟨100, true, 1⟩ := by simp [G.trip, G.new, wrap64]
theorem tr2 : G.trip ⟨100, true, 1⟩ 131 = ⟨100, true, 2⟩ := by simp [G.trip, wrap64]
theorem awake_call (w : World) : Calls Try.prog 30 #[] w fun e w' => e = .returned (.bool true) ∧ Kept [] w w' := by
  have hn := OnceC.hnot
  have T1 : ∀ g o w, IsG w g o G.new → Calls Try.prog 34 #[.pointer (some ⟨g, 0, none⟩), .int .i64 100] w fun e w' => e = .returned (.bool true) ∧ Kept [g, o] w w' ∧ IsG w' g o ⟨100, true, 1⟩ := by
    intro g o w h; have h' := trip_call g o _ 100 w h (by decide); rw [tr1] at h'; exact h'
  have T2 : ∀ g o w, IsG w g o ⟨100, true, 1⟩ → Calls Try.prog 34 #[.pointer (some ⟨g, 0, none⟩), .int .i64 131] w fun e w' => e = .returned (.bool false) ∧ Kept [g, o] w w' ∧ IsG w' g o ⟨100, true, 2⟩ := by
    intro g o w h; have h' := trip_call g o _ 131 w h (by decide); rw [tr2] at h'; exact h'
  have C1 : ∀ g o w, IsG w g o ⟨100, true, 2⟩ → Calls Try.prog 36 #[.pointer (some ⟨g, 0, none⟩)] w fun e w' => e = .returned (.int .i64 100) ∧ w = w' := fun g o w h => code_call g o _ w h
  have C2 : ∀ g o w, IsG w g o ⟨100, true, 2⟩ → Calls Try.prog 37 #[.pointer (some ⟨g, 0, none⟩)] w fun e w' => e = .returned (.int .i64 2) ∧ w = w' := fun g o w h => times_call g o _ w h
  replace T1 := Lib.hid T1
  replace T2 := Lib.hid T2
  replace C1 := Lib.hid C1
  replace C2 := Lib.hid C2
  go_enter Try.func30, Try.ntmps30
  go_wp2_with fail
  refine (new_call _).mono ?_
  rintro e w1 ⟨rfl, k1, h1, hs⟩
  go_wp2_with fail
  refine (T1.out _ _ _ h1).mono ?_
  rintro e w2 ⟨rfl, k2, h2⟩
  go_wp2_with fail
  refine (T2.out _ _ _ h2).mono ?_
  rintro e w3 ⟨rfl, k3, h3⟩
  go_wp2_with fail
  refine (C1.out _ _ _ h3).mono ?_
  rintro e w4 ⟨rfl, rfl⟩
  go_wp2_with fail
  refine (C2.out _ _ _ h3).mono ?_
  rintro e w4 ⟨rfl, rfl⟩
  go_wp2_with fail
  go_ret
  exact ⟨rfl, k1.fresh (k2.trans k3) (by intro i hi hl; simp at hi; omega)⟩
/-- A Lazy of a number. -/
def IsL (w : World) (b : Nat) (d m : Bool) (f : Value) (v : Value) : Prop := Has w b 114 [.int .u32 (b32 d), .int .i32 0, .int .u32 0, f, v, .int .u32 (b32 m)]
/-- A Lazy of a text. -/
def IsS (w : World) (b : Nat) (d m : Bool) (f : Value) (v : Value) : Prop := Has w b 116 [.int .u32 (b32 d), .int .i32 0, .int .u32 0, f, v, .int .u32 (b32 m)]
theorem made_call (b : Nat) (d m : Bool) (f v : Value) (w : World) (h : IsL w b d m f v) : Calls Try.prog 42 #[.pointer (some ⟨b, 0, none⟩)] w fun e w' => e = .returned (.bool m) ∧ w = w' := by
  have c5 := h.cell 5 (v := .int .u32 (b32 m)) rfl
  have hn := OnceC.hnot
  go_enter Try.func42, Try.ntmps42
  go_wp2_with (first | (go_at_call 54; refine (bool_load _ _ _ c5).mono ?_; rintro e w' ⟨rfl, rfl⟩))
  go_ret
  exact ⟨rfl, rfl⟩
theorem mades_call (b : Nat) (d m : Bool) (f v : Value) (w : World) (h : IsS w b d m f v) : Calls Try.prog 43 #[.pointer (some ⟨b, 0, none⟩)] w fun e w' => e = .returned (.bool m) ∧ w = w' := by
  have c5 := h.cell 5 (v := .int .u32 (b32 m)) rfl
  have hn := OnceC.hnot
  go_enter Try.func43, Try.ntmps43
  go_wp2_with (first | (go_at_call 54; refine (bool_load _ _ _ c5).mono ?_; rintro e w' ⟨rfl, rfl⟩))
  go_ret
  exact ⟨rfl, rfl⟩
theorem mades_nil (w : World) : Calls Try.prog 43 #[.pointer none] w fun e w' => e = .returned (.bool false) ∧ w = w' := by
  go_enter Try.func43, Try.ntmps43
  go_wp2
  go_ret
  exact ⟨rfl, rfl⟩
theorem gets_nil (w : World) : Calls Try.prog 45 #[.pointer none] w fun e w' => e = .returned (.string ⟨#[]⟩) ∧ Kept [] w w' := by
  go_enter Try.func45, Try.ntmps45
  go_wp2
  go_ret
  exact ⟨rfl, (Kept.refl _ _).alloc _⟩
set_option maxRecDepth 100000 in
theorem get_nof (b : Nat) (d m : Bool) (v : Value) (w : World) (h : IsL w b d m .nilFunc v) : Calls Try.prog 44 #[.pointer (some ⟨b, 0, none⟩)] w fun e w' => e = .returned (.int .i64 0) ∧ Kept [] w w' := by
  have c3 := h.cell 3 (v := .nilFunc) rfl
  have hl := h.lt
  have hnf : ∀ w : World, (binOp .eql 65 .nilFunc .nilFunc).run Try.prog w = .ok (.bool true) w := fun w => by kernel_rfl
  go_enter Try.func44, Try.ntmps44
  go_wp2_with fail
  go_ret
  exact ⟨rfl, (Kept.refl _ _).alloc _⟩
theorem makenil_call (w : World) : Calls Try.prog 38 #[.nilFunc] w fun e w' => e = .returned (.pointer (some ⟨w.heap.size, 0, none⟩)) ∧ Kept [] w w' ∧ IsL w' w.heap.size false false .nilFunc (.int .i64 0) := by
  go_enter Try.func38, Try.ntmps38
  go_wp2
  go_ret
  exact ⟨rfl, (Kept.refl _ _).alloc _, Has.new w _ _⟩
set_option maxRecDepth 100000 in
theorem GateNil_walk (c : Int) (w : World) (wc : (Lit.int .i64 c).wf = true) : Calls Try.prog 12 #[.int .i64 c] w fun e w' => e = .returned (.bool true) ∧ Below w.heap.size w w' := by
  have hn := OnceC.hnot
  go_enter Try.func12, Try.ntmps12
  go_wp2_with fail
  refine (awake_call _).mono ?_
  rintro e w1 ⟨rfl, k1⟩
  go_wp2_with fail
  refine (makenil_call _).mono ?_
  rintro e w2 ⟨rfl, k2, h2⟩
  go_wp2_with fail
  refine (trip_nil _ _).mono ?_
  rintro e w3 ⟨rfl, k3⟩
  have h3 := k3.has h2 (by simp)
  go_wp2_with (first | (go_at_call 36; refine (code_nil _).mono ?_; rintro e w' ⟨rfl, rfl⟩) | (go_at_call 37; refine (times_nil _).mono ?_; rintro e w' ⟨rfl, rfl⟩) | (go_at_call 32; refine (lift_nil _).mono ?_; rintro e w' ⟨rfl, rfl⟩))
  refine (gets_nil _).mono ?_
  rintro e w4 ⟨rfl, k4⟩
  have h4 := k4.has h3 (by simp)
  go_wp2_with (first | (go_at_call 43; refine (mades_nil _).mono ?_; rintro e w' ⟨rfl, rfl⟩))
  refine (get_nof _ _ _ _ _ h4).mono ?_
  rintro e w5 ⟨rfl, k5⟩
  have h5 := k5.has h4 (by simp)
  go_wp2_with fail
  refine (made_call _ _ _ _ _ _ h5).mono ?_
  rintro e w6 ⟨rfl, rfl⟩
  go_wp2_with fail
  go_ret
  exact ⟨rfl, ((((k1.trans k2).trans k3).trans k4).trans k5).toBelow (by simp)⟩
end Go.Proofs.Ytlafkeijikbenaa.Law06
