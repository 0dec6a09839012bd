-- Written by a program of this session (wip/pr.sh): the functions' plain forms and their walks.
import Derived.Test.YtcnlomknmhgpbacPYx0
import Derived.Test.YtcnlomknmhgpbacPYx1
namespace Go.Proofs.Ytcnlomknmhgpbac.PY
open Go.RowKit Go.Proofs.YtcnlomknmhgpbacW.PrintWords Go.Proofs.YtcnlomknmhgpbacW.PrintLast Go.Proofs.YtcnlomknmhgpbacW.PrintMore
attribute [local go_sem] max2_int min2_int max_two min_two max_three min_three max_four min_four   -- for this text's walks alone
set_option linter.unusedVariables false
set_option linter.unusedSimpArgs false

/-! ### parapetlaw01_Awake: function 12 -/
def parapetlaw01_Awake.f (k : Nat)  : Option (Bool) := (poly_DivMod.f k 27 5).bind fun bt116 => ((poly_MulMod.f k 2 128 283).bind fun bt119 => (if bt116.1 = 7 then (if bt116.2.1 = 0 then (if bt116.2.2 = 0 then (if bt119.1 = 27 then (if bt119.2 = 0 then ((poly_Degree.f k 128).bind fun t121 => (if t121 = 7 then ((poly_Mul.f k 7 5).bind fun t122 => (if t122 = 27 then ((poly_Gcd.f k 6 9).bind fun t123 => (some (t123 == 3))) else (some false))) else (some false))) else (some false)) else (some false)) else (some false)) else (some false)) else (some false)))
theorem parapetlaw01_Awake.mono : ∀ k, LeO (parapetlaw01_Awake.f k ) (parapetlaw01_Awake.f (k + 1) ) := by
  intro  k
  unfold parapetlaw01_Awake.f
  repeat' first
      | (with_reducible exact poly_Degree.mono _ _)
      | (with_reducible exact poly_DivMod.mono _ _ _)
      | (with_reducible exact poly_Gcd.mono _ _ _)
      | (with_reducible exact poly_Mul.mono _ _ _)
      | (with_reducible exact poly_MulMod.mono _ _ _ _)
      | (with_reducible exact LeO.refl _)
      | (with_reducible exact LeO.none _)
      | (with_reducible refine LeO.ite ?_ ?_)
      | (with_reducible refine LeO.bind ?_ (fun _ => ?_))
      | exact poly_Degree.mono _ _
      | exact poly_DivMod.mono _ _ _
      | exact poly_Gcd.mono _ _ _
      | exact poly_Mul.mono _ _ _
      | exact poly_MulMod.mono _ _ _ _
      | exact LeO.none _
      | refine LeO.ite ?_ ?_
      | refine LeO.bind ?_ (fun _ => ?_)
set_option maxHeartbeats 8000000 in
set_option maxRecDepth 100000 in
theorem parapetlaw01_Awake.calls (k : Nat)  (r : Bool) (w : World) (h : parapetlaw01_Awake.f k  = some r) :
    Calls Try.prog 12 #[] w fun e w' => e = .returned (.bool r) ∧ Drawn0 w w' := by
  have H : ((poly_DivMod.f k 27 5).bind fun bt116 => ((poly_MulMod.f k 2 128 283).bind fun bt119 => (if bt116.1 = 7 then (if bt116.2.1 = 0 then (if bt116.2.2 = 0 then (if bt119.1 = 27 then (if bt119.2 = 0 then ((poly_Degree.f k 128).bind fun t121 => (if t121 = 7 then ((poly_Mul.f k 7 5).bind fun t122 => (if t122 = 27 then ((poly_Gcd.f k 6 9).bind fun t123 => (some (t123 == 3))) else (some false))) else (some false))) else (some false)) else (some false)) else (some false)) else (some false)) else (some false)))) = some r := h
  clear h
  replace H := Option.bind_eq_some_iff.mp H
  obtain ⟨⟨t116, t117, t118⟩, A10, H⟩ := H
  replace H : ((poly_MulMod.f k 2 128 283).bind fun bt119 => (if t116 = 7 then (if t117 = 0 then (if t118 = 0 then (if bt119.1 = 27 then (if bt119.2 = 0 then ((poly_Degree.f k 128).bind fun t121 => (if t121 = 7 then ((poly_Mul.f k 7 5).bind fun t122 => (if t122 = 27 then ((poly_Gcd.f k 6 9).bind fun t123 => (some (t123 == 3))) else (some false))) else (some false))) else (some false)) else (some false)) else (some false)) else (some false)) else (some false))) = some r := H
  have A1 := Aside0.mk A10
  clear A10
  replace H := Option.bind_eq_some_iff.mp H
  obtain ⟨⟨t119, t120⟩, A20, H⟩ := H
  replace H : (if t116 = 7 then (if t117 = 0 then (if t118 = 0 then (if t119 = 27 then (if t120 = 0 then ((poly_Degree.f k 128).bind fun t121 => (if t121 = 7 then ((poly_Mul.f k 7 5).bind fun t122 => (if t122 = 27 then ((poly_Gcd.f k 6 9).bind fun t123 => (some (t123 == 3))) else (some false))) else (some false))) else (some false)) else (some false)) else (some false)) else (some false)) else (some false)) = some r := H
  have A2 := Aside0.mk A20
  clear A20
  by_cases c3 : t116 = 7
  · rw [if_pos c3] at H
    have c3b0 : (t116 == 7) = true := beq_iff_eq.mpr c3
    have c3b1 : (t116 != 7) = false := bne_eq_false_iff_eq.mpr c3
    clear c3
    by_cases c4 : t117 = 0
    · rw [if_pos c4] at H
      have c4b0 : (t117 == 0) = true := beq_iff_eq.mpr c4
      have c4b1 : (t117 != 0) = false := bne_eq_false_iff_eq.mpr c4
      clear c4
      by_cases c5 : t118 = 0
      · rw [if_pos c5] at H
        have c5b0 : (t118 == 0) = true := beq_iff_eq.mpr c5
        have c5b1 : (t118 != 0) = false := bne_eq_false_iff_eq.mpr c5
        clear c5
        by_cases c6 : t119 = 27
        · rw [if_pos c6] at H
          have c6b0 : (t119 == 27) = true := beq_iff_eq.mpr c6
          have c6b1 : (t119 != 27) = false := bne_eq_false_iff_eq.mpr c6
          clear c6
          by_cases c7 : t120 = 0
          · rw [if_pos c7] at H
            have c7b0 : (t120 == 0) = true := beq_iff_eq.mpr c7
            have c7b1 : (t120 != 0) = false := bne_eq_false_iff_eq.mpr c7
            clear c7
            replace H := Option.bind_eq_some_iff.mp H
            obtain ⟨t121, A80, H⟩ := H
            replace H : (if t121 = 7 then ((poly_Mul.f k 7 5).bind fun t122 => (if t122 = 27 then ((poly_Gcd.f k 6 9).bind fun t123 => (some (t123 == 3))) else (some false))) else (some false)) = some r := H
            have A8 := Aside0.mk A80
            clear A80
            by_cases c9 : t121 = 7
            · rw [if_pos c9] at H
              have c9b0 : (t121 == 7) = true := beq_iff_eq.mpr c9
              have c9b1 : (t121 != 7) = false := bne_eq_false_iff_eq.mpr c9
              clear c9
              replace H := Option.bind_eq_some_iff.mp H
              obtain ⟨t122, A100, H⟩ := H
              replace H : (if t122 = 27 then ((poly_Gcd.f k 6 9).bind fun t123 => (some (t123 == 3))) else (some false)) = some r := H
              have A10 := Aside0.mk A100
              clear A100
              by_cases c11 : t122 = 27
              · rw [if_pos c11] at H
                have c11b0 : (t122 == 27) = true := beq_iff_eq.mpr c11
                have c11b1 : (t122 != 27) = false := bne_eq_false_iff_eq.mpr c11
                clear c11
                replace H := Option.bind_eq_some_iff.mp H
                obtain ⟨t123, A120, H⟩ := H
                replace H : (some (t123 == 3)) = some r := H
                have A12 := Aside0.mk A120
                clear A120
                obtain rfl := Option.some.inj H
                go_enter Try.func12, Try.ntmps12
                go_wp2_with (first | ((with_reducible refine gate_callee (f := 13) rfl ?_); refine goesL_ (some 7) rfl rfl Try.func13 (by kernel_rfl) rfl #[.int .u64 27, .int .u64 5] rfl (by (try simp only [List.map_toArray, List.map_cons, List.map_nil]); first | done | rfl | (simp only [List.length_drop, List.length_take]; rfl)) ?_; (with_reducible refine (poly_DivMod.calls k 27 5 t116 t117 t118 _ A1.out).mono ?_); rintro e w' ⟨rfl, ⟨nd, rfl⟩⟩; refine ⟨_, rfl, ?_⟩) | ((with_reducible refine gate_callee (f := 19) rfl ?_); refine goesL_ (some 12) rfl rfl Try.func19 (by kernel_rfl) rfl #[.int .u64 2, .int .u64 128, .int .u64 283] rfl (by (try simp only [List.map_toArray, List.map_cons, List.map_nil]); first | done | rfl | (simp only [List.length_drop, List.length_take]; rfl)) ?_; (with_reducible refine (poly_MulMod.calls k 2 128 283 t119 t120 _ A2.out).mono ?_); rintro e w' ⟨rfl, ⟨nd, rfl⟩⟩; refine ⟨_, rfl, ?_⟩) | (go_at_call 16; (with_reducible refine (poly_Degree.calls k 128 t121 _ A8.out).mono ?_); rintro e w' ⟨rfl, ⟨nd, rfl⟩⟩) | (go_at_call 28; (with_reducible refine (poly_Mul.calls k 7 5 t122 _ A10.out).mono ?_); rintro e w' ⟨rfl, ⟨nd, rfl⟩⟩) | (go_at_call 17; (with_reducible refine (poly_Gcd.calls k 6 9 t123 _ A12.out).mono ?_); rintro e w' ⟨rfl, ⟨nd, rfl⟩⟩))
                go_ret
                exact ⟨by first | rfl | (simp; done) | (simp [*]; done), by repeat (first | exact Drawn0.refl _ | apply Drawn0.step)⟩
              · rw [if_neg c11] at H
                have c11b0 : (t122 == 27) = false := beq_eq_false_iff_ne.mpr c11
                have c11b1 : (t122 != 27) = true := bne_iff_ne.mpr c11
                obtain rfl := Option.some.inj H
                go_enter Try.func12, Try.ntmps12
                go_wp2_with (first | ((with_reducible refine gate_callee (f := 13) rfl ?_); refine goesL_ (some 7) rfl rfl Try.func13 (by kernel_rfl) rfl #[.int .u64 27, .int .u64 5] rfl (by (try simp only [List.map_toArray, List.map_cons, List.map_nil]); first | done | rfl | (simp only [List.length_drop, List.length_take]; rfl)) ?_; (with_reducible refine (poly_DivMod.calls k 27 5 t116 t117 t118 _ A1.out).mono ?_); rintro e w' ⟨rfl, ⟨nd, rfl⟩⟩; refine ⟨_, rfl, ?_⟩) | ((with_reducible refine gate_callee (f := 19) rfl ?_); refine goesL_ (some 12) rfl rfl Try.func19 (by kernel_rfl) rfl #[.int .u64 2, .int .u64 128, .int .u64 283] rfl (by (try simp only [List.map_toArray, List.map_cons, List.map_nil]); first | done | rfl | (simp only [List.length_drop, List.length_take]; rfl)) ?_; (with_reducible refine (poly_MulMod.calls k 2 128 283 t119 t120 _ A2.out).mono ?_); rintro e w' ⟨rfl, ⟨nd, rfl⟩⟩; refine ⟨_, rfl, ?_⟩) | (go_at_call 16; (with_reducible refine (poly_Degree.calls k 128 t121 _ A8.out).mono ?_); rintro e w' ⟨rfl, ⟨nd, rfl⟩⟩) | (go_at_call 28; (with_reducible refine (poly_Mul.calls k 7 5 t122 _ A10.out).mono ?_); rintro e w' ⟨rfl, ⟨nd, rfl⟩⟩))
                go_ret
                exact ⟨by first | rfl | (simp; done) | (simp [*]; done), by repeat (first | exact Drawn0.refl _ | apply Drawn0.step)⟩
            · rw [if_neg c9] at H
              have c9b0 : (t121 == 7) = false := beq_eq_false_iff_ne.mpr c9
              have c9b1 : (t121 != 7) = true := bne_iff_ne.mpr c9
              obtain rfl := Option.some.inj H
              go_enter Try.func12, Try.ntmps12
              go_wp2_with (first | ((with_reducible refine gate_callee (f := 13) rfl ?_); refine goesL_ (some 7) rfl rfl Try.func13 (by kernel_rfl) rfl #[.int .u64 27, .int .u64 5] rfl (by (try simp only [List.map_toArray, List.map_cons, List.map_nil]); first | done | rfl | (simp only [List.length_drop, List.length_take]; rfl)) ?_; (with_reducible refine (poly_DivMod.calls k 27 5 t116 t117 t118 _ A1.out).mono ?_); rintro e w' ⟨rfl, ⟨nd, rfl⟩⟩; refine ⟨_, rfl, ?_⟩) | ((with_reducible refine gate_callee (f := 19) rfl ?_); refine goesL_ (some 12) rfl rfl Try.func19 (by kernel_rfl) rfl #[.int .u64 2, .int .u64 128, .int .u64 283] rfl (by (try simp only [List.map_toArray, List.map_cons, List.map_nil]); first | done | rfl | (simp only [List.length_drop, List.length_take]; rfl)) ?_; (with_reducible refine (poly_MulMod.calls k 2 128 283 t119 t120 _ A2.out).mono ?_); rintro e w' ⟨rfl, ⟨nd, rfl⟩⟩; refine ⟨_, rfl, ?_⟩) | (go_at_call 16; (with_reducible refine (poly_Degree.calls k 128 t121 _ A8.out).mono ?_); rintro e w' ⟨rfl, ⟨nd, rfl⟩⟩))
              go_ret
              exact ⟨by first | rfl | (simp; done) | (simp [*]; done), by repeat (first | exact Drawn0.refl _ | apply Drawn0.step)⟩
          · rw [if_neg c7] at H
            have c7b0 : (t120 == 0) = false := beq_eq_false_iff_ne.mpr c7
            have c7b1 : (t120 != 0) = true := bne_iff_ne.mpr c7
            obtain rfl := Option.some.inj H
            go_enter Try.func12, Try.ntmps12
            go_wp2_with (first | ((with_reducible refine gate_callee (f := 13) rfl ?_); refine goesL_ (some 7) rfl rfl Try.func13 (by kernel_rfl) rfl #[.int .u64 27, .int .u64 5] rfl (by (try simp only [List.map_toArray, List.map_cons, List.map_nil]); first | done | rfl | (simp only [List.length_drop, List.length_take]; rfl)) ?_; (with_reducible refine (poly_DivMod.calls k 27 5 t116 t117 t118 _ A1.out).mono ?_); rintro e w' ⟨rfl, ⟨nd, rfl⟩⟩; refine ⟨_, rfl, ?_⟩) | ((with_reducible refine gate_callee (f := 19) rfl ?_); refine goesL_ (some 12) rfl rfl Try.func19 (by kernel_rfl) rfl #[.int .u64 2, .int .u64 128, .int .u64 283] rfl (by (try simp only [List.map_toArray, List.map_cons, List.map_nil]); first | done | rfl | (simp only [List.length_drop, List.length_take]; rfl)) ?_; (with_reducible refine (poly_MulMod.calls k 2 128 283 t119 t120 _ A2.out).mono ?_); rintro e w' ⟨rfl, ⟨nd, rfl⟩⟩; refine ⟨_, rfl, ?_⟩))
            go_ret
            exact ⟨by first | rfl | (simp; done) | (simp [*]; done), by repeat (first | exact Drawn0.refl _ | apply Drawn0.step)⟩
        · rw [if_neg c6] at H
          have c6b0 : (t119 == 27) = false := beq_eq_false_iff_ne.mpr c6
          have c6b1 : (t119 != 27) = true := bne_iff_ne.mpr c6
          obtain rfl := Option.some.inj H
          go_enter Try.func12, Try.ntmps12
          go_wp2_with (first | ((with_reducible refine gate_callee (f := 13) rfl ?_); refine goesL_ (some 7) rfl rfl Try.func13 (by kernel_rfl) rfl #[.int .u64 27, .int .u64 5] rfl (by (try simp only [List.map_toArray, List.map_cons, List.map_nil]); first | done | rfl | (simp only [List.length_drop, List.length_take]; rfl)) ?_; (with_reducible refine (poly_DivMod.calls k 27 5 t116 t117 t118 _ A1.out).mono ?_); rintro e w' ⟨rfl, ⟨nd, rfl⟩⟩; refine ⟨_, rfl, ?_⟩) | ((with_reducible refine gate_callee (f := 19) rfl ?_); refine goesL_ (some 12) rfl rfl Try.func19 (by kernel_rfl) rfl #[.int .u64 2, .int .u64 128, .int .u64 283] rfl (by (try simp only [List.map_toArray, List.map_cons, List.map_nil]); first | done | rfl | (simp only [List.length_drop, List.length_take]; rfl)) ?_; (with_reducible refine (poly_MulMod.calls k 2 128 283 t119 t120 _ A2.out).mono ?_); rintro e w' ⟨rfl, ⟨nd, rfl⟩⟩; refine ⟨_, rfl, ?_⟩))
          go_ret
          exact ⟨by first | rfl | (simp; done) | (simp [*]; done), by repeat (first | exact Drawn0.refl _ | apply Drawn0.step)⟩
      · rw [if_neg c5] at H
        have c5b0 : (t118 == 0) = false := beq_eq_false_iff_ne.mpr c5
        have c5b1 : (t118 != 0) = true := bne_iff_ne.mpr c5
        obtain rfl := Option.some.inj H
        go_enter Try.func12, Try.ntmps12
        go_wp2_with (first | ((with_reducible refine gate_callee (f := 13) rfl ?_); refine goesL_ (some 7) rfl rfl Try.func13 (by kernel_rfl) rfl #[.int .u64 27, .int .u64 5] rfl (by (try simp only [List.map_toArray, List.map_cons, List.map_nil]); first | done | rfl | (simp only [List.length_drop, List.length_take]; rfl)) ?_; (with_reducible refine (poly_DivMod.calls k 27 5 t116 t117 t118 _ A1.out).mono ?_); rintro e w' ⟨rfl, ⟨nd, rfl⟩⟩; refine ⟨_, rfl, ?_⟩) | ((with_reducible refine gate_callee (f := 19) rfl ?_); refine goesL_ (some 12) rfl rfl Try.func19 (by kernel_rfl) rfl #[.int .u64 2, .int .u64 128, .int .u64 283] rfl (by (try simp only [List.map_toArray, List.map_cons, List.map_nil]); first | done | rfl | (simp only [List.length_drop, List.length_take]; rfl)) ?_; (with_reducible refine (poly_MulMod.calls k 2 128 283 t119 t120 _ A2.out).mono ?_); rintro e w' ⟨rfl, ⟨nd, rfl⟩⟩; refine ⟨_, rfl, ?_⟩))
        go_ret
        exact ⟨by first | rfl | (simp; done) | (simp [*]; done), by repeat (first | exact Drawn0.refl _ | apply Drawn0.step)⟩
    · rw [if_neg c4] at H
      have c4b0 : (t117 == 0) = false := beq_eq_false_iff_ne.mpr c4
      have c4b1 : (t117 != 0) = true := bne_iff_ne.mpr c4
      obtain rfl := Option.some.inj H
      go_enter Try.func12, Try.ntmps12
      go_wp2_with (first | ((with_reducible refine gate_callee (f := 13) rfl ?_); refine goesL_ (some 7) rfl rfl Try.func13 (by kernel_rfl) rfl #[.int .u64 27, .int .u64 5] rfl (by (try simp only [List.map_toArray, List.map_cons, List.map_nil]); first | done | rfl | (simp only [List.length_drop, List.length_take]; rfl)) ?_; (with_reducible refine (poly_DivMod.calls k 27 5 t116 t117 t118 _ A1.out).mono ?_); rintro e w' ⟨rfl, ⟨nd, rfl⟩⟩; refine ⟨_, rfl, ?_⟩) | ((with_reducible refine gate_callee (f := 19) rfl ?_); refine goesL_ (some 12) rfl rfl Try.func19 (by kernel_rfl) rfl #[.int .u64 2, .int .u64 128, .int .u64 283] rfl (by (try simp only [List.map_toArray, List.map_cons, List.map_nil]); first | done | rfl | (simp only [List.length_drop, List.length_take]; rfl)) ?_; (with_reducible refine (poly_MulMod.calls k 2 128 283 t119 t120 _ A2.out).mono ?_); rintro e w' ⟨rfl, ⟨nd, rfl⟩⟩; refine ⟨_, rfl, ?_⟩))
      go_ret
      exact ⟨by first | rfl | (simp; done) | (simp [*]; done), by repeat (first | exact Drawn0.refl _ | apply Drawn0.step)⟩
  · rw [if_neg c3] at H
    have c3b0 : (t116 == 7) = false := beq_eq_false_iff_ne.mpr c3
    have c3b1 : (t116 != 7) = true := bne_iff_ne.mpr c3
    obtain rfl := Option.some.inj H
    go_enter Try.func12, Try.ntmps12
    go_wp2_with (first | ((with_reducible refine gate_callee (f := 13) rfl ?_); refine goesL_ (some 7) rfl rfl Try.func13 (by kernel_rfl) rfl #[.int .u64 27, .int .u64 5] rfl (by (try simp only [List.map_toArray, List.map_cons, List.map_nil]); first | done | rfl | (simp only [List.length_drop, List.length_take]; rfl)) ?_; (with_reducible refine (poly_DivMod.calls k 27 5 t116 t117 t118 _ A1.out).mono ?_); rintro e w' ⟨rfl, ⟨nd, rfl⟩⟩; refine ⟨_, rfl, ?_⟩) | ((with_reducible refine gate_callee (f := 19) rfl ?_); refine goesL_ (some 12) rfl rfl Try.func19 (by kernel_rfl) rfl #[.int .u64 2, .int .u64 128, .int .u64 283] rfl (by (try simp only [List.map_toArray, List.map_cons, List.map_nil]); first | done | rfl | (simp only [List.length_drop, List.length_take]; rfl)) ?_; (with_reducible refine (poly_MulMod.calls k 2 128 283 t119 t120 _ A2.out).mono ?_); rintro e w' ⟨rfl, ⟨nd, rfl⟩⟩; refine ⟨_, rfl, ?_⟩))
    go_ret
    exact ⟨by first | rfl | (simp; done) | (simp [*]; done), by repeat (first | exact Drawn0.refl _ | apply Drawn0.step)⟩

/-! ### poly_PowMod: function 21 -/
def poly_PowMod.l0 : Nat → Int → Int → Int → Int → Option (Int × Int)
  | 0, _, _, _, _ => none
  | k + 1, x0, x1, x7, x9 => if x9 ≥ 0 then ((poly_MulMod.f k x7 x7 x1).bind fun bt128 => (if 0 ≤ x9 then (if (Go.bits .and .u64 (shr .u64 x0 x9) 1) = 0 then (poly_PowMod.l0 k x0 x1 bt128.1 (wrap64 (x9 - 1))) else ((poly_MulMod.f k bt128.1 2 x1).bind fun bt130 => (poly_PowMod.l0 k x0 x1 bt130.1 (wrap64 (x9 - 1))))) else (none))) else (some (x7, 0))
def poly_PowMod.f (k : Nat) (a0 : Int) (a1 : Int) : Option (Int × Int) := if a1 = 0 then (some (0, 10)) else ((poly_DivMod.f k 1 a1).bind fun bt124 => ((bits_Len64.f k a0).bind fun t127 => (poly_PowMod.l0 k a0 a1 bt124.2.1 (wrap64 (t127 - 1)))))
theorem poly_PowMod.mono_l : ∀ k, (∀ y0 y1 y2 y3, LeO (poly_PowMod.l0 k y0 y1 y2 y3) (poly_PowMod.l0 (k + 1) y0 y1 y2 y3))
  | 0 => fun _ _ _ _ r h => by simp [poly_PowMod.l0] at h
  | k + 1 => by
    have ih0 := poly_PowMod.mono_l k
    · intro y0 y1 y2 y3
      unfold poly_PowMod.l0
      repeat' first
      | (with_reducible exact ih0 _ _ _ _)
      | (with_reducible exact bits_Len64.mono _ _)
      | (with_reducible exact poly_DivMod.mono _ _ _)
      | (with_reducible exact poly_MulMod.mono _ _ _ _)
      | (with_reducible exact LeO.refl _)
      | (with_reducible exact LeO.none _)
      | (with_reducible refine LeO.ite ?_ ?_)
      | (with_reducible refine LeO.bind ?_ (fun _ => ?_))
      | exact ih0 _ _ _ _
      | exact bits_Len64.mono _ _
      | exact poly_DivMod.mono _ _ _
      | exact poly_MulMod.mono _ _ _ _
      | exact LeO.none _
      | refine LeO.ite ?_ ?_
      | refine LeO.bind ?_ (fun _ => ?_)
theorem poly_PowMod.mono : ∀ a0 a1 k, LeO (poly_PowMod.f k a0 a1) (poly_PowMod.f (k + 1) a0 a1) := by
  intro a0 a1 k
  have ih0 := poly_PowMod.mono_l k
  unfold poly_PowMod.f
  repeat' first
      | (with_reducible exact ih0 _ _ _ _)
      | (with_reducible exact bits_Len64.mono _ _)
      | (with_reducible exact poly_DivMod.mono _ _ _)
      | (with_reducible exact poly_MulMod.mono _ _ _ _)
      | (with_reducible exact LeO.refl _)
      | (with_reducible exact LeO.none _)
      | (with_reducible refine LeO.ite ?_ ?_)
      | (with_reducible refine LeO.bind ?_ (fun _ => ?_))
      | exact ih0 _ _ _ _
      | exact bits_Len64.mono _ _
      | exact poly_DivMod.mono _ _ _
      | exact poly_MulMod.mono _ _ _ _
      | exact LeO.none _
      | refine LeO.ite ?_ ?_
      | refine LeO.bind ?_ (fun _ => ?_)
set_option maxHeartbeats 8000000 in
set_option maxRecDepth 100000 in
theorem poly_PowMod.calls (k : Nat) (a0 : Int) (a1 : Int) (r1 : Int) (r2 : Int) (w : World) (h : poly_PowMod.f k a0 a1 = some (r1, r2)) :
    Calls Try.prog 21 #[.int .u64 a0, .int .u64 a1] w fun e w' => e = .returned (.tuple #[.int .u64 r1, .int .i64 r2]) ∧ Drawn0 w w' := by
  have H : (if a1 = 0 then (some (0, 10)) else ((poly_DivMod.f k 1 a1).bind fun bt124 => ((bits_Len64.f k a0).bind fun t127 => (poly_PowMod.l0 k a0 a1 bt124.2.1 (wrap64 (t127 - 1)))))) = some (r1, r2) := h
  clear h
  by_cases c3 : a1 = 0
  · rw [if_pos c3] at H
    have c3b0 : (a1 == 0) = true := beq_iff_eq.mpr c3
    have c3b1 : (a1 != 0) = false := bne_eq_false_iff_eq.mpr c3
    clear c3
    simp only [Option.some.injEq, Prod.mk.injEq] at H
    obtain ⟨rfl, rfl⟩ := H
    go_enter Try.func21, Try.ntmps21
    go_wp2
    go_ret2
    exact ⟨by first | rfl | (simp; done) | (simp [*]; done), by repeat (first | exact Drawn0.refl _ | apply Drawn0.step)⟩
  · rw [if_neg c3] at H
    have c3b0 : (a1 == 0) = false := beq_eq_false_iff_ne.mpr c3
    have c3b1 : (a1 != 0) = true := bne_iff_ne.mpr c3
    replace H := Option.bind_eq_some_iff.mp H
    obtain ⟨⟨t124, t125, t126⟩, A40, H⟩ := H
    replace H : ((bits_Len64.f k a0).bind fun t127 => (poly_PowMod.l0 k a0 a1 t125 (wrap64 (t127 - 1)))) = some (r1, r2) := H
    have A4 := Aside0.mk A40
    clear A40
    replace H := Option.bind_eq_some_iff.mp H
    obtain ⟨t127, A50, H⟩ := H
    replace H : (poly_PowMod.l0 k a0 a1 t125 (wrap64 (t127 - 1))) = some (r1, r2) := H
    have A5 := Aside0.mk A50
    clear A50
    have H' := Aside0.mk H
    clear H
    go_enter Try.func21, Try.ntmps21
    go_wp2_with (first | ((with_reducible refine gate_callee (f := 13) rfl ?_); refine goesL_ (some 14) rfl rfl Try.func13 (by kernel_rfl) rfl #[.int .u64 1, .int .u64 a1] rfl (by (try simp only [List.map_toArray, List.map_cons, List.map_nil]); first | done | rfl | (simp only [List.length_drop, List.length_take]; rfl)) ?_; (with_reducible refine (poly_DivMod.calls k 1 a1 t124 t125 t126 _ A4.out).mono ?_); rintro e w' ⟨rfl, ⟨nd, rfl⟩⟩; refine ⟨_, rfl, ?_⟩) | ((with_reducible refine gate_callee (f := 30) rfl ?_); refine goesL_ (some 19) rfl rfl Try.func30 (by kernel_rfl) rfl #[.int .u64 a0] rfl (by (try simp only [List.map_toArray, List.map_cons, List.map_nil]); first | done | rfl | (simp only [List.length_drop, List.length_take]; rfl)) ?_; (with_reducible refine (bits_Len64.calls k a0 t127 _ A5.out).mono ?_); rintro e w' ⟨rfl, ⟨nd, rfl⟩⟩; refine ⟨_, rfl, ?_⟩))
    go_loopg [7, 9] k (fun kq v7 v9 w' => ∃ (x7_1 : Int) (x9_1 : Int), v7 = .int .u64 x7_1 ∧ v9 = .int .i64 x9_1 ∧ Aside0 (poly_PowMod.l0 kq a0 a1 x7_1 x9_1 = some (r1, r2)) ∧ Aside0 (kq ≤ k) ∧ Drawn0 w w')
    case atStart => exact ⟨(t125), (wrap64 (t127 - 1)), (by first | rfl | (simp; done) | (simp [*]; done)), (by first | rfl | (simp; done) | (simp [*]; done)), H', ⟨Nat.le_refl _⟩, by repeat (first | exact Drawn0.refl _ | apply Drawn0.step)⟩
    case round =>
      clear H'
      try clear c1
      try clear c2
      try clear p2
      try clear c3
      try clear c3b0
      try clear c3b1
      obtain ⟨x7_1, x9_1, rfl, rfl, HA, HK1, ⟨m1, rfl⟩⟩ := hrel
      cases gk with
      | zero => exact absurd HA.out (by simp [poly_PowMod.l0])
      | succ k1 =>
        have H := HA.out
        clear HA
        simp only [poly_PowMod.l0] at H
        by_cases c6 : x9_1 ≥ 0
        · rw [if_pos c6] at H
          have c6b0 : decide (0 ≤ x9_1) = true := decide_eq_true c6
          clear c6
          replace H := Option.bind_eq_some_iff.mp H
          obtain ⟨⟨t128, t129⟩, A70, H⟩ := H
          replace H : (if 0 ≤ x9_1 then (if (Go.bits .and .u64 (shr .u64 a0 x9_1) 1) = 0 then (poly_PowMod.l0 k1 a0 a1 t128 (wrap64 (x9_1 - 1))) else ((poly_MulMod.f k1 t128 2 a1).bind fun bt130 => (poly_PowMod.l0 k1 a0 a1 bt130.1 (wrap64 (x9_1 - 1))))) else (none)) = some (r1, r2) := H
          have A7 := Aside0.mk A70
          clear A70
          by_cases c8 : 0 ≤ x9_1
          · rw [if_pos c8] at H
            have c8b0 := eq_true c8
            have c8b1 : decide (0 ≤ x9_1) = true := decide_eq_true c8
            clear c8
            obtain ⟨ji9, hji9⟩ : ∃ j_ : Int, (shr .u64 a0 x9_1) = j_ := ⟨_, rfl⟩
            replace H : (if (Go.bits .and .u64 (ji9) 1) = 0 then (poly_PowMod.l0 k1 a0 a1 t128 (wrap64 (x9_1 - 1))) else ((poly_MulMod.f k1 t128 2 a1).bind fun bt130 => (poly_PowMod.l0 k1 a0 a1 bt130.1 (wrap64 (x9_1 - 1))))) = some (r1, r2) := by first | (rw [hji9] at H; exact H) | (simp only [hji9] at H ⊢; exact H)
            (try rw [hji9] at A7)
            have hji9_ : (a0 / 2 ^ min x9_1.toNat 64) = ji9 := hji9
            have hji9z : x9_1 ≤ 64 → (a0 / 2 ^ x9_1.toNat) = ji9 := shr_small hji9
            by_cases c10 : (Go.bits .and .u64 (ji9) 1) = 0
            · rw [if_pos c10] at H
              have c10b0 : ((Go.bits .and .u64 (ji9) 1) == 0) = true := beq_iff_eq.mpr c10
              have c10b1 : ((Go.bits .and .u64 (ji9) 1) != 0) = false := bne_eq_false_iff_eq.mpr c10
              clear c10
              have H' := Aside0.mk H
              clear H
              go_wp2_with (first | ((with_reducible refine gate_callee (f := 19) rfl ?_); refine goesL_ (some 29) rfl rfl Try.func19 (by kernel_rfl) rfl #[.int .u64 x7_1, .int .u64 x7_1, .int .u64 a1] rfl (by (try simp only [List.map_toArray, List.map_cons, List.map_nil]); first | done | rfl | (simp only [List.length_drop, List.length_take]; rfl)) ?_; (with_reducible refine (poly_MulMod.calls k1 x7_1 x7_1 a1 t128 t129 _ A7.out).mono ?_); rintro e w' ⟨rfl, ⟨nd, rfl⟩⟩; refine ⟨_, rfl, ?_⟩))
              go_roundg k1
              case measure => have := HK1.out; omega
              case rel => exact ⟨(t128), (wrap64 (x9_1 - 1)), (by first | rfl | (simp; done) | (simp [*]; done)), (by first | rfl | (simp; done) | (simp [*]; done)), H', ⟨by have := HK1.out; omega⟩, by repeat (first | exact Drawn0.refl _ | apply Drawn0.step)⟩
            · rw [if_neg c10] at H
              have c10b0 : ((Go.bits .and .u64 (ji9) 1) == 0) = false := beq_eq_false_iff_ne.mpr c10
              have c10b1 : ((Go.bits .and .u64 (ji9) 1) != 0) = true := bne_iff_ne.mpr c10
              replace H := Option.bind_eq_some_iff.mp H
              obtain ⟨⟨t130, t131⟩, A110, H⟩ := H
              replace H : (poly_PowMod.l0 k1 a0 a1 t130 (wrap64 (x9_1 - 1))) = some (r1, r2) := H
              have A11 := Aside0.mk A110
              clear A110
              have H' := Aside0.mk H
              clear H
              go_wp2_with (first | ((with_reducible refine gate_callee (f := 19) rfl ?_); refine goesL_ (some 29) rfl rfl Try.func19 (by kernel_rfl) rfl #[.int .u64 x7_1, .int .u64 x7_1, .int .u64 a1] rfl (by (try simp only [List.map_toArray, List.map_cons, List.map_nil]); first | done | rfl | (simp only [List.length_drop, List.length_take]; rfl)) ?_; (with_reducible refine (poly_MulMod.calls k1 x7_1 x7_1 a1 t128 t129 _ A7.out).mono ?_); rintro e w' ⟨rfl, ⟨nd, rfl⟩⟩; refine ⟨_, rfl, ?_⟩) | ((with_reducible refine gate_callee (f := 19) rfl ?_); refine goesL_ (some 40) rfl rfl Try.func19 (by kernel_rfl) rfl #[.int .u64 t128, .int .u64 2, .int .u64 a1] rfl (by (try simp only [List.map_toArray, List.map_cons, List.map_nil]); first | done | rfl | (simp only [List.length_drop, List.length_take]; rfl)) ?_; (with_reducible refine (poly_MulMod.calls k1 t128 2 a1 t130 t131 _ A11.out).mono ?_); rintro e w' ⟨rfl, ⟨nd, rfl⟩⟩; refine ⟨_, rfl, ?_⟩))
              go_roundg k1
              case measure => have := HK1.out; omega
              case rel => exact ⟨(t130), (wrap64 (x9_1 - 1)), (by first | rfl | (simp; done) | (simp [*]; done)), (by first | rfl | (simp; done) | (simp [*]; done)), H', ⟨by have := HK1.out; omega⟩, by repeat (first | exact Drawn0.refl _ | apply Drawn0.step)⟩
          · rw [if_neg c8] at H
            exact absurd H (by simp)
        · rw [if_neg c6] at H
          have c6b0 : decide (0 ≤ x9_1) = false := decide_eq_false c6
          clear c6
          simp only [Option.some.injEq, Prod.mk.injEq] at H
          obtain ⟨rfl, rfl⟩ := H
          go_wp2
          go_ret2
          exact ⟨by first | rfl | (simp; done) | (simp [*]; done), by repeat (first | exact Drawn0.refl _ | apply Drawn0.step)⟩

/-! ### poly_Of: function 23 -/
mutual
def poly_Of.l0 : Nat → Int → Int → Int → List Int → Int → Int → Option (Int × Int)
  | 0, _, _, _, _, _, _ => none
  | k + 1, x1, x6, x7, x17, x18, x19 => if x19 < x18 then (if 0 ≤ x19 then (if x19 < (x17.length : Int) then (poly_Of.l1 k x1 x6 x7 (rd x17 x19) 7 x17 x18 x19) else (none)) else (none)) else (some (x7, 0))
def poly_Of.l1 : Nat → Int → Int → Int → Int → Int → List Int → Int → Int → Option (Int × Int)
  | 0, _, _, _, _, _, _, _, _ => none
  | k + 1, x1, x6, x7, x9, x10, x17, x18, x19 => if x10 ≥ 0 then (if 0 ≤ x10 then ((poly_reduce.f (Go.bits .xor .u64 (IntKind.u64.wrap (x7 * 2)) (IntKind.u64.wrap (Go.bits .and .u8 (shr .u8 x9 x10) 1))) x1 x6).bind fun t134 => (poly_Of.l1 k x1 x6 t134 x9 (wrap64 (x10 - 1)) x17 x18 x19)) else (none)) else (poly_Of.l0 k x1 x6 x7 x17 x18 (wrap64 (x19 + 1)))
end
def poly_Of.f (k : Nat) (l0 : List Int) (a1 : Int) : Option (Int × Int) := if a1 = 0 then (some (0, 10)) else (if a1 = 1 then (some (0, 0)) else ((poly_Degree.f k a1).bind fun t132 => (poly_Of.l0 k a1 t132 0 l0 (l0.length : Int) 0)))
theorem poly_Of.mono_l : ∀ k, (∀ y0 y1 y2 y3 y4 y5, LeO (poly_Of.l0 k y0 y1 y2 y3 y4 y5) (poly_Of.l0 (k + 1) y0 y1 y2 y3 y4 y5)) ∧ (∀ y0 y1 y2 y3 y4 y5 y6 y7, LeO (poly_Of.l1 k y0 y1 y2 y3 y4 y5 y6 y7) (poly_Of.l1 (k + 1) y0 y1 y2 y3 y4 y5 y6 y7))
  | 0 => ⟨fun _ _ _ _ _ _ r h => by simp [poly_Of.l0] at h, fun _ _ _ _ _ _ _ _ r h => by simp [poly_Of.l1] at h⟩
  | k + 1 => by
    obtain ⟨ih0, ih1⟩ := poly_Of.mono_l k
    refine ⟨?_, ?_⟩
    · intro y0 y1 y2 y3 y4 y5
      unfold poly_Of.l0
      repeat' first
      | (with_reducible exact ih0 _ _ _ _ _ _)
      | (with_reducible exact ih1 _ _ _ _ _ _ _ _)
      | (with_reducible exact poly_Degree.mono _ _)
      | (with_reducible exact LeO.refl _)
      | (with_reducible exact LeO.none _)
      | (with_reducible refine LeO.ite ?_ ?_)
      | (with_reducible refine LeO.bind ?_ (fun _ => ?_))
      | exact ih0 _ _ _ _ _ _
      | exact ih1 _ _ _ _ _ _ _ _
      | exact poly_Degree.mono _ _
      | exact LeO.none _
      | refine LeO.ite ?_ ?_
      | refine LeO.bind ?_ (fun _ => ?_)
    · intro y0 y1 y2 y3 y4 y5 y6 y7
      unfold poly_Of.l1
      repeat' first
      | (with_reducible exact ih0 _ _ _ _ _ _)
      | (with_reducible exact ih1 _ _ _ _ _ _ _ _)
      | (with_reducible exact poly_Degree.mono _ _)
      | (with_reducible exact LeO.refl _)
      | (with_reducible exact LeO.none _)
      | (with_reducible refine LeO.ite ?_ ?_)
      | (with_reducible refine LeO.bind ?_ (fun _ => ?_))
      | exact ih0 _ _ _ _ _ _
      | exact ih1 _ _ _ _ _ _ _ _
      | exact poly_Degree.mono _ _
      | exact LeO.none _
      | refine LeO.ite ?_ ?_
      | refine LeO.bind ?_ (fun _ => ?_)
theorem poly_Of.mono : ∀ a0 a1 k, LeO (poly_Of.f k a0 a1) (poly_Of.f (k + 1) a0 a1) := by
  intro a0 a1 k
  obtain ⟨ih0, ih1⟩ := poly_Of.mono_l k
  unfold poly_Of.f
  repeat' first
      | (with_reducible exact ih0 _ _ _ _ _ _)
      | (with_reducible exact ih1 _ _ _ _ _ _ _ _)
      | (with_reducible exact poly_Degree.mono _ _)
      | (with_reducible exact LeO.refl _)
      | (with_reducible exact LeO.none _)
      | (with_reducible refine LeO.ite ?_ ?_)
      | (with_reducible refine LeO.bind ?_ (fun _ => ?_))
      | exact ih0 _ _ _ _ _ _
      | exact ih1 _ _ _ _ _ _ _ _
      | exact poly_Degree.mono _ _
      | exact LeO.none _
      | refine LeO.ite ?_ ?_
      | refine LeO.bind ?_ (fun _ => ?_)
set_option maxHeartbeats 8000000 in
set_option maxRecDepth 100000 in
theorem poly_Of.calls (k : Nat) (A0 : Option Addr) (c0 : Nat) (l0 : List Int) (a1 : Int) (r1 : Int) (r2 : Int) (w : World) (hr0 : Kd.C (Kd.int .u8) w A0 l0.length l0) (hc0 : l0.length ≤ c0) (h : poly_Of.f k l0 a1 = some (r1, r2)) :
    Calls Try.prog 23 #[.slice A0 l0.length c0, .int .u64 a1] w fun e w' => e = .returned (.tuple #[.int .u64 r1, .int .i64 r2]) ∧ Drawn0 w w' := by
  have HR0 := Aside0.mk hr0
  have HC0 := Aside0.mk hc0
  clear hr0 hc0
  have H : (if a1 = 0 then (some (0, 10)) else (if a1 = 1 then (some (0, 0)) else ((poly_Degree.f k a1).bind fun t132 => (poly_Of.l0 k a1 t132 0 l0 (l0.length : Int) 0)))) = some (r1, r2) := h
  clear h
  by_cases c3 : a1 = 0
  · rw [if_pos c3] at H
    have c3b0 : (a1 == 0) = true := beq_iff_eq.mpr c3
    have c3b1 : (a1 != 0) = false := bne_eq_false_iff_eq.mpr c3
    clear c3
    simp only [Option.some.injEq, Prod.mk.injEq] at H
    obtain ⟨rfl, rfl⟩ := H
    go_enter Try.func23, Try.ntmps23
    go_wp2
    go_ret2
    exact ⟨by first | rfl | (simp; done) | (simp [*]; done), by repeat (first | exact Drawn0.refl _ | apply Drawn0.step)⟩
  · rw [if_neg c3] at H
    have c3b0 : (a1 == 0) = false := beq_eq_false_iff_ne.mpr c3
    have c3b1 : (a1 != 0) = true := bne_iff_ne.mpr c3
    by_cases c4 : a1 = 1
    · rw [if_pos c4] at H
      have c4b0 : (a1 == 1) = true := beq_iff_eq.mpr c4
      have c4b1 : (a1 != 1) = false := bne_eq_false_iff_eq.mpr c4
      clear c4
      simp only [Option.some.injEq, Prod.mk.injEq] at H
      obtain ⟨rfl, rfl⟩ := H
      go_enter Try.func23, Try.ntmps23
      go_wp2
      go_ret2
      exact ⟨by first | rfl | (simp; done) | (simp [*]; done), by repeat (first | exact Drawn0.refl _ | apply Drawn0.step)⟩
    · rw [if_neg c4] at H
      have c4b0 : (a1 == 1) = false := beq_eq_false_iff_ne.mpr c4
      have c4b1 : (a1 != 1) = true := bne_iff_ne.mpr c4
      replace H := Option.bind_eq_some_iff.mp H
      obtain ⟨t132, A50, H⟩ := H
      replace H : (poly_Of.l0 k a1 t132 0 l0 (l0.length : Int) 0) = some (r1, r2) := H
      have A5 := Aside0.mk A50
      clear A50
      have H' := Aside0.mk H
      clear H
      go_enter Try.func23, Try.ntmps23
      go_wp2_with (first | ((with_reducible refine gate_callee (f := 16) rfl ?_); refine goesL_ (some 16) rfl rfl Try.func16 (by kernel_rfl) rfl #[.int .u64 a1] rfl (by (try simp only [List.map_toArray, List.map_cons, List.map_nil]); first | done | rfl | (simp only [List.length_drop, List.length_take]; rfl)) ?_; (with_reducible refine (poly_Degree.calls k a1 t132 _ A5.out).mono ?_); rintro e w' ⟨rfl, ⟨nd, rfl⟩⟩; refine ⟨_, rfl, ?_⟩))
      go_loopg [7, 19] k (fun kq v7 v19 w' => ∃ (x7_1 : Int) (x19_1 : Int), v7 = .int .u64 x7_1 ∧ v19 = .int .i64 x19_1 ∧ Aside0 (poly_Of.l0 kq a1 t132 x7_1 l0 (l0.length : Int) x19_1 = some (r1, r2)) ∧ Aside0 (kq ≤ k) ∧ Drawn0 w w')
      case atStart => exact ⟨(0), (0), (by first | rfl | (simp; done) | (simp [*]; done)), (by first | rfl | (simp; done) | (simp [*]; done)), H', ⟨Nat.le_refl _⟩, by repeat (first | exact Drawn0.refl _ | apply Drawn0.step)⟩
      case round =>
        clear H'
        try clear c1
        try clear c2
        try clear p2
        try clear c3
        try clear c3b0
        try clear c3b1
        try clear c4
        try clear c4b0
        try clear c4b1
        obtain ⟨x7_1, x19_1, rfl, rfl, HA, HK1, ⟨m1, rfl⟩⟩ := hrel
        cases gk with
        | zero => exact absurd HA.out (by simp [poly_Of.l0])
        | succ k1 =>
          have H := HA.out
          clear HA
          simp only [poly_Of.l0] at H
          by_cases c6 : x19_1 < (l0.length : Int)
          · rw [if_pos c6] at H
            have c6b0 : decide (x19_1 < (l0.length : Int)) = true := decide_eq_true c6
            clear c6
            by_cases c7 : 0 ≤ x19_1
            · rw [if_pos c7] at H
              have c7b0 : decide (0 ≤ x19_1) = true := decide_eq_true c7
              clear c7
              by_cases c8 : x19_1 < (l0.length : Int)
              · rw [if_pos c8] at H
                have c8b0 : decide (x19_1 < (l0.length : Int)) = true := decide_eq_true c8
                clear c8
                have H' := Aside0.mk H
                clear H
                have p133 : 0 ≤ (x19_1 : Int) := of_decide_eq_true (by first | (with_reducible assumption) | assumption)
                have q133 : x19_1 < (l0.length : Int) := of_decide_eq_true (by first | (with_reducible assumption) | assumption)
                obtain ⟨ad133, e133, hx133_0⟩ := Kd.at_int HR0.out x19_1 p133 q133
                cases e133
                replace p133 := eq_true p133
                replace q133 := eq_true q133
                go_wp2
                go_loopg [7, 10] k1 (fun kq v7 v10 w' => ∃ (x7_2 : Int) (x10_2 : Int), v7 = .int .u64 x7_2 ∧ v10 = .int .i64 x10_2 ∧ Aside0 (poly_Of.l1 kq a1 t132 x7_2 (rd l0 x19_1) x10_2 l0 (l0.length : Int) x19_1 = some (r1, r2)) ∧ Aside0 (kq ≤ k1) ∧ Drawn0 w w')
                case atStart => exact ⟨(x7_1), (7), (by first | rfl | (simp; done) | (simp [*]; done)), (by first | rfl | (simp; done) | (simp [*]; done)), H', ⟨Nat.le_refl _⟩, by repeat (first | exact Drawn0.refl _ | apply Drawn0.step)⟩
                case round =>
                  clear H'
                  try clear c1
                  try clear p1
                  try clear q1
                  try clear hx1
                  try clear c2
                  try clear p2
                  try clear c3
                  try clear c3b0
                  try clear c3b1
                  try clear c4
                  try clear c4b0
                  try clear c4b1
                  try clear c6
                  try clear c6b0
                  try clear c7
                  try clear c7b0
                  try clear c8
                  try clear c8b0
                  try clear hx133_0
                  try clear p133
                  try clear p2
                  try clear q133
                  obtain ⟨x7_2, x10_2, rfl, rfl, HA, HK2, ⟨m2, rfl⟩⟩ := hrel
                  cases gk with
                  | zero => exact absurd HA.out (by simp [poly_Of.l1])
                  | succ k2 =>
                    have H := HA.out
                    clear HA
                    simp only [poly_Of.l1] at H
                    by_cases c9 : x10_2 ≥ 0
                    · rw [if_pos c9] at H
                      have c9b0 : decide (0 ≤ x10_2) = true := decide_eq_true c9
                      clear c9
                      by_cases c10 : 0 ≤ x10_2
                      · rw [if_pos c10] at H
                        have c10b0 := eq_true c10
                        have c10b1 : decide (0 ≤ x10_2) = true := decide_eq_true c10
                        clear c10
                        obtain ⟨ji11, hji11⟩ : ∃ j_ : Int, (shr .u8 (rd l0 x19_1) x10_2) = j_ := ⟨_, rfl⟩
                        replace H : ((poly_reduce.f (Go.bits .xor .u64 (IntKind.u64.wrap (x7_2 * 2)) (IntKind.u64.wrap (Go.bits .and .u8 (ji11) 1))) a1 t132).bind fun t134 => (poly_Of.l1 k2 a1 t132 t134 (rd l0 x19_1) (wrap64 (x10_2 - 1)) l0 (l0.length : Int) x19_1)) = some (r1, r2) := by first | (rw [hji11] at H; exact H) | (simp only [hji11] at H ⊢; exact H)
                        have hji11_ : ((rd l0 x19_1) / 2 ^ min x10_2.toNat 8) = ji11 := hji11
                        have hji11z : x10_2 ≤ 8 → ((rd l0 x19_1) / 2 ^ x10_2.toNat) = ji11 := shr_small hji11
                        replace H := Option.bind_eq_some_iff.mp H
                        obtain ⟨t134, A120, H⟩ := H
                        replace H : (poly_Of.l1 k2 a1 t132 t134 (rd l0 x19_1) (wrap64 (x10_2 - 1)) l0 (l0.length : Int) x19_1) = some (r1, r2) := H
                        have A12 := Aside0.mk A120
                        clear A120
                        have H' := Aside0.mk H
                        clear H
                        go_wp2_with (first | ((with_reducible refine gate_callee (f := 31) rfl ?_); refine goesL_ (some 37) rfl rfl Try.func31 (by kernel_rfl) rfl #[.int .u64 (Go.bits .xor .u64 (IntKind.u64.wrap (x7_2 * 2)) (IntKind.u64.wrap (Go.bits .and .u8 (ji11) 1))), .int .u64 a1, .int .i64 t132] rfl (by (try simp only [List.map_toArray, List.map_cons, List.map_nil]); first | done | (simp only [hji11]; rfl) | rfl | (simp only [List.length_drop, List.length_take]; rfl)) ?_; (with_reducible refine (poly_reduce.calls (Go.bits .xor .u64 (IntKind.u64.wrap (x7_2 * 2)) (IntKind.u64.wrap (Go.bits .and .u8 (ji11) 1))) a1 t132 t134 _ A12.out).mono ?_); rintro e w' ⟨rfl, ⟨nd, rfl⟩⟩; refine ⟨_, rfl, ?_⟩))
                        go_roundg k2
                        case measure => have := HK1.out; have := HK2.out; omega
                        case rel => exact ⟨(t134), (wrap64 (x10_2 - 1)), (by first | rfl | (simp; done) | (simp [*]; done)), (by first | rfl | (simp; done) | (simp [*]; done)), H', ⟨by have := HK1.out; have := HK2.out; omega⟩, by repeat (first | exact Drawn0.refl _ | apply Drawn0.step)⟩
                      · rw [if_neg c10] at H
                        exact absurd H (by simp)
                    · rw [if_neg c9] at H
                      have c9b0 : decide (0 ≤ x10_2) = false := decide_eq_false c9
                      clear c9
                      have H' := Aside0.mk H
                      clear H
                      go_wp2
                      go_roundg k2
                      case measure => have := HK1.out; have := HK2.out; omega
                      case rel => exact ⟨(x7_2), (wrap64 (x19_1 + 1)), (by first | rfl | (simp; done) | (simp [*]; done)), (by first | rfl | (simp; done) | (simp [*]; done)), H', ⟨by have := HK1.out; have := HK2.out; omega⟩, by repeat (first | exact Drawn0.refl _ | apply Drawn0.step)⟩
              · rw [if_neg c8] at H
                exact absurd H (by simp)
            · rw [if_neg c7] at H
              exact absurd H (by simp)
          · rw [if_neg c6] at H
            have c6b0 : decide (x19_1 < (l0.length : Int)) = false := decide_eq_false c6
            clear c6
            simp only [Option.some.injEq, Prod.mk.injEq] at H
            obtain ⟨rfl, rfl⟩ := H
            go_wp2
            go_ret2
            exact ⟨by first | rfl | (simp; done) | (simp [*]; done), by repeat (first | exact Drawn0.refl _ | apply Drawn0.step)⟩

/-! ### parapetref01_Degree: function 25 -/
def parapetref01_Degree.l0 : Nat → Int → Int → Int → Option (Int)
  | 0, _, _, _ => none
  | k + 1, x0, x3, x4 => if x4 < 64 then (if 0 ≤ x4 then (if (Go.bits .and .u64 (shr .u64 x0 x4) 1) = 0 then (parapetref01_Degree.l0 k x0 x3 (wrap64 (x4 + 1))) else (parapetref01_Degree.l0 k x0 x4 (wrap64 (x4 + 1)))) else (none)) else (some x3)
def parapetref01_Degree.f (k : Nat) (a0 : Int) : Option (Int) := parapetref01_Degree.l0 k a0 (-1) 0
theorem parapetref01_Degree.mono_l : ∀ k, (∀ y0 y1 y2, LeO (parapetref01_Degree.l0 k y0 y1 y2) (parapetref01_Degree.l0 (k + 1) y0 y1 y2))
  | 0 => fun _ _ _ r h => by simp [parapetref01_Degree.l0] at h
  | k + 1 => by
    have ih0 := parapetref01_Degree.mono_l k
    · intro y0 y1 y2
      unfold parapetref01_Degree.l0
      repeat' first
      | (with_reducible exact ih0 _ _ _)
      | (with_reducible exact LeO.refl _)
      | (with_reducible exact LeO.none _)
      | (with_reducible refine LeO.ite ?_ ?_)
      | (with_reducible refine LeO.bind ?_ (fun _ => ?_))
      | exact ih0 _ _ _
      | exact LeO.none _
      | refine LeO.ite ?_ ?_
      | refine LeO.bind ?_ (fun _ => ?_)
theorem parapetref01_Degree.mono : ∀ a0 k, LeO (parapetref01_Degree.f k a0) (parapetref01_Degree.f (k + 1) a0) := by
  intro a0 k
  have ih0 := parapetref01_Degree.mono_l k
  unfold parapetref01_Degree.f
  repeat' first
      | (with_reducible exact ih0 _ _ _)
      | (with_reducible exact LeO.refl _)
      | (with_reducible exact LeO.none _)
      | (with_reducible refine LeO.ite ?_ ?_)
      | (with_reducible refine LeO.bind ?_ (fun _ => ?_))
      | exact ih0 _ _ _
      | exact LeO.none _
      | refine LeO.ite ?_ ?_
      | refine LeO.bind ?_ (fun _ => ?_)
set_option maxHeartbeats 8000000 in
set_option maxRecDepth 100000 in
theorem parapetref01_Degree.calls (k : Nat) (a0 : Int) (r : Int) (w : World) (h : parapetref01_Degree.f k a0 = some r) :
    Calls Try.prog 25 #[.int .u64 a0] w fun e w' => e = .returned (.int .i64 r) ∧ Drawn0 w w' := by
  have H : (parapetref01_Degree.l0 k a0 (-1) 0) = some r := h
  clear h
  have H' := Aside0.mk H
  clear H
  go_enter Try.func25, Try.ntmps25
  go_wp2
  go_loopg [3, 4] k (fun kq v3 v4 w' => ∃ (x3_1 : Int) (x4_1 : Int), v3 = .int .i64 x3_1 ∧ v4 = .int .i64 x4_1 ∧ Aside0 (parapetref01_Degree.l0 kq a0 x3_1 x4_1 = some r) ∧ Aside0 (kq ≤ k) ∧ Drawn0 w w')
  case atStart => exact ⟨((-1)), (0), (by first | rfl | (simp; done) | (simp [*]; done)), (by first | rfl | (simp; done) | (simp [*]; done)), H', ⟨Nat.le_refl _⟩, by repeat (first | exact Drawn0.refl _ | apply Drawn0.step)⟩
  case round =>
    clear H'
    obtain ⟨x3_1, x4_1, rfl, rfl, HA, HK1, ⟨m1, rfl⟩⟩ := hrel
    cases gk with
    | zero => exact absurd HA.out (by simp [parapetref01_Degree.l0])
    | succ k1 =>
      have H := HA.out
      clear HA
      simp only [parapetref01_Degree.l0] at H
      by_cases c2 : x4_1 < 64
      · rw [if_pos c2] at H
        have c2b0 : decide (x4_1 < 64) = true := decide_eq_true c2
        clear c2
        by_cases c3 : 0 ≤ x4_1
        · rw [if_pos c3] at H
          have c3b0 := eq_true c3
          have c3b1 : decide (0 ≤ x4_1) = true := decide_eq_true c3
          clear c3
          obtain ⟨ji4, hji4⟩ : ∃ j_ : Int, (shr .u64 a0 x4_1) = j_ := ⟨_, rfl⟩
          replace H : (if (Go.bits .and .u64 (ji4) 1) = 0 then (parapetref01_Degree.l0 k1 a0 x3_1 (wrap64 (x4_1 + 1))) else (parapetref01_Degree.l0 k1 a0 x4_1 (wrap64 (x4_1 + 1)))) = some r := by first | (rw [hji4] at H; exact H) | (simp only [hji4] at H ⊢; exact H)
          have hji4_ : (a0 / 2 ^ min x4_1.toNat 64) = ji4 := hji4
          have hji4z : x4_1 ≤ 64 → (a0 / 2 ^ x4_1.toNat) = ji4 := shr_small hji4
          by_cases c5 : (Go.bits .and .u64 (ji4) 1) = 0
          · rw [if_pos c5] at H
            have c5b0 : ((Go.bits .and .u64 (ji4) 1) == 0) = true := beq_iff_eq.mpr c5
            have c5b1 : ((Go.bits .and .u64 (ji4) 1) != 0) = false := bne_eq_false_iff_eq.mpr c5
            clear c5
            have H' := Aside0.mk H
            clear H
            go_wp2
            go_roundg k1
            case measure => have := HK1.out; omega
            case rel => exact ⟨(x3_1), (wrap64 (x4_1 + 1)), (by first | rfl | (simp; done) | (simp [*]; done)), (by first | rfl | (simp; done) | (simp [*]; done)), H', ⟨by have := HK1.out; omega⟩, by repeat (first | exact Drawn0.refl _ | apply Drawn0.step)⟩
          · rw [if_neg c5] at H
            have c5b0 : ((Go.bits .and .u64 (ji4) 1) == 0) = false := beq_eq_false_iff_ne.mpr c5
            have c5b1 : ((Go.bits .and .u64 (ji4) 1) != 0) = true := bne_iff_ne.mpr c5
            have H' := Aside0.mk H
            clear H
            go_wp2
            go_roundg k1
            case measure => have := HK1.out; omega
            case rel => exact ⟨(x4_1), (wrap64 (x4_1 + 1)), (by first | rfl | (simp; done) | (simp [*]; done)), (by first | rfl | (simp; done) | (simp [*]; done)), H', ⟨by have := HK1.out; omega⟩, by repeat (first | exact Drawn0.refl _ | apply Drawn0.step)⟩
        · rw [if_neg c3] at H
          exact absurd H (by simp)
      · rw [if_neg c2] at H
        have c2b0 : decide (x4_1 < 64) = false := decide_eq_false c2
        clear c2
        obtain rfl := Option.some.inj H
        go_wp2
        go_ret
        exact ⟨by first | rfl | (simp; done) | (simp [*]; done), by repeat (first | exact Drawn0.refl _ | apply Drawn0.step)⟩

/-! ### parapetref01_Bits: function 32 -/
def parapetref01_Bits.l0 : Nat → List Bool → Int → Int → Int → Int → Option (Int)
  | 0, _, _, _, _, _ => none
  | k + 1, x0, x1, x5, x6, x7 => if x7 < (x0.length : Int) then (if 0 ≤ (wrap64 (x5 - 1)) then (if 0 ≤ x7 then (if rdOf false x0 x7 = true then (if (Go.bits .and .u64 (shr .u64 x6 (wrap64 (x5 - 1))) 1) = 0 then (parapetref01_Bits.l0 k x0 x1 x5 (Go.bits .xor .u64 (IntKind.u64.wrap (x6 * 2)) 1) (wrap64 (x7 + 1))) else (parapetref01_Bits.l0 k x0 x1 x5 (Go.bits .xor .u64 (Go.bits .xor .u64 (IntKind.u64.wrap (x6 * 2)) 1) x1) (wrap64 (x7 + 1)))) else (if (Go.bits .and .u64 (shr .u64 x6 (wrap64 (x5 - 1))) 1) = 0 then (parapetref01_Bits.l0 k x0 x1 x5 (IntKind.u64.wrap (x6 * 2)) (wrap64 (x7 + 1))) else (parapetref01_Bits.l0 k x0 x1 x5 (Go.bits .xor .u64 (IntKind.u64.wrap (x6 * 2)) x1) (wrap64 (x7 + 1))))) else (none)) else (none)) else (some x6)
def parapetref01_Bits.f (k : Nat) (l0 : List Bool) (a1 : Int) : Option (Int) := (parapetref01_Degree.f k a1).bind fun t135 => (if t135 = 0 then (some 0) else (parapetref01_Bits.l0 k l0 a1 t135 0 0))
theorem parapetref01_Bits.mono_l : ∀ k, (∀ y0 y1 y2 y3 y4, LeO (parapetref01_Bits.l0 k y0 y1 y2 y3 y4) (parapetref01_Bits.l0 (k + 1) y0 y1 y2 y3 y4))
  | 0 => fun _ _ _ _ _ r h => by simp [parapetref01_Bits.l0] at h
  | k + 1 => by
    have ih0 := parapetref01_Bits.mono_l k
    · intro y0 y1 y2 y3 y4
      unfold parapetref01_Bits.l0
      repeat' first
      | (with_reducible exact ih0 _ _ _ _ _)
      | (with_reducible exact parapetref01_Degree.mono _ _)
      | (with_reducible exact LeO.refl _)
      | (with_reducible exact LeO.none _)
      | (with_reducible refine LeO.ite ?_ ?_)
      | (with_reducible refine LeO.bind ?_ (fun _ => ?_))
      | exact ih0 _ _ _ _ _
      | exact parapetref01_Degree.mono _ _
      | exact LeO.none _
      | refine LeO.ite ?_ ?_
      | refine LeO.bind ?_ (fun _ => ?_)
theorem parapetref01_Bits.mono : ∀ a0 a1 k, LeO (parapetref01_Bits.f k a0 a1) (parapetref01_Bits.f (k + 1) a0 a1) := by
  intro a0 a1 k
  have ih0 := parapetref01_Bits.mono_l k
  unfold parapetref01_Bits.f
  repeat' first
      | (with_reducible exact ih0 _ _ _ _ _)
      | (with_reducible exact parapetref01_Degree.mono _ _)
      | (with_reducible exact LeO.refl _)
      | (with_reducible exact LeO.none _)
      | (with_reducible refine LeO.ite ?_ ?_)
      | (with_reducible refine LeO.bind ?_ (fun _ => ?_))
      | exact ih0 _ _ _ _ _
      | exact parapetref01_Degree.mono _ _
      | exact LeO.none _
      | refine LeO.ite ?_ ?_
      | refine LeO.bind ?_ (fun _ => ?_)
set_option maxHeartbeats 8000000 in
set_option maxRecDepth 100000 in
theorem parapetref01_Bits.calls (k : Nat) (A0 : Option Addr) (c0 : Nat) (l0 : List Bool) (a1 : Int) (r : Int) (w : World) (hr0 : Kd.C Kd.bool w A0 l0.length l0) (hc0 : l0.length ≤ c0) (h : parapetref01_Bits.f k l0 a1 = some r) :
    Calls Try.prog 32 #[.slice A0 l0.length c0, .int .u64 a1] w fun e w' => e = .returned (.int .u64 r) ∧ Drawn0 w w' := by
  have HR0 := Aside0.mk hr0
  have HC0 := Aside0.mk hc0
  clear hr0 hc0
  have H : ((parapetref01_Degree.f k a1).bind fun t135 => (if t135 = 0 then (some 0) else (parapetref01_Bits.l0 k l0 a1 t135 0 0))) = some r := h
  clear h
  replace H := Option.bind_eq_some_iff.mp H
  obtain ⟨t135, A30, H⟩ := H
  replace H : (if t135 = 0 then (some 0) else (parapetref01_Bits.l0 k l0 a1 t135 0 0)) = some r := H
  have A3 := Aside0.mk A30
  clear A30
  by_cases c4 : t135 = 0
  · rw [if_pos c4] at H
    have c4b0 : (t135 == 0) = true := beq_iff_eq.mpr c4
    have c4b1 : (t135 != 0) = false := bne_eq_false_iff_eq.mpr c4
    clear c4
    obtain rfl := Option.some.inj H
    go_enter Try.func32, Try.ntmps32
    go_wp2_with (first | ((with_reducible refine gate_callee (f := 25) rfl ?_); refine goesL_ (some 10) rfl rfl Try.func25 (by kernel_rfl) rfl #[.int .u64 a1] rfl (by (try simp only [List.map_toArray, List.map_cons, List.map_nil]); first | done | rfl | (simp only [List.length_drop, List.length_take]; rfl)) ?_; (with_reducible refine (parapetref01_Degree.calls k a1 t135 _ A3.out).mono ?_); rintro e w' ⟨rfl, ⟨nd, rfl⟩⟩; refine ⟨_, rfl, ?_⟩))
    go_ret
    exact ⟨by first | rfl | (simp; done) | (simp [*]; done), by repeat (first | exact Drawn0.refl _ | apply Drawn0.step)⟩
  · rw [if_neg c4] at H
    have c4b0 : (t135 == 0) = false := beq_eq_false_iff_ne.mpr c4
    have c4b1 : (t135 != 0) = true := bne_iff_ne.mpr c4
    have H' := Aside0.mk H
    clear H
    go_enter Try.func32, Try.ntmps32
    go_wp2_with (first | ((with_reducible refine gate_callee (f := 25) rfl ?_); refine goesL_ (some 10) rfl rfl Try.func25 (by kernel_rfl) rfl #[.int .u64 a1] rfl (by (try simp only [List.map_toArray, List.map_cons, List.map_nil]); first | done | rfl | (simp only [List.length_drop, List.length_take]; rfl)) ?_; (with_reducible refine (parapetref01_Degree.calls k a1 t135 _ A3.out).mono ?_); rintro e w' ⟨rfl, ⟨nd, rfl⟩⟩; refine ⟨_, rfl, ?_⟩))
    go_loopg [6, 7] k (fun kq v6 v7 w' => ∃ (x6_1 : Int) (x7_1 : Int), v6 = .int .u64 x6_1 ∧ v7 = .int .i64 x7_1 ∧ Aside0 (parapetref01_Bits.l0 kq l0 a1 t135 x6_1 x7_1 = some r) ∧ Aside0 (kq ≤ k) ∧ Drawn0 w w')
    case atStart => exact ⟨(0), (0), (by first | rfl | (simp; done) | (simp [*]; done)), (by first | rfl | (simp; done) | (simp [*]; done)), H', ⟨Nat.le_refl _⟩, by repeat (first | exact Drawn0.refl _ | apply Drawn0.step)⟩
    case round =>
      clear H'
      try clear c2
      try clear p2
      try clear c3
      try clear c4
      try clear c4b0
      try clear c4b1
      obtain ⟨x6_1, x7_1, rfl, rfl, HA, HK1, ⟨m1, rfl⟩⟩ := hrel
      cases gk with
      | zero => exact absurd HA.out (by simp [parapetref01_Bits.l0])
      | succ k1 =>
        have H := HA.out
        clear HA
        simp only [parapetref01_Bits.l0] at H
        by_cases c5 : x7_1 < (l0.length : Int)
        · rw [if_pos c5] at H
          have c5b0 : decide (x7_1 < (l0.length : Int)) = true := decide_eq_true c5
          clear c5
          obtain ⟨ji6, hji6⟩ : ∃ j_ : Int, (wrap64 (t135 - 1)) = j_ := ⟨_, rfl⟩
          replace H : (if 0 ≤ (ji6) then (if 0 ≤ x7_1 then (if rdOf false l0 x7_1 = true then (if (Go.bits .and .u64 (shr .u64 x6_1 (ji6)) 1) = 0 then (parapetref01_Bits.l0 k1 l0 a1 t135 (Go.bits .xor .u64 (IntKind.u64.wrap (x6_1 * 2)) 1) (wrap64 (x7_1 + 1))) else (parapetref01_Bits.l0 k1 l0 a1 t135 (Go.bits .xor .u64 (Go.bits .xor .u64 (IntKind.u64.wrap (x6_1 * 2)) 1) a1) (wrap64 (x7_1 + 1)))) else (if (Go.bits .and .u64 (shr .u64 x6_1 (ji6)) 1) = 0 then (parapetref01_Bits.l0 k1 l0 a1 t135 (IntKind.u64.wrap (x6_1 * 2)) (wrap64 (x7_1 + 1))) else (parapetref01_Bits.l0 k1 l0 a1 t135 (Go.bits .xor .u64 (IntKind.u64.wrap (x6_1 * 2)) a1) (wrap64 (x7_1 + 1))))) else (none)) else (none)) = some r := by first | (rw [hji6] at H; exact H) | (simp only [hji6] at H ⊢; exact H)
          have hji6w : (IntKind.i64.wrap (t135 - 1)) = ji6 := (i64_w _).trans hji6
          by_cases c7 : 0 ≤ (ji6)
          · rw [if_pos c7] at H
            have c7b0 := eq_true c7
            have c7b1 : decide (0 ≤ (ji6)) = true := decide_eq_true c7
            clear c7
            obtain ⟨ji8, hji8⟩ : ∃ j_ : Int, (shr .u64 x6_1 (ji6)) = j_ := ⟨_, rfl⟩
            replace H : (if 0 ≤ x7_1 then (if rdOf false l0 x7_1 = true then (if (Go.bits .and .u64 (ji8) 1) = 0 then (parapetref01_Bits.l0 k1 l0 a1 t135 (Go.bits .xor .u64 (IntKind.u64.wrap (x6_1 * 2)) 1) (wrap64 (x7_1 + 1))) else (parapetref01_Bits.l0 k1 l0 a1 t135 (Go.bits .xor .u64 (Go.bits .xor .u64 (IntKind.u64.wrap (x6_1 * 2)) 1) a1) (wrap64 (x7_1 + 1)))) else (if (Go.bits .and .u64 (ji8) 1) = 0 then (parapetref01_Bits.l0 k1 l0 a1 t135 (IntKind.u64.wrap (x6_1 * 2)) (wrap64 (x7_1 + 1))) else (parapetref01_Bits.l0 k1 l0 a1 t135 (Go.bits .xor .u64 (IntKind.u64.wrap (x6_1 * 2)) a1) (wrap64 (x7_1 + 1))))) else (none)) = some r := by first | (rw [hji8] at H; exact H) | (simp only [hji8] at H ⊢; exact H)
            have hji8_ : (x6_1 / 2 ^ min (ji6).toNat 64) = ji8 := hji8
            have hji8z : (ji6) ≤ 64 → (x6_1 / 2 ^ (ji6).toNat) = ji8 := shr_small hji8
            by_cases c9 : 0 ≤ x7_1
            · rw [if_pos c9] at H
              have c9b0 : decide (0 ≤ x7_1) = true := decide_eq_true c9
              clear c9
              obtain ⟨bq10, hbq10⟩ : ∃ b_ : Bool, b_ = (rdOf false l0 x7_1) := ⟨_, rfl⟩
              replace H : (if bq10 = true then (if (Go.bits .and .u64 (ji8) 1) = 0 then (parapetref01_Bits.l0 k1 l0 a1 t135 (Go.bits .xor .u64 (IntKind.u64.wrap (x6_1 * 2)) 1) (wrap64 (x7_1 + 1))) else (parapetref01_Bits.l0 k1 l0 a1 t135 (Go.bits .xor .u64 (Go.bits .xor .u64 (IntKind.u64.wrap (x6_1 * 2)) 1) a1) (wrap64 (x7_1 + 1)))) else (if (Go.bits .and .u64 (ji8) 1) = 0 then (parapetref01_Bits.l0 k1 l0 a1 t135 (IntKind.u64.wrap (x6_1 * 2)) (wrap64 (x7_1 + 1))) else (parapetref01_Bits.l0 k1 l0 a1 t135 (Go.bits .xor .u64 (IntKind.u64.wrap (x6_1 * 2)) a1) (wrap64 (x7_1 + 1))))) = some r := by rw [← hbq10] at H; exact H
              have Nbq10 := Aside0.mk hbq10
              clear hbq10
              by_cases c11 : bq10 = true
              · subst c11
                have H1 : (if (Go.bits .and .u64 (ji8) 1) = 0 then (parapetref01_Bits.l0 k1 l0 a1 t135 (Go.bits .xor .u64 (IntKind.u64.wrap (x6_1 * 2)) 1) (wrap64 (x7_1 + 1))) else (parapetref01_Bits.l0 k1 l0 a1 t135 (Go.bits .xor .u64 (Go.bits .xor .u64 (IntKind.u64.wrap (x6_1 * 2)) 1) a1) (wrap64 (x7_1 + 1)))) = some r := by rw [if_pos rfl] at H; exact H
                clear H
                have H := H1
                clear H1
                by_cases c12 : (Go.bits .and .u64 (ji8) 1) = 0
                · rw [if_pos c12] at H
                  have c12b0 : ((Go.bits .and .u64 (ji8) 1) == 0) = true := beq_iff_eq.mpr c12
                  have c12b1 : ((Go.bits .and .u64 (ji8) 1) != 0) = false := bne_eq_false_iff_eq.mpr c12
                  clear c12
                  have H' := Aside0.mk H
                  clear H
                  have p136 : 0 ≤ (x7_1 : Int) := of_decide_eq_true (by first | (with_reducible assumption) | assumption)
                  have q136 : x7_1 < (l0.length : Int) := of_decide_eq_true (by first | (with_reducible assumption) | assumption)
                  obtain ⟨ad136, e136, hx136_0⟩ := Kd.at_bool HR0.out x7_1 p136 q136
                  (try rw [← Nbq10.out] at hx136_0)
                  cases e136
                  replace p136 := eq_true p136
                  replace q136 := eq_true q136
                  go_wp2
                  go_roundg k1
                  case measure => have := HK1.out; omega
                  case rel => exact ⟨(Go.bits .xor .u64 (IntKind.u64.wrap (x6_1 * 2)) 1), (wrap64 (x7_1 + 1)), (by first | rfl | (simp; done) | (simp [*]; done)), (by first | rfl | (simp; done) | (simp [*]; done)), H', ⟨by have := HK1.out; omega⟩, by repeat (first | exact Drawn0.refl _ | apply Drawn0.step)⟩
                · rw [if_neg c12] at H
                  have c12b0 : ((Go.bits .and .u64 (ji8) 1) == 0) = false := beq_eq_false_iff_ne.mpr c12
                  have c12b1 : ((Go.bits .and .u64 (ji8) 1) != 0) = true := bne_iff_ne.mpr c12
                  have H' := Aside0.mk H
                  clear H
                  have p136 : 0 ≤ (x7_1 : Int) := of_decide_eq_true (by first | (with_reducible assumption) | assumption)
                  have q136 : x7_1 < (l0.length : Int) := of_decide_eq_true (by first | (with_reducible assumption) | assumption)
                  obtain ⟨ad136, e136, hx136_0⟩ := Kd.at_bool HR0.out x7_1 p136 q136
                  (try rw [← Nbq10.out] at hx136_0)
                  cases e136
                  replace p136 := eq_true p136
                  replace q136 := eq_true q136
                  go_wp2
                  go_roundg k1
                  case measure => have := HK1.out; omega
                  case rel => exact ⟨(Go.bits .xor .u64 (Go.bits .xor .u64 (IntKind.u64.wrap (x6_1 * 2)) 1) a1), (wrap64 (x7_1 + 1)), (by first | rfl | (simp; done) | (simp [*]; done)), (by first | rfl | (simp; done) | (simp [*]; done)), H', ⟨by have := HK1.out; omega⟩, by repeat (first | exact Drawn0.refl _ | apply Drawn0.step)⟩
              · replace c11 := Bool.eq_false_iff.mpr c11
                subst c11
                have H1 : (if (Go.bits .and .u64 (ji8) 1) = 0 then (parapetref01_Bits.l0 k1 l0 a1 t135 (IntKind.u64.wrap (x6_1 * 2)) (wrap64 (x7_1 + 1))) else (parapetref01_Bits.l0 k1 l0 a1 t135 (Go.bits .xor .u64 (IntKind.u64.wrap (x6_1 * 2)) a1) (wrap64 (x7_1 + 1)))) = some r := by rw [if_neg (show ¬ (false = true) by decide)] at H; exact H
                clear H
                have H := H1
                clear H1
                by_cases c13 : (Go.bits .and .u64 (ji8) 1) = 0
                · rw [if_pos c13] at H
                  have c13b0 : ((Go.bits .and .u64 (ji8) 1) == 0) = true := beq_iff_eq.mpr c13
                  have c13b1 : ((Go.bits .and .u64 (ji8) 1) != 0) = false := bne_eq_false_iff_eq.mpr c13
                  clear c13
                  have H' := Aside0.mk H
                  clear H
                  have p136 : 0 ≤ (x7_1 : Int) := of_decide_eq_true (by first | (with_reducible assumption) | assumption)
                  have q136 : x7_1 < (l0.length : Int) := of_decide_eq_true (by first | (with_reducible assumption) | assumption)
                  obtain ⟨ad136, e136, hx136_0⟩ := Kd.at_bool HR0.out x7_1 p136 q136
                  (try rw [← Nbq10.out] at hx136_0)
                  cases e136
                  replace p136 := eq_true p136
                  replace q136 := eq_true q136
                  go_wp2
                  go_roundg k1
                  case measure => have := HK1.out; omega
                  case rel => exact ⟨(IntKind.u64.wrap (x6_1 * 2)), (wrap64 (x7_1 + 1)), (by first | rfl | (simp; done) | (simp [*]; done)), (by first | rfl | (simp; done) | (simp [*]; done)), H', ⟨by have := HK1.out; omega⟩, by repeat (first | exact Drawn0.refl _ | apply Drawn0.step)⟩
                · rw [if_neg c13] at H
                  have c13b0 : ((Go.bits .and .u64 (ji8) 1) == 0) = false := beq_eq_false_iff_ne.mpr c13
                  have c13b1 : ((Go.bits .and .u64 (ji8) 1) != 0) = true := bne_iff_ne.mpr c13
                  have H' := Aside0.mk H
                  clear H
                  have p136 : 0 ≤ (x7_1 : Int) := of_decide_eq_true (by first | (with_reducible assumption) | assumption)
                  have q136 : x7_1 < (l0.length : Int) := of_decide_eq_true (by first | (with_reducible assumption) | assumption)
                  obtain ⟨ad136, e136, hx136_0⟩ := Kd.at_bool HR0.out x7_1 p136 q136
                  (try rw [← Nbq10.out] at hx136_0)
                  cases e136
                  replace p136 := eq_true p136
                  replace q136 := eq_true q136
                  go_wp2
                  go_roundg k1
                  case measure => have := HK1.out; omega
                  case rel => exact ⟨(Go.bits .xor .u64 (IntKind.u64.wrap (x6_1 * 2)) a1), (wrap64 (x7_1 + 1)), (by first | rfl | (simp; done) | (simp [*]; done)), (by first | rfl | (simp; done) | (simp [*]; done)), H', ⟨by have := HK1.out; omega⟩, by repeat (first | exact Drawn0.refl _ | apply Drawn0.step)⟩
            · rw [if_neg c9] at H
              exact absurd H (by simp)
          · rw [if_neg c7] at H
            exact absurd H (by simp)
        · rw [if_neg c5] at H
          have c5b0 : decide (x7_1 < (l0.length : Int)) = false := decide_eq_false c5
          clear c5
          obtain rfl := Option.some.inj H
          go_wp2
          go_ret
          exact ⟨by first | rfl | (simp; done) | (simp [*]; done), by repeat (first | exact Drawn0.refl _ | apply Drawn0.step)⟩

end Go.Proofs.Ytcnlomknmhgpbac.PY
