-- Written by a program of this session (wip/pr.sh): the functions' plain forms and their walks.
import Derived.Test.YtcnlomknmhgpbacPPx0
import Derived.Test.YtcnlomknmhgpbacPPx1
namespace Go.Proofs.Ytcnlomknmhgpbac.PP
open Go.RowKit Go.Proofs.YtcnlomknmhgpbacW.PrintWords Go.Proofs.YtcnlomknmhgpbacW.PrintLast Go.Proofs.YtcnlomknmhgpbacW.PrintMore
attribute [local go_sem] max2_int min2_int max_two min_two max_three min_three max_four min_four   -- for this text's walks alone
set_option linter.unusedVariables false
set_option linter.unusedSimpArgs false

/-! ### parapetlaw01_Awake: function 12 -/
def parapetlaw01_Awake.f (k : Nat)  : Option (Bool) := (poly_DivMod.f k 27 5).bind fun bt116 => ((poly_MulMod.f k 2 128 283).bind fun bt119 => (if bt116.1 = 7 then (if bt116.2.1 = 0 then (if bt116.2.2 = 0 then (if bt119.1 = 27 then (if bt119.2 = 0 then ((poly_Degree.f k 128).bind fun t121 => (if t121 = 7 then ((poly_Mul.f k 7 5).bind fun t122 => (if t122 = 27 then ((poly_Gcd.f k 6 9).bind fun t123 => (some (t123 == 3))) else (some false))) else (some false))) else (some false)) else (some false)) else (some false)) else (some false)) else (some false)))
theorem parapetlaw01_Awake.mono : ∀ k, LeO (parapetlaw01_Awake.f k ) (parapetlaw01_Awake.f (k + 1) ) := by
  intro  k
  unfold parapetlaw01_Awake.f
  repeat' first
      | (with_reducible exact poly_Degree.mono _ _)
      | (with_reducible exact poly_DivMod.mono _ _ _)
      | (with_reducible exact poly_Gcd.mono _ _ _)
      | (with_reducible exact poly_Mul.mono _ _ _)
      | (with_reducible exact poly_MulMod.mono _ _ _ _)
      | (with_reducible exact LeO.refl _)
      | (with_reducible exact LeO.none _)
      | (with_reducible refine LeO.ite ?_ ?_)
      | (with_reducible refine LeO.bind ?_ (fun _ => ?_))
      | exact poly_Degree.mono _ _
      | exact poly_DivMod.mono _ _ _
      | exact poly_Gcd.mono _ _ _
      | exact poly_Mul.mono _ _ _
      | exact poly_MulMod.mono _ _ _ _
      | exact LeO.none _
      | refine LeO.ite ?_ ?_
      | refine LeO.bind ?_ (fun _ => ?_)
set_option maxHeartbeats 8000000 in
set_option maxRecDepth 100000 in
theorem parapetlaw01_Awake.calls (k : Nat)  (r : Bool) (w : World) (h : parapetlaw01_Awake.f k  = some r) :
    Calls Try.prog 12 #[] w fun e w' => e = .returned (.bool r) ∧ Drawn0 w w' := by
  have H : ((poly_DivMod.f k 27 5).bind fun bt116 => ((poly_MulMod.f k 2 128 283).bind fun bt119 => (if bt116.1 = 7 then (if bt116.2.1 = 0 then (if bt116.2.2 = 0 then (if bt119.1 = 27 then (if bt119.2 = 0 then ((poly_Degree.f k 128).bind fun t121 => (if t121 = 7 then ((poly_Mul.f k 7 5).bind fun t122 => (if t122 = 27 then ((poly_Gcd.f k 6 9).bind fun t123 => (some (t123 == 3))) else (some false))) else (some false))) else (some false)) else (some false)) else (some false)) else (some false)) else (some false)))) = some r := h
  clear h
  replace H := Option.bind_eq_some_iff.mp H
  obtain ⟨⟨t116, t117, t118⟩, A10, H⟩ := H
  replace H : ((poly_MulMod.f k 2 128 283).bind fun bt119 => (if t116 = 7 then (if t117 = 0 then (if t118 = 0 then (if bt119.1 = 27 then (if bt119.2 = 0 then ((poly_Degree.f k 128).bind fun t121 => (if t121 = 7 then ((poly_Mul.f k 7 5).bind fun t122 => (if t122 = 27 then ((poly_Gcd.f k 6 9).bind fun t123 => (some (t123 == 3))) else (some false))) else (some false))) else (some false)) else (some false)) else (some false)) else (some false)) else (some false))) = some r := H
  have A1 := Aside0.mk A10
  clear A10
  replace H := Option.bind_eq_some_iff.mp H
  obtain ⟨⟨t119, t120⟩, A20, H⟩ := H
  replace H : (if t116 = 7 then (if t117 = 0 then (if t118 = 0 then (if t119 = 27 then (if t120 = 0 then ((poly_Degree.f k 128).bind fun t121 => (if t121 = 7 then ((poly_Mul.f k 7 5).bind fun t122 => (if t122 = 27 then ((poly_Gcd.f k 6 9).bind fun t123 => (some (t123 == 3))) else (some false))) else (some false))) else (some false)) else (some false)) else (some false)) else (some false)) else (some false)) = some r := H
  have A2 := Aside0.mk A20
  clear A20
  by_cases c3 : t116 = 7
  · rw [if_pos c3] at H
    have c3b0 : (t116 == 7) = true := beq_iff_eq.mpr c3
    have c3b1 : (t116 != 7) = false := bne_eq_false_iff_eq.mpr c3
    clear c3
    by_cases c4 : t117 = 0
    · rw [if_pos c4] at H
      have c4b0 : (t117 == 0) = true := beq_iff_eq.mpr c4
      have c4b1 : (t117 != 0) = false := bne_eq_false_iff_eq.mpr c4
      clear c4
      by_cases c5 : t118 = 0
      · rw [if_pos c5] at H
        have c5b0 : (t118 == 0) = true := beq_iff_eq.mpr c5
        have c5b1 : (t118 != 0) = false := bne_eq_false_iff_eq.mpr c5
        clear c5
        by_cases c6 : t119 = 27
        · rw [if_pos c6] at H
          have c6b0 : (t119 == 27) = true := beq_iff_eq.mpr c6
          have c6b1 : (t119 != 27) = false := bne_eq_false_iff_eq.mpr c6
          clear c6
          by_cases c7 : t120 = 0
          · rw [if_pos c7] at H
            have c7b0 : (t120 == 0) = true := beq_iff_eq.mpr c7
            have c7b1 : (t120 != 0) = false := bne_eq_false_iff_eq.mpr c7
            clear c7
            replace H := Option.bind_eq_some_iff.mp H
            obtain ⟨t121, A80, H⟩ := H
            replace H : (if t121 = 7 then ((poly_Mul.f k 7 5).bind fun t122 => (if t122 = 27 then ((poly_Gcd.f k 6 9).bind fun t123 => (some (t123 == 3))) else (some false))) else (some false)) = some r := H
            have A8 := Aside0.mk A80
            clear A80
            by_cases c9 : t121 = 7
            · rw [if_pos c9] at H
              have c9b0 : (t121 == 7) = true := beq_iff_eq.mpr c9
              have c9b1 : (t121 != 7) = false := bne_eq_false_iff_eq.mpr c9
              clear c9
              replace H := Option.bind_eq_some_iff.mp H
              obtain ⟨t122, A100, H⟩ := H
              replace H : (if t122 = 27 then ((poly_Gcd.f k 6 9).bind fun t123 => (some (t123 == 3))) else (some false)) = some r := H
              have A10 := Aside0.mk A100
              clear A100
              by_cases c11 : t122 = 27
              · rw [if_pos c11] at H
                have c11b0 : (t122 == 27) = true := beq_iff_eq.mpr c11
                have c11b1 : (t122 != 27) = false := bne_eq_false_iff_eq.mpr c11
                clear c11
                replace H := Option.bind_eq_some_iff.mp H
                obtain ⟨t123, A120, H⟩ := H
                replace H : (some (t123 == 3)) = some r := H
                have A12 := Aside0.mk A120
                clear A120
                obtain rfl := Option.some.inj H
                go_enter Try.func12, Try.ntmps12
                go_wp2_with (first | ((with_reducible refine gate_callee (f := 13) rfl ?_); refine goesL_ (some 7) rfl rfl Try.func13 (by kernel_rfl) rfl #[.int .u64 27, .int .u64 5] rfl (by (try simp only [List.map_toArray, List.map_cons, List.map_nil]); first | done | rfl | (simp only [List.length_drop, List.length_take]; rfl)) ?_; (with_reducible refine (poly_DivMod.calls k 27 5 t116 t117 t118 _ A1.out).mono ?_); rintro e w' ⟨rfl, ⟨nd, rfl⟩⟩; refine ⟨_, rfl, ?_⟩) | ((with_reducible refine gate_callee (f := 19) rfl ?_); refine goesL_ (some 12) rfl rfl Try.func19 (by kernel_rfl) rfl #[.int .u64 2, .int .u64 128, .int .u64 283] rfl (by (try simp only [List.map_toArray, List.map_cons, List.map_nil]); first | done | rfl | (simp only [List.length_drop, List.length_take]; rfl)) ?_; (with_reducible refine (poly_MulMod.calls k 2 128 283 t119 t120 _ A2.out).mono ?_); rintro e w' ⟨rfl, ⟨nd, rfl⟩⟩; refine ⟨_, rfl, ?_⟩) | (go_at_call 16; (with_reducible refine (poly_Degree.calls k 128 t121 _ A8.out).mono ?_); rintro e w' ⟨rfl, ⟨nd, rfl⟩⟩) | (go_at_call 28; (with_reducible refine (poly_Mul.calls k 7 5 t122 _ A10.out).mono ?_); rintro e w' ⟨rfl, ⟨nd, rfl⟩⟩) | (go_at_call 17; (with_reducible refine (poly_Gcd.calls k 6 9 t123 _ A12.out).mono ?_); rintro e w' ⟨rfl, ⟨nd, rfl⟩⟩))
                go_ret
                exact ⟨by first | rfl | (simp; done) | (simp [*]; done), by repeat (first | exact Drawn0.refl _ | apply Drawn0.step)⟩
              · rw [if_neg c11] at H
                have c11b0 : (t122 == 27) = false := beq_eq_false_iff_ne.mpr c11
                have c11b1 : (t122 != 27) = true := bne_iff_ne.mpr c11
                obtain rfl := Option.some.inj H
                go_enter Try.func12, Try.ntmps12
                go_wp2_with (first | ((with_reducible refine gate_callee (f := 13) rfl ?_); refine goesL_ (some 7) rfl rfl Try.func13 (by kernel_rfl) rfl #[.int .u64 27, .int .u64 5] rfl (by (try simp only [List.map_toArray, List.map_cons, List.map_nil]); first | done | rfl | (simp only [List.length_drop, List.length_take]; rfl)) ?_; (with_reducible refine (poly_DivMod.calls k 27 5 t116 t117 t118 _ A1.out).mono ?_); rintro e w' ⟨rfl, ⟨nd, rfl⟩⟩; refine ⟨_, rfl, ?_⟩) | ((with_reducible refine gate_callee (f := 19) rfl ?_); refine goesL_ (some 12) rfl rfl Try.func19 (by kernel_rfl) rfl #[.int .u64 2, .int .u64 128, .int .u64 283] rfl (by (try simp only [List.map_toArray, List.map_cons, List.map_nil]); first | done | rfl | (simp only [List.length_drop, List.length_take]; rfl)) ?_; (with_reducible refine (poly_MulMod.calls k 2 128 283 t119 t120 _ A2.out).mono ?_); rintro e w' ⟨rfl, ⟨nd, rfl⟩⟩; refine ⟨_, rfl, ?_⟩) | (go_at_call 16; (with_reducible refine (poly_Degree.calls k 128 t121 _ A8.out).mono ?_); rintro e w' ⟨rfl, ⟨nd, rfl⟩⟩) | (go_at_call 28; (with_reducible refine (poly_Mul.calls k 7 5 t122 _ A10.out).mono ?_); rintro e w' ⟨rfl, ⟨nd, rfl⟩⟩))
                go_ret
                exact ⟨by first | rfl | (simp; done) | (simp [*]; done), by repeat (first | exact Drawn0.refl _ | apply Drawn0.step)⟩
            · rw [if_neg c9] at H
              have c9b0 : (t121 == 7) = false := beq_eq_false_iff_ne.mpr c9
              have c9b1 : (t121 != 7) = true := bne_iff_ne.mpr c9
              obtain rfl := Option.some.inj H
              go_enter Try.func12, Try.ntmps12
              go_wp2_with (first | ((with_reducible refine gate_callee (f := 13) rfl ?_); refine goesL_ (some 7) rfl rfl Try.func13 (by kernel_rfl) rfl #[.int .u64 27, .int .u64 5] rfl (by (try simp only [List.map_toArray, List.map_cons, List.map_nil]); first | done | rfl | (simp only [List.length_drop, List.length_take]; rfl)) ?_; (with_reducible refine (poly_DivMod.calls k 27 5 t116 t117 t118 _ A1.out).mono ?_); rintro e w' ⟨rfl, ⟨nd, rfl⟩⟩; refine ⟨_, rfl, ?_⟩) | ((with_reducible refine gate_callee (f := 19) rfl ?_); refine goesL_ (some 12) rfl rfl Try.func19 (by kernel_rfl) rfl #[.int .u64 2, .int .u64 128, .int .u64 283] rfl (by (try simp only [List.map_toArray, List.map_cons, List.map_nil]); first | done | rfl | (simp only [List.length_drop, List.length_take]; rfl)) ?_; (with_reducible refine (poly_MulMod.calls k 2 128 283 t119 t120 _ A2.out).mono ?_); rintro e w' ⟨rfl, ⟨nd, rfl⟩⟩; refine ⟨_, rfl, ?_⟩) | (go_at_call 16; (with_reducible refine (poly_Degree.calls k 128 t121 _ A8.out).mono ?_); rintro e w' ⟨rfl, ⟨nd, rfl⟩⟩))
              go_ret
              exact ⟨by first | rfl | (simp; done) | (simp [*]; done), by repeat (first | exact Drawn0.refl _ | apply Drawn0.step)⟩
          · rw [if_neg c7] at H
            have c7b0 : (t120 == 0) = false := beq_eq_false_iff_ne.mpr c7
            have c7b1 : (t120 != 0) = true := bne_iff_ne.mpr c7
            obtain rfl := Option.some.inj H
            go_enter Try.func12, Try.ntmps12
            go_wp2_with (first | ((with_reducible refine gate_callee (f := 13) rfl ?_); refine goesL_ (some 7) rfl rfl Try.func13 (by kernel_rfl) rfl #[.int .u64 27, .int .u64 5] rfl (by (try simp only [List.map_toArray, List.map_cons, List.map_nil]); first | done | rfl | (simp only [List.length_drop, List.length_take]; rfl)) ?_; (with_reducible refine (poly_DivMod.calls k 27 5 t116 t117 t118 _ A1.out).mono ?_); rintro e w' ⟨rfl, ⟨nd, rfl⟩⟩; refine ⟨_, rfl, ?_⟩) | ((with_reducible refine gate_callee (f := 19) rfl ?_); refine goesL_ (some 12) rfl rfl Try.func19 (by kernel_rfl) rfl #[.int .u64 2, .int .u64 128, .int .u64 283] rfl (by (try simp only [List.map_toArray, List.map_cons, List.map_nil]); first | done | rfl | (simp only [List.length_drop, List.length_take]; rfl)) ?_; (with_reducible refine (poly_MulMod.calls k 2 128 283 t119 t120 _ A2.out).mono ?_); rintro e w' ⟨rfl, ⟨nd, rfl⟩⟩; refine ⟨_, rfl, ?_⟩))
            go_ret
            exact ⟨by first | rfl | (simp; done) | (simp [*]; done), by repeat (first | exact Drawn0.refl _ | apply Drawn0.step)⟩
        · rw [if_neg c6] at H
          have c6b0 : (t119 == 27) = false := beq_eq_false_iff_ne.mpr c6
          have c6b1 : (t119 != 27) = true := bne_iff_ne.mpr c6
          obtain rfl := Option.some.inj H
          go_enter Try.func12, Try.ntmps12
          go_wp2_with (first | ((with_reducible refine gate_callee (f := 13) rfl ?_); refine goesL_ (some 7) rfl rfl Try.func13 (by kernel_rfl) rfl #[.int .u64 27, .int .u64 5] rfl (by (try simp only [List.map_toArray, List.map_cons, List.map_nil]); first | done | rfl | (simp only [List.length_drop, List.length_take]; rfl)) ?_; (with_reducible refine (poly_DivMod.calls k 27 5 t116 t117 t118 _ A1.out).mono ?_); rintro e w' ⟨rfl, ⟨nd, rfl⟩⟩; refine ⟨_, rfl, ?_⟩) | ((with_reducible refine gate_callee (f := 19) rfl ?_); refine goesL_ (some 12) rfl rfl Try.func19 (by kernel_rfl) rfl #[.int .u64 2, .int .u64 128, .int .u64 283] rfl (by (try simp only [List.map_toArray, List.map_cons, List.map_nil]); first | done | rfl | (simp only [List.length_drop, List.length_take]; rfl)) ?_; (with_reducible refine (poly_MulMod.calls k 2 128 283 t119 t120 _ A2.out).mono ?_); rintro e w' ⟨rfl, ⟨nd, rfl⟩⟩; refine ⟨_, rfl, ?_⟩))
          go_ret
          exact ⟨by first | rfl | (simp; done) | (simp [*]; done), by repeat (first | exact Drawn0.refl _ | apply Drawn0.step)⟩
      · rw [if_neg c5] at H
        have c5b0 : (t118 == 0) = false := beq_eq_false_iff_ne.mpr c5
        have c5b1 : (t118 != 0) = true := bne_iff_ne.mpr c5
        obtain rfl := Option.some.inj H
        go_enter Try.func12, Try.ntmps12
        go_wp2_with (first | ((with_reducible refine gate_callee (f := 13) rfl ?_); refine goesL_ (some 7) rfl rfl Try.func13 (by kernel_rfl) rfl #[.int .u64 27, .int .u64 5] rfl (by (try simp only [List.map_toArray, List.map_cons, List.map_nil]); first | done | rfl | (simp only [List.length_drop, List.length_take]; rfl)) ?_; (with_reducible refine (poly_DivMod.calls k 27 5 t116 t117 t118 _ A1.out).mono ?_); rintro e w' ⟨rfl, ⟨nd, rfl⟩⟩; refine ⟨_, rfl, ?_⟩) | ((with_reducible refine gate_callee (f := 19) rfl ?_); refine goesL_ (some 12) rfl rfl Try.func19 (by kernel_rfl) rfl #[.int .u64 2, .int .u64 128, .int .u64 283] rfl (by (try simp only [List.map_toArray, List.map_cons, List.map_nil]); first | done | rfl | (simp only [List.length_drop, List.length_take]; rfl)) ?_; (with_reducible refine (poly_MulMod.calls k 2 128 283 t119 t120 _ A2.out).mono ?_); rintro e w' ⟨rfl, ⟨nd, rfl⟩⟩; refine ⟨_, rfl, ?_⟩))
        go_ret
        exact ⟨by first | rfl | (simp; done) | (simp [*]; done), by repeat (first | exact Drawn0.refl _ | apply Drawn0.step)⟩
    · rw [if_neg c4] at H
      have c4b0 : (t117 == 0) = false := beq_eq_false_iff_ne.mpr c4
      have c4b1 : (t117 != 0) = true := bne_iff_ne.mpr c4
      obtain rfl := Option.some.inj H
      go_enter Try.func12, Try.ntmps12
      go_wp2_with (first | ((with_reducible refine gate_callee (f := 13) rfl ?_); refine goesL_ (some 7) rfl rfl Try.func13 (by kernel_rfl) rfl #[.int .u64 27, .int .u64 5] rfl (by (try simp only [List.map_toArray, List.map_cons, List.map_nil]); first | done | rfl | (simp only [List.length_drop, List.length_take]; rfl)) ?_; (with_reducible refine (poly_DivMod.calls k 27 5 t116 t117 t118 _ A1.out).mono ?_); rintro e w' ⟨rfl, ⟨nd, rfl⟩⟩; refine ⟨_, rfl, ?_⟩) | ((with_reducible refine gate_callee (f := 19) rfl ?_); refine goesL_ (some 12) rfl rfl Try.func19 (by kernel_rfl) rfl #[.int .u64 2, .int .u64 128, .int .u64 283] rfl (by (try simp only [List.map_toArray, List.map_cons, List.map_nil]); first | done | rfl | (simp only [List.length_drop, List.length_take]; rfl)) ?_; (with_reducible refine (poly_MulMod.calls k 2 128 283 t119 t120 _ A2.out).mono ?_); rintro e w' ⟨rfl, ⟨nd, rfl⟩⟩; refine ⟨_, rfl, ?_⟩))
      go_ret
      exact ⟨by first | rfl | (simp; done) | (simp [*]; done), by repeat (first | exact Drawn0.refl _ | apply Drawn0.step)⟩
  · rw [if_neg c3] at H
    have c3b0 : (t116 == 7) = false := beq_eq_false_iff_ne.mpr c3
    have c3b1 : (t116 != 7) = true := bne_iff_ne.mpr c3
    obtain rfl := Option.some.inj H
    go_enter Try.func12, Try.ntmps12
    go_wp2_with (first | ((with_reducible refine gate_callee (f := 13) rfl ?_); refine goesL_ (some 7) rfl rfl Try.func13 (by kernel_rfl) rfl #[.int .u64 27, .int .u64 5] rfl (by (try simp only [List.map_toArray, List.map_cons, List.map_nil]); first | done | rfl | (simp only [List.length_drop, List.length_take]; rfl)) ?_; (with_reducible refine (poly_DivMod.calls k 27 5 t116 t117 t118 _ A1.out).mono ?_); rintro e w' ⟨rfl, ⟨nd, rfl⟩⟩; refine ⟨_, rfl, ?_⟩) | ((with_reducible refine gate_callee (f := 19) rfl ?_); refine goesL_ (some 12) rfl rfl Try.func19 (by kernel_rfl) rfl #[.int .u64 2, .int .u64 128, .int .u64 283] rfl (by (try simp only [List.map_toArray, List.map_cons, List.map_nil]); first | done | rfl | (simp only [List.length_drop, List.length_take]; rfl)) ?_; (with_reducible refine (poly_MulMod.calls k 2 128 283 t119 t120 _ A2.out).mono ?_); rintro e w' ⟨rfl, ⟨nd, rfl⟩⟩; refine ⟨_, rfl, ?_⟩))
    go_ret
    exact ⟨by first | rfl | (simp; done) | (simp [*]; done), by repeat (first | exact Drawn0.refl _ | apply Drawn0.step)⟩

/-! ### parapetref01_Degree: function 25 -/
def parapetref01_Degree.l0 : Nat → Int → Int → Int → Option (Int)
  | 0, _, _, _ => none
  | k + 1, x0, x3, x4 => if x4 < 64 then (if 0 ≤ x4 then (if (Go.bits .and .u64 (shr .u64 x0 x4) 1) = 0 then (parapetref01_Degree.l0 k x0 x3 (wrap64 (x4 + 1))) else (parapetref01_Degree.l0 k x0 x4 (wrap64 (x4 + 1)))) else (none)) else (some x3)
def parapetref01_Degree.f (k : Nat) (a0 : Int) : Option (Int) := parapetref01_Degree.l0 k a0 (-1) 0
theorem parapetref01_Degree.mono_l : ∀ k, (∀ y0 y1 y2, LeO (parapetref01_Degree.l0 k y0 y1 y2) (parapetref01_Degree.l0 (k + 1) y0 y1 y2))
  | 0 => fun _ _ _ r h => by simp [parapetref01_Degree.l0] at h
  | k + 1 => by
    have ih0 := parapetref01_Degree.mono_l k
    · intro y0 y1 y2
      unfold parapetref01_Degree.l0
      repeat' first
      | (with_reducible exact ih0 _ _ _)
      | (with_reducible exact LeO.refl _)
      | (with_reducible exact LeO.none _)
      | (with_reducible refine LeO.ite ?_ ?_)
      | (with_reducible refine LeO.bind ?_ (fun _ => ?_))
      | exact ih0 _ _ _
      | exact LeO.none _
      | refine LeO.ite ?_ ?_
      | refine LeO.bind ?_ (fun _ => ?_)
theorem parapetref01_Degree.mono : ∀ a0 k, LeO (parapetref01_Degree.f k a0) (parapetref01_Degree.f (k + 1) a0) := by
  intro a0 k
  have ih0 := parapetref01_Degree.mono_l k
  unfold parapetref01_Degree.f
  repeat' first
      | (with_reducible exact ih0 _ _ _)
      | (with_reducible exact LeO.refl _)
      | (with_reducible exact LeO.none _)
      | (with_reducible refine LeO.ite ?_ ?_)
      | (with_reducible refine LeO.bind ?_ (fun _ => ?_))
      | exact ih0 _ _ _
      | exact LeO.none _
      | refine LeO.ite ?_ ?_
      | refine LeO.bind ?_ (fun _ => ?_)
set_option maxHeartbeats 8000000 in
set_option maxRecDepth 100000 in
theorem parapetref01_Degree.calls (k : Nat) (a0 : Int) (r : Int) (w : World) (h : parapetref01_Degree.f k a0 = some r) :
    Calls Try.prog 25 #[.int .u64 a0] w fun e w' => e = .returned (.int .i64 r) ∧ Drawn0 w w' := by
  have H : (parapetref01_Degree.l0 k a0 (-1) 0) = some r := h
  clear h
  have H' := Aside0.mk H
  clear H
  go_enter Try.func25, Try.ntmps25
  go_wp2
  go_loopg [3, 4] k (fun kq v3 v4 w' => ∃ (x3_1 : Int) (x4_1 : Int), v3 = .int .i64 x3_1 ∧ v4 = .int .i64 x4_1 ∧ Aside0 (parapetref01_Degree.l0 kq a0 x3_1 x4_1 = some r) ∧ Aside0 (kq ≤ k) ∧ Drawn0 w w')
  case atStart => exact ⟨((-1)), (0), (by first | rfl | (simp; done) | (simp [*]; done)), (by first | rfl | (simp; done) | (simp [*]; done)), H', ⟨Nat.le_refl _⟩, by repeat (first | exact Drawn0.refl _ | apply Drawn0.step)⟩
  case round =>
    clear H'
    obtain ⟨x3_1, x4_1, rfl, rfl, HA, HK1, ⟨m1, rfl⟩⟩ := hrel
    cases gk with
    | zero => exact absurd HA.out (by simp [parapetref01_Degree.l0])
    | succ k1 =>
      have H := HA.out
      clear HA
      simp only [parapetref01_Degree.l0] at H
      by_cases c2 : x4_1 < 64
      · rw [if_pos c2] at H
        have c2b0 : decide (x4_1 < 64) = true := decide_eq_true c2
        clear c2
        by_cases c3 : 0 ≤ x4_1
        · rw [if_pos c3] at H
          have c3b0 := eq_true c3
          have c3b1 : decide (0 ≤ x4_1) = true := decide_eq_true c3
          clear c3
          obtain ⟨ji4, hji4⟩ : ∃ j_ : Int, (shr .u64 a0 x4_1) = j_ := ⟨_, rfl⟩
          replace H : (if (Go.bits .and .u64 (ji4) 1) = 0 then (parapetref01_Degree.l0 k1 a0 x3_1 (wrap64 (x4_1 + 1))) else (parapetref01_Degree.l0 k1 a0 x4_1 (wrap64 (x4_1 + 1)))) = some r := by first | (rw [hji4] at H; exact H) | (simp only [hji4] at H ⊢; exact H)
          have hji4_ : (a0 / 2 ^ min x4_1.toNat 64) = ji4 := hji4
          have hji4z : x4_1 ≤ 64 → (a0 / 2 ^ x4_1.toNat) = ji4 := shr_small hji4
          by_cases c5 : (Go.bits .and .u64 (ji4) 1) = 0
          · rw [if_pos c5] at H
            have c5b0 : ((Go.bits .and .u64 (ji4) 1) == 0) = true := beq_iff_eq.mpr c5
            have c5b1 : ((Go.bits .and .u64 (ji4) 1) != 0) = false := bne_eq_false_iff_eq.mpr c5
            clear c5
            have H' := Aside0.mk H
            clear H
            go_wp2
            go_roundg k1
            case measure => have := HK1.out; omega
            case rel => exact ⟨(x3_1), (wrap64 (x4_1 + 1)), (by first | rfl | (simp; done) | (simp [*]; done)), (by first | rfl | (simp; done) | (simp [*]; done)), H', ⟨by have := HK1.out; omega⟩, by repeat (first | exact Drawn0.refl _ | apply Drawn0.step)⟩
          · rw [if_neg c5] at H
            have c5b0 : ((Go.bits .and .u64 (ji4) 1) == 0) = false := beq_eq_false_iff_ne.mpr c5
            have c5b1 : ((Go.bits .and .u64 (ji4) 1) != 0) = true := bne_iff_ne.mpr c5
            have H' := Aside0.mk H
            clear H
            go_wp2
            go_roundg k1
            case measure => have := HK1.out; omega
            case rel => exact ⟨(x4_1), (wrap64 (x4_1 + 1)), (by first | rfl | (simp; done) | (simp [*]; done)), (by first | rfl | (simp; done) | (simp [*]; done)), H', ⟨by have := HK1.out; omega⟩, by repeat (first | exact Drawn0.refl _ | apply Drawn0.step)⟩
        · rw [if_neg c3] at H
          exact absurd H (by simp)
      · rw [if_neg c2] at H
        have c2b0 : decide (x4_1 < 64) = false := decide_eq_false c2
        clear c2
        obtain rfl := Option.some.inj H
        go_wp2
        go_ret
        exact ⟨by first | rfl | (simp; done) | (simp [*]; done), by repeat (first | exact Drawn0.refl _ | apply Drawn0.step)⟩

/-! ### parapetref01_DivMod: function 14 -/
def parapetref01_DivMod.l0 : Nat → Int → Int → Int → Int → Int → Option (Int × Int × Int)
  | 0, _, _, _, _, _ => none
  | k + 1, x0, x1, x7, x8, x9 => if x9 ≥ 0 then (if 0 ≤ (wrap64 (x9 + x7)) then (if (Go.bits .and .u64 (shr .u64 x0 (wrap64 (x9 + x7))) 1) = 0 then (parapetref01_DivMod.l0 k x0 x1 x7 x8 (wrap64 (x9 - 1))) else (if 0 ≤ x9 then (parapetref01_DivMod.l0 k (Go.bits .xor .u64 x0 (shl .u64 x1 x9)) x1 x7 (Go.bits .or .u64 x8 (shl .u64 1 x9)) (wrap64 (x9 - 1))) else (none))) else (none)) else (some (x8, x0, 0))
def parapetref01_DivMod.f (k : Nat) (a0 : Int) (a1 : Int) : Option (Int × Int × Int) := if a1 = 0 then (some (0, 0, 10)) else ((parapetref01_Degree.f k a1).bind fun t124 => (parapetref01_DivMod.l0 k a0 a1 t124 0 (wrap64 (63 - t124))))
theorem parapetref01_DivMod.mono_l : ∀ k, (∀ y0 y1 y2 y3 y4, LeO (parapetref01_DivMod.l0 k y0 y1 y2 y3 y4) (parapetref01_DivMod.l0 (k + 1) y0 y1 y2 y3 y4))
  | 0 => fun _ _ _ _ _ r h => by simp [parapetref01_DivMod.l0] at h
  | k + 1 => by
    have ih0 := parapetref01_DivMod.mono_l k
    · intro y0 y1 y2 y3 y4
      unfold parapetref01_DivMod.l0
      repeat' first
      | (with_reducible exact ih0 _ _ _ _ _)
      | (with_reducible exact parapetref01_Degree.mono _ _)
      | (with_reducible exact LeO.refl _)
      | (with_reducible exact LeO.none _)
      | (with_reducible refine LeO.ite ?_ ?_)
      | (with_reducible refine LeO.bind ?_ (fun _ => ?_))
      | exact ih0 _ _ _ _ _
      | exact parapetref01_Degree.mono _ _
      | exact LeO.none _
      | refine LeO.ite ?_ ?_
      | refine LeO.bind ?_ (fun _ => ?_)
theorem parapetref01_DivMod.mono : ∀ a0 a1 k, LeO (parapetref01_DivMod.f k a0 a1) (parapetref01_DivMod.f (k + 1) a0 a1) := by
  intro a0 a1 k
  have ih0 := parapetref01_DivMod.mono_l k
  unfold parapetref01_DivMod.f
  repeat' first
      | (with_reducible exact ih0 _ _ _ _ _)
      | (with_reducible exact parapetref01_Degree.mono _ _)
      | (with_reducible exact LeO.refl _)
      | (with_reducible exact LeO.none _)
      | (with_reducible refine LeO.ite ?_ ?_)
      | (with_reducible refine LeO.bind ?_ (fun _ => ?_))
      | exact ih0 _ _ _ _ _
      | exact parapetref01_Degree.mono _ _
      | exact LeO.none _
      | refine LeO.ite ?_ ?_
      | refine LeO.bind ?_ (fun _ => ?_)
set_option maxHeartbeats 8000000 in
set_option maxRecDepth 100000 in
theorem parapetref01_DivMod.calls (k : Nat) (a0 : Int) (a1 : Int) (r1 : Int) (r2 : Int) (r3 : Int) (w : World) (h : parapetref01_DivMod.f k a0 a1 = some (r1, r2, r3)) :
    Calls Try.prog 14 #[.int .u64 a0, .int .u64 a1] w fun e w' => e = .returned (.tuple #[.int .u64 r1, .int .u64 r2, .int .i64 r3]) ∧ Drawn0 w w' := by
  have H : (if a1 = 0 then (some (0, 0, 10)) else ((parapetref01_Degree.f k a1).bind fun t124 => (parapetref01_DivMod.l0 k a0 a1 t124 0 (wrap64 (63 - t124))))) = some (r1, r2, r3) := h
  clear h
  by_cases c3 : a1 = 0
  · rw [if_pos c3] at H
    have c3b0 : (a1 == 0) = true := beq_iff_eq.mpr c3
    have c3b1 : (a1 != 0) = false := bne_eq_false_iff_eq.mpr c3
    clear c3
    simp only [Option.some.injEq, Prod.mk.injEq] at H
    obtain ⟨rfl, rfl, rfl⟩ := H
    go_enter Try.func14, Try.ntmps14
    go_wp2
    go_ret3
    exact ⟨by first | rfl | (simp; done) | (simp [*]; done), by repeat (first | exact Drawn0.refl _ | apply Drawn0.step)⟩
  · rw [if_neg c3] at H
    have c3b0 : (a1 == 0) = false := beq_eq_false_iff_ne.mpr c3
    have c3b1 : (a1 != 0) = true := bne_iff_ne.mpr c3
    replace H := Option.bind_eq_some_iff.mp H
    obtain ⟨t124, A40, H⟩ := H
    replace H : (parapetref01_DivMod.l0 k a0 a1 t124 0 (wrap64 (63 - t124))) = some (r1, r2, r3) := H
    have A4 := Aside0.mk A40
    clear A40
    have H' := Aside0.mk H
    clear H
    go_enter Try.func14, Try.ntmps14
    go_wp2_with (first | ((with_reducible refine gate_callee (f := 25) rfl ?_); refine goesL_ (some 13) rfl rfl Try.func25 (by kernel_rfl) rfl #[.int .u64 a1] rfl (by (try simp only [List.map_toArray, List.map_cons, List.map_nil]); first | done | rfl | (simp only [List.length_drop, List.length_take]; rfl)) ?_; (with_reducible refine (parapetref01_Degree.calls k a1 t124 _ A4.out).mono ?_); rintro e w' ⟨rfl, ⟨nd, rfl⟩⟩; refine ⟨_, rfl, ?_⟩))
    go_loopg [0, 8, 9] k (fun kq v0 v8 v9 w' => ∃ (x0_1 : Int) (x8_1 : Int) (x9_1 : Int), v0 = .int .u64 x0_1 ∧ v8 = .int .u64 x8_1 ∧ v9 = .int .i64 x9_1 ∧ Aside0 (parapetref01_DivMod.l0 kq x0_1 a1 t124 x8_1 x9_1 = some (r1, r2, r3)) ∧ Aside0 (kq ≤ k) ∧ Drawn0 w w')
    case atStart => exact ⟨(a0), (0), (wrap64 (63 - t124)), (by first | rfl | (simp; done) | (simp [*]; done)), (by first | rfl | (simp; done) | (simp [*]; done)), (by first | rfl | (simp; done) | (simp [*]; done)), H', ⟨Nat.le_refl _⟩, by repeat (first | exact Drawn0.refl _ | apply Drawn0.step)⟩
    case round =>
      clear H'
      try clear c1
      try clear c2
      try clear p2
      try clear c3
      try clear c3b0
      try clear c3b1
      obtain ⟨x0_1, x8_1, x9_1, rfl, rfl, rfl, HA, HK1, ⟨m1, rfl⟩⟩ := hrel
      cases gk with
      | zero => exact absurd HA.out (by simp [parapetref01_DivMod.l0])
      | succ k1 =>
        have H := HA.out
        clear HA
        simp only [parapetref01_DivMod.l0] at H
        by_cases c5 : x9_1 ≥ 0
        · rw [if_pos c5] at H
          have c5b0 : decide (0 ≤ x9_1) = true := decide_eq_true c5
          clear c5
          obtain ⟨ji6, hji6⟩ : ∃ j_ : Int, (wrap64 (x9_1 + t124)) = j_ := ⟨_, rfl⟩
          replace H : (if 0 ≤ (ji6) then (if (Go.bits .and .u64 (shr .u64 x0_1 (ji6)) 1) = 0 then (parapetref01_DivMod.l0 k1 x0_1 a1 t124 x8_1 (wrap64 (x9_1 - 1))) else (if 0 ≤ x9_1 then (parapetref01_DivMod.l0 k1 (Go.bits .xor .u64 x0_1 (shl .u64 a1 x9_1)) a1 t124 (Go.bits .or .u64 x8_1 (shl .u64 1 x9_1)) (wrap64 (x9_1 - 1))) else (none))) else (none)) = some (r1, r2, r3) := by first | (rw [hji6] at H; exact H) | (simp only [hji6] at H ⊢; exact H)
          have hji6w : (IntKind.i64.wrap (x9_1 + t124)) = ji6 := (i64_w _).trans hji6
          by_cases c7 : 0 ≤ (ji6)
          · rw [if_pos c7] at H
            have c7b0 := eq_true c7
            have c7b1 : decide (0 ≤ (ji6)) = true := decide_eq_true c7
            clear c7
            obtain ⟨ji8, hji8⟩ : ∃ j_ : Int, (shr .u64 x0_1 (ji6)) = j_ := ⟨_, rfl⟩
            replace H : (if (Go.bits .and .u64 (ji8) 1) = 0 then (parapetref01_DivMod.l0 k1 x0_1 a1 t124 x8_1 (wrap64 (x9_1 - 1))) else (if 0 ≤ x9_1 then (parapetref01_DivMod.l0 k1 (Go.bits .xor .u64 x0_1 (shl .u64 a1 x9_1)) a1 t124 (Go.bits .or .u64 x8_1 (shl .u64 1 x9_1)) (wrap64 (x9_1 - 1))) else (none))) = some (r1, r2, r3) := by first | (rw [hji8] at H; exact H) | (simp only [hji8] at H ⊢; exact H)
            have hji8_ : (x0_1 / 2 ^ min (ji6).toNat 64) = ji8 := hji8
            have hji8z : (ji6) ≤ 64 → (x0_1 / 2 ^ (ji6).toNat) = ji8 := shr_small hji8
            by_cases c9 : (Go.bits .and .u64 (ji8) 1) = 0
            · rw [if_pos c9] at H
              have c9b0 : ((Go.bits .and .u64 (ji8) 1) == 0) = true := beq_iff_eq.mpr c9
              have c9b1 : ((Go.bits .and .u64 (ji8) 1) != 0) = false := bne_eq_false_iff_eq.mpr c9
              clear c9
              have H' := Aside0.mk H
              clear H
              go_wp2
              go_roundg k1
              case measure => have := HK1.out; omega
              case rel => exact ⟨(x0_1), (x8_1), (wrap64 (x9_1 - 1)), (by first | rfl | (simp; done) | (simp [*]; done)), (by first | rfl | (simp; done) | (simp [*]; done)), (by first | rfl | (simp; done) | (simp [*]; done)), H', ⟨by have := HK1.out; omega⟩, by repeat (first | exact Drawn0.refl _ | apply Drawn0.step)⟩
            · rw [if_neg c9] at H
              have c9b0 : ((Go.bits .and .u64 (ji8) 1) == 0) = false := beq_eq_false_iff_ne.mpr c9
              have c9b1 : ((Go.bits .and .u64 (ji8) 1) != 0) = true := bne_iff_ne.mpr c9
              by_cases c10 : 0 ≤ x9_1
              · rw [if_pos c10] at H
                have c10b0 := eq_true c10
                have c10b1 : decide (0 ≤ x9_1) = true := decide_eq_true c10
                clear c10
                obtain ⟨ji11, hji11⟩ : ∃ j_ : Int, (shl .u64 1 x9_1) = j_ := ⟨_, rfl⟩
                replace H : (parapetref01_DivMod.l0 k1 (Go.bits .xor .u64 x0_1 (shl .u64 a1 x9_1)) a1 t124 (Go.bits .or .u64 x8_1 (ji11)) (wrap64 (x9_1 - 1))) = some (r1, r2, r3) := by first | (rw [hji11] at H; exact H) | (simp only [hji11] at H ⊢; exact H)
                have hji11_ : (IntKind.u64.wrap (1 * 2 ^ min x9_1.toNat 64)) = ji11 := hji11
                have hji11z : x9_1 ≤ 64 → (IntKind.u64.wrap (1 * 2 ^ x9_1.toNat)) = ji11 := shl_small hji11
                have hji11u : (IntKind.u64.wrap (2 ^ min x9_1.toNat 64)) = ji11 := by have h_ := hji11_; rw [Int.one_mul] at h_; exact h_
                have hji11v : x9_1 ≤ 64 → (IntKind.u64.wrap (2 ^ x9_1.toNat)) = ji11 := fun hle_ => by have h_ := hji11z hle_; rw [Int.one_mul] at h_; exact h_
                have c12b0 := eq_true (of_decide_eq_true (by first | (with_reducible assumption) | assumption) : 0 ≤ x9_1)
                obtain ⟨ji13, hji13⟩ : ∃ j_ : Int, (shl .u64 a1 x9_1) = j_ := ⟨_, rfl⟩
                replace H : (parapetref01_DivMod.l0 k1 (Go.bits .xor .u64 x0_1 (ji13)) a1 t124 (Go.bits .or .u64 x8_1 (ji11)) (wrap64 (x9_1 - 1))) = some (r1, r2, r3) := by first | (rw [hji13] at H; exact H) | (simp only [hji13] at H ⊢; exact H)
                have hji13_ : (IntKind.u64.wrap (a1 * 2 ^ min x9_1.toNat 64)) = ji13 := hji13
                have hji13z : x9_1 ≤ 64 → (IntKind.u64.wrap (a1 * 2 ^ x9_1.toNat)) = ji13 := shl_small hji13
                have H' := Aside0.mk H
                clear H
                go_wp2
                go_roundg k1
                case measure => have := HK1.out; omega
                case rel => exact ⟨(Go.bits .xor .u64 x0_1 (ji13)), (Go.bits .or .u64 x8_1 (ji11)), (wrap64 (x9_1 - 1)), (by first | rfl | (simp; done) | (simp only [← hji13] <;> (first | rfl | simp)) | (simp [*]; done)), (by first | rfl | (simp; done) | (simp only [← hji11] <;> (first | rfl | simp)) | (simp [*]; done)), (by first | rfl | (simp; done) | (simp [*]; done)), H', ⟨by have := HK1.out; omega⟩, by repeat (first | exact Drawn0.refl _ | apply Drawn0.step)⟩
              · rw [if_neg c10] at H
                exact absurd H (by simp)
          · rw [if_neg c7] at H
            exact absurd H (by simp)
        · rw [if_neg c5] at H
          have c5b0 : decide (0 ≤ x9_1) = false := decide_eq_false c5
          clear c5
          simp only [Option.some.injEq, Prod.mk.injEq] at H
          obtain ⟨rfl, rfl, rfl⟩ := H
          go_wp2
          go_ret3
          exact ⟨by first | rfl | (simp; done) | (simp [*]; done), by repeat (first | exact Drawn0.refl _ | apply Drawn0.step)⟩

/-! ### parapetlaw01_PolyDivides: function 3 -/
def parapetlaw01_PolyDivides.f (k : Nat) (a0 : Int) (a1 : Int) : Option (Bool) := (parapetlaw01_Awake.f k).bind fun t125 => (if t125 = true then ((poly_DivMod.f k a0 a1).bind fun bt126 => ((parapetref01_DivMod.f k a0 a1).bind fun bt129 => (if bt126.1 = bt129.1 then (if bt126.2.1 = bt129.2.1 then (some (bt126.2.2 == bt129.2.2)) else (some false)) else (some false)))) else (some false))
theorem parapetlaw01_PolyDivides.mono : ∀ a0 a1 k, LeO (parapetlaw01_PolyDivides.f k a0 a1) (parapetlaw01_PolyDivides.f (k + 1) a0 a1) := by
  intro a0 a1 k
  unfold parapetlaw01_PolyDivides.f
  repeat' first
      | (with_reducible exact parapetlaw01_Awake.mono _)
      | (with_reducible exact parapetref01_DivMod.mono _ _ _)
      | (with_reducible exact poly_DivMod.mono _ _ _)
      | (with_reducible exact LeO.refl _)
      | (with_reducible exact LeO.none _)
      | (with_reducible refine LeO.ite ?_ ?_)
      | (with_reducible refine LeO.bind ?_ (fun _ => ?_))
      | exact parapetlaw01_Awake.mono _
      | exact parapetref01_DivMod.mono _ _ _
      | exact poly_DivMod.mono _ _ _
      | exact LeO.none _
      | refine LeO.ite ?_ ?_
      | refine LeO.bind ?_ (fun _ => ?_)
set_option maxHeartbeats 8000000 in
set_option maxRecDepth 100000 in
theorem parapetlaw01_PolyDivides.calls (k : Nat) (a0 : Int) (a1 : Int) (r : Bool) (w : World) (h : parapetlaw01_PolyDivides.f k a0 a1 = some r) :
    Calls Try.prog 3 #[.int .u64 a0, .int .u64 a1] w fun e w' => e = .returned (.bool r) ∧ Drawn0 w w' := by
  have H : ((parapetlaw01_Awake.f k).bind fun t125 => (if t125 = true then ((poly_DivMod.f k a0 a1).bind fun bt126 => ((parapetref01_DivMod.f k a0 a1).bind fun bt129 => (if bt126.1 = bt129.1 then (if bt126.2.1 = bt129.2.1 then (some (bt126.2.2 == bt129.2.2)) else (some false)) else (some false)))) else (some false))) = some r := h
  clear h
  replace H := Option.bind_eq_some_iff.mp H
  obtain ⟨t125, A30, H⟩ := H
  replace H : (if t125 = true then ((poly_DivMod.f k a0 a1).bind fun bt126 => ((parapetref01_DivMod.f k a0 a1).bind fun bt129 => (if bt126.1 = bt129.1 then (if bt126.2.1 = bt129.2.1 then (some (bt126.2.2 == bt129.2.2)) else (some false)) else (some false)))) else (some false)) = some r := H
  have A3 := Aside0.mk A30
  clear A30
  by_cases c4 : t125 = true
  · subst c4
    have H1 : ((poly_DivMod.f k a0 a1).bind fun bt126 => ((parapetref01_DivMod.f k a0 a1).bind fun bt129 => (if bt126.1 = bt129.1 then (if bt126.2.1 = bt129.2.1 then (some (bt126.2.2 == bt129.2.2)) else (some false)) else (some false)))) = some r := by rw [if_pos rfl] at H; exact H
    clear H
    have H := H1
    clear H1
    replace H := Option.bind_eq_some_iff.mp H
    obtain ⟨⟨t126, t127, t128⟩, A50, H⟩ := H
    replace H : ((parapetref01_DivMod.f k a0 a1).bind fun bt129 => (if t126 = bt129.1 then (if t127 = bt129.2.1 then (some (t128 == bt129.2.2)) else (some false)) else (some false))) = some r := H
    have A5 := Aside0.mk A50
    clear A50
    replace H := Option.bind_eq_some_iff.mp H
    obtain ⟨⟨t129, t130, t131⟩, A60, H⟩ := H
    replace H : (if t126 = t129 then (if t127 = t130 then (some (t128 == t131)) else (some false)) else (some false)) = some r := H
    have A6 := Aside0.mk A60
    clear A60
    by_cases c7 : t126 = t129
    · rw [if_pos c7] at H
      have c7b0 : (t126 == t129) = true := beq_iff_eq.mpr c7
      have c7b1 : (t126 != t129) = false := bne_eq_false_iff_eq.mpr c7
      clear c7
      by_cases c8 : t127 = t130
      · rw [if_pos c8] at H
        have c8b0 : (t127 == t130) = true := beq_iff_eq.mpr c8
        have c8b1 : (t127 != t130) = false := bne_eq_false_iff_eq.mpr c8
        clear c8
        obtain rfl := Option.some.inj H
        go_enter Try.func3, Try.ntmps3
        go_wp2_with (first | ((with_reducible refine gate_callee (f := 12) rfl ?_); refine goesL_ (some 11) rfl rfl Try.func12 (by kernel_rfl) rfl #[] rfl (by (try simp only [List.map_toArray, List.map_cons, List.map_nil]); first | done | rfl | (simp only [List.length_drop, List.length_take]; rfl)) ?_; (with_reducible refine (parapetlaw01_Awake.calls k  true _ A3.out).mono ?_); rintro e w' ⟨rfl, ⟨nd, rfl⟩⟩; refine ⟨_, rfl, ?_⟩) | ((with_reducible refine gate_callee (f := 13) rfl ?_); refine goesL_ (some 16) rfl rfl Try.func13 (by kernel_rfl) rfl #[.int .u64 a0, .int .u64 a1] rfl (by (try simp only [List.map_toArray, List.map_cons, List.map_nil]); first | done | rfl | (simp only [List.length_drop, List.length_take]; rfl)) ?_; (with_reducible refine (poly_DivMod.calls k a0 a1 t126 t127 t128 _ A5.out).mono ?_); rintro e w' ⟨rfl, ⟨nd, rfl⟩⟩; refine ⟨_, rfl, ?_⟩) | ((with_reducible refine gate_callee (f := 14) rfl ?_); refine goesL_ (some 23) rfl rfl Try.func14 (by kernel_rfl) rfl #[.int .u64 a0, .int .u64 a1] rfl (by (try simp only [List.map_toArray, List.map_cons, List.map_nil]); first | done | rfl | (simp only [List.length_drop, List.length_take]; rfl)) ?_; (with_reducible refine (parapetref01_DivMod.calls k a0 a1 t129 t130 t131 _ A6.out).mono ?_); rintro e w' ⟨rfl, ⟨nd, rfl⟩⟩; refine ⟨_, rfl, ?_⟩))
        go_ret
        exact ⟨by first | rfl | (simp; done) | (simp [*]; done), by repeat (first | exact Drawn0.refl _ | apply Drawn0.step)⟩
      · rw [if_neg c8] at H
        have c8b0 : (t127 == t130) = false := beq_eq_false_iff_ne.mpr c8
        have c8b1 : (t127 != t130) = true := bne_iff_ne.mpr c8
        obtain rfl := Option.some.inj H
        go_enter Try.func3, Try.ntmps3
        go_wp2_with (first | ((with_reducible refine gate_callee (f := 12) rfl ?_); refine goesL_ (some 11) rfl rfl Try.func12 (by kernel_rfl) rfl #[] rfl (by (try simp only [List.map_toArray, List.map_cons, List.map_nil]); first | done | rfl | (simp only [List.length_drop, List.length_take]; rfl)) ?_; (with_reducible refine (parapetlaw01_Awake.calls k  true _ A3.out).mono ?_); rintro e w' ⟨rfl, ⟨nd, rfl⟩⟩; refine ⟨_, rfl, ?_⟩) | ((with_reducible refine gate_callee (f := 13) rfl ?_); refine goesL_ (some 16) rfl rfl Try.func13 (by kernel_rfl) rfl #[.int .u64 a0, .int .u64 a1] rfl (by (try simp only [List.map_toArray, List.map_cons, List.map_nil]); first | done | rfl | (simp only [List.length_drop, List.length_take]; rfl)) ?_; (with_reducible refine (poly_DivMod.calls k a0 a1 t126 t127 t128 _ A5.out).mono ?_); rintro e w' ⟨rfl, ⟨nd, rfl⟩⟩; refine ⟨_, rfl, ?_⟩) | ((with_reducible refine gate_callee (f := 14) rfl ?_); refine goesL_ (some 23) rfl rfl Try.func14 (by kernel_rfl) rfl #[.int .u64 a0, .int .u64 a1] rfl (by (try simp only [List.map_toArray, List.map_cons, List.map_nil]); first | done | rfl | (simp only [List.length_drop, List.length_take]; rfl)) ?_; (with_reducible refine (parapetref01_DivMod.calls k a0 a1 t129 t130 t131 _ A6.out).mono ?_); rintro e w' ⟨rfl, ⟨nd, rfl⟩⟩; refine ⟨_, rfl, ?_⟩))
        go_ret
        exact ⟨by first | rfl | (simp; done) | (simp [*]; done), by repeat (first | exact Drawn0.refl _ | apply Drawn0.step)⟩
    · rw [if_neg c7] at H
      have c7b0 : (t126 == t129) = false := beq_eq_false_iff_ne.mpr c7
      have c7b1 : (t126 != t129) = true := bne_iff_ne.mpr c7
      obtain rfl := Option.some.inj H
      go_enter Try.func3, Try.ntmps3
      go_wp2_with (first | ((with_reducible refine gate_callee (f := 12) rfl ?_); refine goesL_ (some 11) rfl rfl Try.func12 (by kernel_rfl) rfl #[] rfl (by (try simp only [List.map_toArray, List.map_cons, List.map_nil]); first | done | rfl | (simp only [List.length_drop, List.length_take]; rfl)) ?_; (with_reducible refine (parapetlaw01_Awake.calls k  true _ A3.out).mono ?_); rintro e w' ⟨rfl, ⟨nd, rfl⟩⟩; refine ⟨_, rfl, ?_⟩) | ((with_reducible refine gate_callee (f := 13) rfl ?_); refine goesL_ (some 16) rfl rfl Try.func13 (by kernel_rfl) rfl #[.int .u64 a0, .int .u64 a1] rfl (by (try simp only [List.map_toArray, List.map_cons, List.map_nil]); first | done | rfl | (simp only [List.length_drop, List.length_take]; rfl)) ?_; (with_reducible refine (poly_DivMod.calls k a0 a1 t126 t127 t128 _ A5.out).mono ?_); rintro e w' ⟨rfl, ⟨nd, rfl⟩⟩; refine ⟨_, rfl, ?_⟩) | ((with_reducible refine gate_callee (f := 14) rfl ?_); refine goesL_ (some 23) rfl rfl Try.func14 (by kernel_rfl) rfl #[.int .u64 a0, .int .u64 a1] rfl (by (try simp only [List.map_toArray, List.map_cons, List.map_nil]); first | done | rfl | (simp only [List.length_drop, List.length_take]; rfl)) ?_; (with_reducible refine (parapetref01_DivMod.calls k a0 a1 t129 t130 t131 _ A6.out).mono ?_); rintro e w' ⟨rfl, ⟨nd, rfl⟩⟩; refine ⟨_, rfl, ?_⟩))
      go_ret
      exact ⟨by first | rfl | (simp; done) | (simp [*]; done), by repeat (first | exact Drawn0.refl _ | apply Drawn0.step)⟩
  · replace c4 := Bool.eq_false_iff.mpr c4
    subst c4
    have H1 : (some false) = some r := by rw [if_neg (show ¬ (false = true) by decide)] at H; exact H
    clear H
    have H := H1
    clear H1
    obtain rfl := Option.some.inj H
    go_enter Try.func3, Try.ntmps3
    go_wp2_with (first | ((with_reducible refine gate_callee (f := 12) rfl ?_); refine goesL_ (some 11) rfl rfl Try.func12 (by kernel_rfl) rfl #[] rfl (by (try simp only [List.map_toArray, List.map_cons, List.map_nil]); first | done | rfl | (simp only [List.length_drop, List.length_take]; rfl)) ?_; (with_reducible refine (parapetlaw01_Awake.calls k  false _ A3.out).mono ?_); rintro e w' ⟨rfl, ⟨nd, rfl⟩⟩; refine ⟨_, rfl, ?_⟩))
    go_ret
    exact ⟨by first | rfl | (simp; done) | (simp [*]; done), by repeat (first | exact Drawn0.refl _ | apply Drawn0.step)⟩

/-- THE ONE PURE STATEMENT of parapetlaw01_PolyDivides: yours. -/
def parapetlaw01_PolyDivides.Pure : Prop := ∀ (a0 : Int) (a1 : Int), (Lit.int .u64 a0).wf = true → (Lit.int .u64 a1).wf = true → ∃ k, parapetlaw01_PolyDivides.f k a0 a1 = some true
theorem parapetlaw01_PolyDivides.walk (P : parapetlaw01_PolyDivides.Pure) (a0 : Int) (a1 : Int) (w : World) (w0 : (Lit.int .u64 a0).wf = true) (w1 : (Lit.int .u64 a1).wf = true) :
    Calls Try.prog 3 #[.int .u64 a0, .int .u64 a1] w fun e w' => e = .returned (.bool true) ∧ Below w.heap.size w w' := by
  obtain ⟨k, h⟩ := P a0 a1 w0 w1
  refine (parapetlaw01_PolyDivides.calls k a0 a1 true w h).mono ?_
  rintro e w' ⟨rfl, hd⟩
  exact ⟨rfl, hd.below⟩

/-! ### parapetlaw01_product: function 15 -/
def parapetlaw01_product.l0 : Nat → Int → Int → Int → Bool → Int → Option (Int × Bool)
  | 0, _, _, _, _, _ => none
  | k + 1, x0, x1, x6, x7, x8 => if x8 < 64 then (if 0 ≤ x8 then (if (Go.bits .and .u64 (shr .u64 x1 x8) 1) = 0 then (parapetlaw01_product.l0 k x0 x1 x6 x7 (wrap64 (x8 + 1))) else (if x7 = true then (parapetlaw01_product.l0 k x0 x1 (Go.bits .xor .u64 x6 (shl .u64 x0 x8)) true (wrap64 (x8 + 1))) else (parapetlaw01_product.l0 k x0 x1 (Go.bits .xor .u64 x6 (shl .u64 x0 x8)) ((shr .u64 (shl .u64 x0 x8) x8) != x0) (wrap64 (x8 + 1))))) else (none)) else (some (x6, x7))
def parapetlaw01_product.f (k : Nat) (a0 : Int) (a1 : Int) : Option (Int × Bool) := parapetlaw01_product.l0 k a0 a1 0 false 0
theorem parapetlaw01_product.mono_l : ∀ k, (∀ y0 y1 y2 y3 y4, LeO (parapetlaw01_product.l0 k y0 y1 y2 y3 y4) (parapetlaw01_product.l0 (k + 1) y0 y1 y2 y3 y4))
  | 0 => fun _ _ _ _ _ r h => by simp [parapetlaw01_product.l0] at h
  | k + 1 => by
    have ih0 := parapetlaw01_product.mono_l k
    · intro y0 y1 y2 y3 y4
      unfold parapetlaw01_product.l0
      repeat' first
      | (with_reducible exact ih0 _ _ _ _ _)
      | (with_reducible exact LeO.refl _)
      | (with_reducible exact LeO.none _)
      | (with_reducible refine LeO.ite ?_ ?_)
      | (with_reducible refine LeO.bind ?_ (fun _ => ?_))
      | exact ih0 _ _ _ _ _
      | exact LeO.none _
      | refine LeO.ite ?_ ?_
      | refine LeO.bind ?_ (fun _ => ?_)
theorem parapetlaw01_product.mono : ∀ a0 a1 k, LeO (parapetlaw01_product.f k a0 a1) (parapetlaw01_product.f (k + 1) a0 a1) := by
  intro a0 a1 k
  have ih0 := parapetlaw01_product.mono_l k
  unfold parapetlaw01_product.f
  repeat' first
      | (with_reducible exact ih0 _ _ _ _ _)
      | (with_reducible exact LeO.refl _)
      | (with_reducible exact LeO.none _)
      | (with_reducible refine LeO.ite ?_ ?_)
      | (with_reducible refine LeO.bind ?_ (fun _ => ?_))
      | exact ih0 _ _ _ _ _
      | exact LeO.none _
      | refine LeO.ite ?_ ?_
      | refine LeO.bind ?_ (fun _ => ?_)
set_option maxHeartbeats 8000000 in
set_option maxRecDepth 100000 in
theorem parapetlaw01_product.calls (k : Nat) (a0 : Int) (a1 : Int) (r1 : Int) (r2 : Bool) (w : World) (h : parapetlaw01_product.f k a0 a1 = some (r1, r2)) :
    Calls Try.prog 15 #[.int .u64 a0, .int .u64 a1] w fun e w' => e = .returned (.tuple #[.int .u64 r1, .bool r2]) ∧ Drawn0 w w' := by
  have H : (parapetlaw01_product.l0 k a0 a1 0 false 0) = some (r1, r2) := h
  clear h
  have H' := Aside0.mk H
  clear H
  go_enter Try.func15, Try.ntmps15
  go_wp2
  go_loopg [6, 7, 8] k (fun kq v6 v7 v8 w' => ∃ (x6_1 : Int) (x7_1 : Bool) (x8_1 : Int), v6 = .int .u64 x6_1 ∧ v7 = .bool x7_1 ∧ v8 = .int .i64 x8_1 ∧ Aside0 (parapetlaw01_product.l0 kq a0 a1 x6_1 x7_1 x8_1 = some (r1, r2)) ∧ Aside0 (kq ≤ k) ∧ Drawn0 w w')
  case atStart => exact ⟨(0), (false), (0), (by first | rfl | (simp; done) | (simp [*]; done)), (by first | rfl | (simp; done) | (simp [*]; done)), (by first | rfl | (simp; done) | (simp [*]; done)), H', ⟨Nat.le_refl _⟩, by repeat (first | exact Drawn0.refl _ | apply Drawn0.step)⟩
  case round =>
    clear H'
    try clear c1
    try clear p2
    obtain ⟨x6_1, x7_1, x8_1, rfl, rfl, rfl, HA, HK1, ⟨m1, rfl⟩⟩ := hrel
    cases gk with
    | zero => exact absurd HA.out (by simp [parapetlaw01_product.l0])
    | succ k1 =>
      have H := HA.out
      clear HA
      simp only [parapetlaw01_product.l0] at H
      by_cases c3 : x8_1 < 64
      · rw [if_pos c3] at H
        have c3b0 : decide (x8_1 < 64) = true := decide_eq_true c3
        clear c3
        by_cases c4 : 0 ≤ x8_1
        · rw [if_pos c4] at H
          have c4b0 := eq_true c4
          have c4b1 : decide (0 ≤ x8_1) = true := decide_eq_true c4
          clear c4
          obtain ⟨ji5, hji5⟩ : ∃ j_ : Int, (shr .u64 a1 x8_1) = j_ := ⟨_, rfl⟩
          replace H : (if (Go.bits .and .u64 (ji5) 1) = 0 then (parapetlaw01_product.l0 k1 a0 a1 x6_1 x7_1 (wrap64 (x8_1 + 1))) else (if x7_1 = true then (parapetlaw01_product.l0 k1 a0 a1 (Go.bits .xor .u64 x6_1 (shl .u64 a0 x8_1)) true (wrap64 (x8_1 + 1))) else (parapetlaw01_product.l0 k1 a0 a1 (Go.bits .xor .u64 x6_1 (shl .u64 a0 x8_1)) ((shr .u64 (shl .u64 a0 x8_1) x8_1) != a0) (wrap64 (x8_1 + 1))))) = some (r1, r2) := by first | (rw [hji5] at H; exact H) | (simp only [hji5] at H ⊢; exact H)
          have hji5_ : (a1 / 2 ^ min x8_1.toNat 64) = ji5 := hji5
          have hji5z : x8_1 ≤ 64 → (a1 / 2 ^ x8_1.toNat) = ji5 := shr_small hji5
          by_cases c6 : (Go.bits .and .u64 (ji5) 1) = 0
          · rw [if_pos c6] at H
            have c6b0 : ((Go.bits .and .u64 (ji5) 1) == 0) = true := beq_iff_eq.mpr c6
            have c6b1 : ((Go.bits .and .u64 (ji5) 1) != 0) = false := bne_eq_false_iff_eq.mpr c6
            clear c6
            have H' := Aside0.mk H
            clear H
            go_wp2
            go_roundg k1
            case measure => have := HK1.out; omega
            case rel => exact ⟨(x6_1), (x7_1), (wrap64 (x8_1 + 1)), (by first | rfl | (simp; done) | (simp [*]; done)), (by first | rfl | (simp; done) | (simp [*]; done)), (by first | rfl | (simp; done) | (simp [*]; done)), H', ⟨by have := HK1.out; omega⟩, by repeat (first | exact Drawn0.refl _ | apply Drawn0.step)⟩
          · rw [if_neg c6] at H
            have c6b0 : ((Go.bits .and .u64 (ji5) 1) == 0) = false := beq_eq_false_iff_ne.mpr c6
            have c6b1 : ((Go.bits .and .u64 (ji5) 1) != 0) = true := bne_iff_ne.mpr c6
            have c7b0 := eq_true (of_decide_eq_true (by first | (with_reducible assumption) | assumption) : 0 ≤ x8_1)
            obtain ⟨ji8, hji8⟩ : ∃ j_ : Int, (shl .u64 a0 x8_1) = j_ := ⟨_, rfl⟩
            replace H : (if x7_1 = true then (parapetlaw01_product.l0 k1 a0 a1 (Go.bits .xor .u64 x6_1 (ji8)) true (wrap64 (x8_1 + 1))) else (parapetlaw01_product.l0 k1 a0 a1 (Go.bits .xor .u64 x6_1 (ji8)) ((shr .u64 (ji8) x8_1) != a0) (wrap64 (x8_1 + 1)))) = some (r1, r2) := by first | (rw [hji8] at H; exact H) | (simp only [hji8] at H ⊢; exact H)
            have hji8_ : (IntKind.u64.wrap (a0 * 2 ^ min x8_1.toNat 64)) = ji8 := hji8
            have hji8z : x8_1 ≤ 64 → (IntKind.u64.wrap (a0 * 2 ^ x8_1.toNat)) = ji8 := shl_small hji8
            by_cases c9 : x7_1 = true
            · subst c9
              have H1 : (parapetlaw01_product.l0 k1 a0 a1 (Go.bits .xor .u64 x6_1 (ji8)) true (wrap64 (x8_1 + 1))) = some (r1, r2) := by rw [if_pos rfl] at H; exact H
              clear H
              have H := H1
              clear H1
              have H' := Aside0.mk H
              clear H
              go_wp2
              go_roundg k1
              case measure => have := HK1.out; omega
              case rel => exact ⟨(Go.bits .xor .u64 x6_1 (ji8)), (true), (wrap64 (x8_1 + 1)), (by first | rfl | (simp; done) | (simp only [← hji8] <;> (first | rfl | simp)) | (simp [*]; done)), (by first | rfl | (simp; done) | (simp [*]; done)), (by first | rfl | (simp; done) | (simp [*]; done)), H', ⟨by have := HK1.out; omega⟩, by repeat (first | exact Drawn0.refl _ | apply Drawn0.step)⟩
            · replace c9 := Bool.eq_false_iff.mpr c9
              subst c9
              have H1 : (parapetlaw01_product.l0 k1 a0 a1 (Go.bits .xor .u64 x6_1 (ji8)) ((shr .u64 (ji8) x8_1) != a0) (wrap64 (x8_1 + 1))) = some (r1, r2) := by rw [if_neg (show ¬ (false = true) by decide)] at H; exact H
              clear H
              have H := H1
              clear H1
              have c10b0 := eq_true (of_decide_eq_true (by first | (with_reducible assumption) | assumption) : 0 ≤ x8_1)
              have c11b0 := eq_true (of_decide_eq_true (by first | (with_reducible assumption) | assumption) : 0 ≤ x8_1)
              obtain ⟨ji12, hji12⟩ : ∃ j_ : Int, (shr .u64 (ji8) x8_1) = j_ := ⟨_, rfl⟩
              replace H : (parapetlaw01_product.l0 k1 a0 a1 (Go.bits .xor .u64 x6_1 (ji8)) ((ji12) != a0) (wrap64 (x8_1 + 1))) = some (r1, r2) := by first | (rw [hji12] at H; exact H) | (simp only [hji12] at H ⊢; exact H)
              have hji12_ : ((ji8) / 2 ^ min x8_1.toNat 64) = ji12 := hji12
              have hji12z : x8_1 ≤ 64 → ((ji8) / 2 ^ x8_1.toNat) = ji12 := shr_small hji12
              have H' := Aside0.mk H
              clear H
              go_wp2
              go_roundg k1
              case measure => have := HK1.out; omega
              case rel => exact ⟨(Go.bits .xor .u64 x6_1 (ji8)), (((ji12) != a0)), (wrap64 (x8_1 + 1)), (by first | rfl | (simp; done) | (simp only [← hji8] <;> (first | rfl | simp)) | (simp [*]; done)), (by first | rfl | (simp; done) | (simp only [← hji12] <;> (first | rfl | simp)) | (simp [*]; done)), (by first | rfl | (simp; done) | (simp [*]; done)), H', ⟨by have := HK1.out; omega⟩, by repeat (first | exact Drawn0.refl _ | apply Drawn0.step)⟩
        · rw [if_neg c4] at H
          exact absurd H (by simp)
      · rw [if_neg c3] at H
        have c3b0 : decide (x8_1 < 64) = false := decide_eq_false c3
        clear c3
        simp only [Option.some.injEq, Prod.mk.injEq] at H
        obtain ⟨rfl, rfl⟩ := H
        go_wp2
        go_ret2
        exact ⟨by first | rfl | (simp; done) | (simp [*]; done), by repeat (first | exact Drawn0.refl _ | apply Drawn0.step)⟩

/-! ### parapetlaw01_PolyRest: function 4 -/
def parapetlaw01_PolyRest.f (k : Nat) (a0 : Int) (a1 : Int) : Option (Bool) := (parapetlaw01_Awake.f k).bind fun t132 => (if t132 = true then ((poly_DivMod.f k a0 a1).bind fun bt133 => (if a1 = 0 then (if bt133.2.2 = 10 then (if bt133.1 = 0 then (some (bt133.2.1 == 0)) else (some false)) else (some false)) else ((parapetlaw01_product.f k bt133.1 a1).bind fun bt136 => (if bt133.2.2 = 0 then (if bt136.2 = true then (some false) else (if (Go.bits .xor .u64 bt136.1 bt133.2.1) = a0 then ((poly_Degree.f k bt133.2.1).bind fun t138 => ((poly_Degree.f k a1).bind fun t139 => (some (decide (t138 < t139))))) else (some false))) else (some false))))) else (some false))
theorem parapetlaw01_PolyRest.mono : ∀ a0 a1 k, LeO (parapetlaw01_PolyRest.f k a0 a1) (parapetlaw01_PolyRest.f (k + 1) a0 a1) := by
  intro a0 a1 k
  unfold parapetlaw01_PolyRest.f
  repeat' first
      | (with_reducible exact parapetlaw01_Awake.mono _)
      | (with_reducible exact parapetlaw01_product.mono _ _ _)
      | (with_reducible exact poly_Degree.mono _ _)
      | (with_reducible exact poly_DivMod.mono _ _ _)
      | (with_reducible exact LeO.refl _)
      | (with_reducible exact LeO.none _)
      | (with_reducible refine LeO.ite ?_ ?_)
      | (with_reducible refine LeO.bind ?_ (fun _ => ?_))
      | exact parapetlaw01_Awake.mono _
      | exact parapetlaw01_product.mono _ _ _
      | exact poly_Degree.mono _ _
      | exact poly_DivMod.mono _ _ _
      | exact LeO.none _
      | refine LeO.ite ?_ ?_
      | refine LeO.bind ?_ (fun _ => ?_)
set_option maxHeartbeats 8000000 in
set_option maxRecDepth 100000 in
theorem parapetlaw01_PolyRest.calls (k : Nat) (a0 : Int) (a1 : Int) (r : Bool) (w : World) (h : parapetlaw01_PolyRest.f k a0 a1 = some r) :
    Calls Try.prog 4 #[.int .u64 a0, .int .u64 a1] w fun e w' => e = .returned (.bool r) ∧ Drawn0 w w' := by
  have H : ((parapetlaw01_Awake.f k).bind fun t132 => (if t132 = true then ((poly_DivMod.f k a0 a1).bind fun bt133 => (if a1 = 0 then (if bt133.2.2 = 10 then (if bt133.1 = 0 then (some (bt133.2.1 == 0)) else (some false)) else (some false)) else ((parapetlaw01_product.f k bt133.1 a1).bind fun bt136 => (if bt133.2.2 = 0 then (if bt136.2 = true then (some false) else (if (Go.bits .xor .u64 bt136.1 bt133.2.1) = a0 then ((poly_Degree.f k bt133.2.1).bind fun t138 => ((poly_Degree.f k a1).bind fun t139 => (some (decide (t138 < t139))))) else (some false))) else (some false))))) else (some false))) = some r := h
  clear h
  replace H := Option.bind_eq_some_iff.mp H
  obtain ⟨t132, A30, H⟩ := H
  replace H : (if t132 = true then ((poly_DivMod.f k a0 a1).bind fun bt133 => (if a1 = 0 then (if bt133.2.2 = 10 then (if bt133.1 = 0 then (some (bt133.2.1 == 0)) else (some false)) else (some false)) else ((parapetlaw01_product.f k bt133.1 a1).bind fun bt136 => (if bt133.2.2 = 0 then (if bt136.2 = true then (some false) else (if (Go.bits .xor .u64 bt136.1 bt133.2.1) = a0 then ((poly_Degree.f k bt133.2.1).bind fun t138 => ((poly_Degree.f k a1).bind fun t139 => (some (decide (t138 < t139))))) else (some false))) else (some false))))) else (some false)) = some r := H
  have A3 := Aside0.mk A30
  clear A30
  by_cases c4 : t132 = true
  · subst c4
    have H1 : ((poly_DivMod.f k a0 a1).bind fun bt133 => (if a1 = 0 then (if bt133.2.2 = 10 then (if bt133.1 = 0 then (some (bt133.2.1 == 0)) else (some false)) else (some false)) else ((parapetlaw01_product.f k bt133.1 a1).bind fun bt136 => (if bt133.2.2 = 0 then (if bt136.2 = true then (some false) else (if (Go.bits .xor .u64 bt136.1 bt133.2.1) = a0 then ((poly_Degree.f k bt133.2.1).bind fun t138 => ((poly_Degree.f k a1).bind fun t139 => (some (decide (t138 < t139))))) else (some false))) else (some false))))) = some r := by rw [if_pos rfl] at H; exact H
    clear H
    have H := H1
    clear H1
    replace H := Option.bind_eq_some_iff.mp H
    obtain ⟨⟨t133, t134, t135⟩, A50, H⟩ := H
    replace H : (if a1 = 0 then (if t135 = 10 then (if t133 = 0 then (some (t134 == 0)) else (some false)) else (some false)) else ((parapetlaw01_product.f k t133 a1).bind fun bt136 => (if t135 = 0 then (if bt136.2 = true then (some false) else (if (Go.bits .xor .u64 bt136.1 t134) = a0 then ((poly_Degree.f k t134).bind fun t138 => ((poly_Degree.f k a1).bind fun t139 => (some (decide (t138 < t139))))) else (some false))) else (some false)))) = some r := H
    have A5 := Aside0.mk A50
    clear A50
    by_cases c6 : a1 = 0
    · rw [if_pos c6] at H
      have c6b0 : (a1 == 0) = true := beq_iff_eq.mpr c6
      have c6b1 : (a1 != 0) = false := bne_eq_false_iff_eq.mpr c6
      clear c6
      by_cases c7 : t135 = 10
      · rw [if_pos c7] at H
        have c7b0 : (t135 == 10) = true := beq_iff_eq.mpr c7
        have c7b1 : (t135 != 10) = false := bne_eq_false_iff_eq.mpr c7
        clear c7
        by_cases c8 : t133 = 0
        · rw [if_pos c8] at H
          have c8b0 : (t133 == 0) = true := beq_iff_eq.mpr c8
          have c8b1 : (t133 != 0) = false := bne_eq_false_iff_eq.mpr c8
          clear c8
          obtain rfl := Option.some.inj H
          go_enter Try.func4, Try.ntmps4
          go_wp2_with (first | ((with_reducible refine gate_callee (f := 12) rfl ?_); refine goesL_ (some 10) rfl rfl Try.func12 (by kernel_rfl) rfl #[] rfl (by (try simp only [List.map_toArray, List.map_cons, List.map_nil]); first | done | rfl | (simp only [List.length_drop, List.length_take]; rfl)) ?_; (with_reducible refine (parapetlaw01_Awake.calls k  true _ A3.out).mono ?_); rintro e w' ⟨rfl, ⟨nd, rfl⟩⟩; refine ⟨_, rfl, ?_⟩) | ((with_reducible refine gate_callee (f := 13) rfl ?_); refine goesL_ (some 15) rfl rfl Try.func13 (by kernel_rfl) rfl #[.int .u64 a0, .int .u64 a1] rfl (by (try simp only [List.map_toArray, List.map_cons, List.map_nil]); first | done | rfl | (simp only [List.length_drop, List.length_take]; rfl)) ?_; (with_reducible refine (poly_DivMod.calls k a0 a1 t133 t134 t135 _ A5.out).mono ?_); rintro e w' ⟨rfl, ⟨nd, rfl⟩⟩; refine ⟨_, rfl, ?_⟩))
          go_ret
          exact ⟨by first | rfl | (simp; done) | (simp [*]; done), by repeat (first | exact Drawn0.refl _ | apply Drawn0.step)⟩
        · rw [if_neg c8] at H
          have c8b0 : (t133 == 0) = false := beq_eq_false_iff_ne.mpr c8
          have c8b1 : (t133 != 0) = true := bne_iff_ne.mpr c8
          obtain rfl := Option.some.inj H
          go_enter Try.func4, Try.ntmps4
          go_wp2_with (first | ((with_reducible refine gate_callee (f := 12) rfl ?_); refine goesL_ (some 10) rfl rfl Try.func12 (by kernel_rfl) rfl #[] rfl (by (try simp only [List.map_toArray, List.map_cons, List.map_nil]); first | done | rfl | (simp only [List.length_drop, List.length_take]; rfl)) ?_; (with_reducible refine (parapetlaw01_Awake.calls k  true _ A3.out).mono ?_); rintro e w' ⟨rfl, ⟨nd, rfl⟩⟩; refine ⟨_, rfl, ?_⟩) | ((with_reducible refine gate_callee (f := 13) rfl ?_); refine goesL_ (some 15) rfl rfl Try.func13 (by kernel_rfl) rfl #[.int .u64 a0, .int .u64 a1] rfl (by (try simp only [List.map_toArray, List.map_cons, List.map_nil]); first | done | rfl | (simp only [List.length_drop, List.length_take]; rfl)) ?_; (with_reducible refine (poly_DivMod.calls k a0 a1 t133 t134 t135 _ A5.out).mono ?_); rintro e w' ⟨rfl, ⟨nd, rfl⟩⟩; refine ⟨_, rfl, ?_⟩))
          go_ret
          exact ⟨by first | rfl | (simp; done) | (simp [*]; done), by repeat (first | exact Drawn0.refl _ | apply Drawn0.step)⟩
      · rw [if_neg c7] at H
        have c7b0 : (t135 == 10) = false := beq_eq_false_iff_ne.mpr c7
        have c7b1 : (t135 != 10) = true := bne_iff_ne.mpr c7
        obtain rfl := Option.some.inj H
        go_enter Try.func4, Try.ntmps4
        go_wp2_with (first | ((with_reducible refine gate_callee (f := 12) rfl ?_); refine goesL_ (some 10) rfl rfl Try.func12 (by kernel_rfl) rfl #[] rfl (by (try simp only [List.map_toArray, List.map_cons, List.map_nil]); first | done | rfl | (simp only [List.length_drop, List.length_take]; rfl)) ?_; (with_reducible refine (parapetlaw01_Awake.calls k  true _ A3.out).mono ?_); rintro e w' ⟨rfl, ⟨nd, rfl⟩⟩; refine ⟨_, rfl, ?_⟩) | ((with_reducible refine gate_callee (f := 13) rfl ?_); refine goesL_ (some 15) rfl rfl Try.func13 (by kernel_rfl) rfl #[.int .u64 a0, .int .u64 a1] rfl (by (try simp only [List.map_toArray, List.map_cons, List.map_nil]); first | done | rfl | (simp only [List.length_drop, List.length_take]; rfl)) ?_; (with_reducible refine (poly_DivMod.calls k a0 a1 t133 t134 t135 _ A5.out).mono ?_); rintro e w' ⟨rfl, ⟨nd, rfl⟩⟩; refine ⟨_, rfl, ?_⟩))
        go_ret
        exact ⟨by first | rfl | (simp; done) | (simp [*]; done), by repeat (first | exact Drawn0.refl _ | apply Drawn0.step)⟩
    · rw [if_neg c6] at H
      have c6b0 : (a1 == 0) = false := beq_eq_false_iff_ne.mpr c6
      have c6b1 : (a1 != 0) = true := bne_iff_ne.mpr c6
      replace H := Option.bind_eq_some_iff.mp H
      obtain ⟨⟨t136, t137⟩, A90, H⟩ := H
      replace H : (if t135 = 0 then (if t137 = true then (some false) else (if (Go.bits .xor .u64 t136 t134) = a0 then ((poly_Degree.f k t134).bind fun t138 => ((poly_Degree.f k a1).bind fun t139 => (some (decide (t138 < t139))))) else (some false))) else (some false)) = some r := H
      have A9 := Aside0.mk A90
      clear A90
      by_cases c10 : t135 = 0
      · rw [if_pos c10] at H
        have c10b0 : (t135 == 0) = true := beq_iff_eq.mpr c10
        have c10b1 : (t135 != 0) = false := bne_eq_false_iff_eq.mpr c10
        clear c10
        by_cases c11 : t137 = true
        · subst c11
          have H1 : (some false) = some r := by rw [if_pos rfl] at H; exact H
          clear H
          have H := H1
          clear H1
          obtain rfl := Option.some.inj H
          go_enter Try.func4, Try.ntmps4
          go_wp2_with (first | ((with_reducible refine gate_callee (f := 12) rfl ?_); refine goesL_ (some 10) rfl rfl Try.func12 (by kernel_rfl) rfl #[] rfl (by (try simp only [List.map_toArray, List.map_cons, List.map_nil]); first | done | rfl | (simp only [List.length_drop, List.length_take]; rfl)) ?_; (with_reducible refine (parapetlaw01_Awake.calls k  true _ A3.out).mono ?_); rintro e w' ⟨rfl, ⟨nd, rfl⟩⟩; refine ⟨_, rfl, ?_⟩) | ((with_reducible refine gate_callee (f := 13) rfl ?_); refine goesL_ (some 15) rfl rfl Try.func13 (by kernel_rfl) rfl #[.int .u64 a0, .int .u64 a1] rfl (by (try simp only [List.map_toArray, List.map_cons, List.map_nil]); first | done | rfl | (simp only [List.length_drop, List.length_take]; rfl)) ?_; (with_reducible refine (poly_DivMod.calls k a0 a1 t133 t134 t135 _ A5.out).mono ?_); rintro e w' ⟨rfl, ⟨nd, rfl⟩⟩; refine ⟨_, rfl, ?_⟩) | ((with_reducible refine gate_callee (f := 15) rfl ?_); refine goesL_ (some 34) rfl rfl Try.func15 (by kernel_rfl) rfl #[.int .u64 t133, .int .u64 a1] rfl (by (try simp only [List.map_toArray, List.map_cons, List.map_nil]); first | done | rfl | (simp only [List.length_drop, List.length_take]; rfl)) ?_; (with_reducible refine (parapetlaw01_product.calls k t133 a1 t136 true _ A9.out).mono ?_); rintro e w' ⟨rfl, ⟨nd, rfl⟩⟩; refine ⟨_, rfl, ?_⟩))
          go_ret
          exact ⟨by first | rfl | (simp; done) | (simp [*]; done), by repeat (first | exact Drawn0.refl _ | apply Drawn0.step)⟩
        · replace c11 := Bool.eq_false_iff.mpr c11
          subst c11
          have H1 : (if (Go.bits .xor .u64 t136 t134) = a0 then ((poly_Degree.f k t134).bind fun t138 => ((poly_Degree.f k a1).bind fun t139 => (some (decide (t138 < t139))))) else (some false)) = some r := by rw [if_neg (show ¬ (false = true) by decide)] at H; exact H
          clear H
          have H := H1
          clear H1
          by_cases c12 : (Go.bits .xor .u64 t136 t134) = a0
          · rw [if_pos c12] at H
            have c12b0 : ((Go.bits .xor .u64 t136 t134) == a0) = true := beq_iff_eq.mpr c12
            have c12b1 : ((Go.bits .xor .u64 t136 t134) != a0) = false := bne_eq_false_iff_eq.mpr c12
            clear c12
            replace H := Option.bind_eq_some_iff.mp H
            obtain ⟨t138, A130, H⟩ := H
            replace H : ((poly_Degree.f k a1).bind fun t139 => (some (decide (t138 < t139)))) = some r := H
            have A13 := Aside0.mk A130
            clear A130
            replace H := Option.bind_eq_some_iff.mp H
            obtain ⟨t139, A140, H⟩ := H
            replace H : (some (decide (t138 < t139))) = some r := H
            have A14 := Aside0.mk A140
            clear A140
            obtain rfl := Option.some.inj H
            go_enter Try.func4, Try.ntmps4
            go_wp2_with (first | ((with_reducible refine gate_callee (f := 12) rfl ?_); refine goesL_ (some 10) rfl rfl Try.func12 (by kernel_rfl) rfl #[] rfl (by (try simp only [List.map_toArray, List.map_cons, List.map_nil]); first | done | rfl | (simp only [List.length_drop, List.length_take]; rfl)) ?_; (with_reducible refine (parapetlaw01_Awake.calls k  true _ A3.out).mono ?_); rintro e w' ⟨rfl, ⟨nd, rfl⟩⟩; refine ⟨_, rfl, ?_⟩) | ((with_reducible refine gate_callee (f := 13) rfl ?_); refine goesL_ (some 15) rfl rfl Try.func13 (by kernel_rfl) rfl #[.int .u64 a0, .int .u64 a1] rfl (by (try simp only [List.map_toArray, List.map_cons, List.map_nil]); first | done | rfl | (simp only [List.length_drop, List.length_take]; rfl)) ?_; (with_reducible refine (poly_DivMod.calls k a0 a1 t133 t134 t135 _ A5.out).mono ?_); rintro e w' ⟨rfl, ⟨nd, rfl⟩⟩; refine ⟨_, rfl, ?_⟩) | ((with_reducible refine gate_callee (f := 15) rfl ?_); refine goesL_ (some 34) rfl rfl Try.func15 (by kernel_rfl) rfl #[.int .u64 t133, .int .u64 a1] rfl (by (try simp only [List.map_toArray, List.map_cons, List.map_nil]); first | done | rfl | (simp only [List.length_drop, List.length_take]; rfl)) ?_; (with_reducible refine (parapetlaw01_product.calls k t133 a1 t136 false _ A9.out).mono ?_); rintro e w' ⟨rfl, ⟨nd, rfl⟩⟩; refine ⟨_, rfl, ?_⟩) | (go_at_call 16; (with_reducible refine (poly_Degree.calls k t134 t138 _ A13.out).mono ?_); rintro e w' ⟨rfl, ⟨nd, rfl⟩⟩) | (go_at_call 16; (with_reducible refine (poly_Degree.calls k a1 t139 _ A14.out).mono ?_); rintro e w' ⟨rfl, ⟨nd, rfl⟩⟩))
            go_ret
            exact ⟨by first | rfl | (simp; done) | (simp [*]; done), by repeat (first | exact Drawn0.refl _ | apply Drawn0.step)⟩
          · rw [if_neg c12] at H
            have c12b0 : ((Go.bits .xor .u64 t136 t134) == a0) = false := beq_eq_false_iff_ne.mpr c12
            have c12b1 : ((Go.bits .xor .u64 t136 t134) != a0) = true := bne_iff_ne.mpr c12
            obtain rfl := Option.some.inj H
            go_enter Try.func4, Try.ntmps4
            go_wp2_with (first | ((with_reducible refine gate_callee (f := 12) rfl ?_); refine goesL_ (some 10) rfl rfl Try.func12 (by kernel_rfl) rfl #[] rfl (by (try simp only [List.map_toArray, List.map_cons, List.map_nil]); first | done | rfl | (simp only [List.length_drop, List.length_take]; rfl)) ?_; (with_reducible refine (parapetlaw01_Awake.calls k  true _ A3.out).mono ?_); rintro e w' ⟨rfl, ⟨nd, rfl⟩⟩; refine ⟨_, rfl, ?_⟩) | ((with_reducible refine gate_callee (f := 13) rfl ?_); refine goesL_ (some 15) rfl rfl Try.func13 (by kernel_rfl) rfl #[.int .u64 a0, .int .u64 a1] rfl (by (try simp only [List.map_toArray, List.map_cons, List.map_nil]); first | done | rfl | (simp only [List.length_drop, List.length_take]; rfl)) ?_; (with_reducible refine (poly_DivMod.calls k a0 a1 t133 t134 t135 _ A5.out).mono ?_); rintro e w' ⟨rfl, ⟨nd, rfl⟩⟩; refine ⟨_, rfl, ?_⟩) | ((with_reducible refine gate_callee (f := 15) rfl ?_); refine goesL_ (some 34) rfl rfl Try.func15 (by kernel_rfl) rfl #[.int .u64 t133, .int .u64 a1] rfl (by (try simp only [List.map_toArray, List.map_cons, List.map_nil]); first | done | rfl | (simp only [List.length_drop, List.length_take]; rfl)) ?_; (with_reducible refine (parapetlaw01_product.calls k t133 a1 t136 false _ A9.out).mono ?_); rintro e w' ⟨rfl, ⟨nd, rfl⟩⟩; refine ⟨_, rfl, ?_⟩))
            go_ret
            exact ⟨by first | rfl | (simp; done) | (simp [*]; done), by repeat (first | exact Drawn0.refl _ | apply Drawn0.step)⟩
      · rw [if_neg c10] at H
        have c10b0 : (t135 == 0) = false := beq_eq_false_iff_ne.mpr c10
        have c10b1 : (t135 != 0) = true := bne_iff_ne.mpr c10
        obtain rfl := Option.some.inj H
        go_enter Try.func4, Try.ntmps4
        go_wp2_with (first | ((with_reducible refine gate_callee (f := 12) rfl ?_); refine goesL_ (some 10) rfl rfl Try.func12 (by kernel_rfl) rfl #[] rfl (by (try simp only [List.map_toArray, List.map_cons, List.map_nil]); first | done | rfl | (simp only [List.length_drop, List.length_take]; rfl)) ?_; (with_reducible refine (parapetlaw01_Awake.calls k  true _ A3.out).mono ?_); rintro e w' ⟨rfl, ⟨nd, rfl⟩⟩; refine ⟨_, rfl, ?_⟩) | ((with_reducible refine gate_callee (f := 13) rfl ?_); refine goesL_ (some 15) rfl rfl Try.func13 (by kernel_rfl) rfl #[.int .u64 a0, .int .u64 a1] rfl (by (try simp only [List.map_toArray, List.map_cons, List.map_nil]); first | done | rfl | (simp only [List.length_drop, List.length_take]; rfl)) ?_; (with_reducible refine (poly_DivMod.calls k a0 a1 t133 t134 t135 _ A5.out).mono ?_); rintro e w' ⟨rfl, ⟨nd, rfl⟩⟩; refine ⟨_, rfl, ?_⟩) | ((with_reducible refine gate_callee (f := 15) rfl ?_); refine goesL_ (some 34) rfl rfl Try.func15 (by kernel_rfl) rfl #[.int .u64 t133, .int .u64 a1] rfl (by (try simp only [List.map_toArray, List.map_cons, List.map_nil]); first | done | rfl | (simp only [List.length_drop, List.length_take]; rfl)) ?_; (with_reducible refine (parapetlaw01_product.calls k t133 a1 t136 t137 _ A9.out).mono ?_); rintro e w' ⟨rfl, ⟨nd, rfl⟩⟩; refine ⟨_, rfl, ?_⟩))
        go_ret
        exact ⟨by first | rfl | (simp; done) | (simp [*]; done), by repeat (first | exact Drawn0.refl _ | apply Drawn0.step)⟩
  · replace c4 := Bool.eq_false_iff.mpr c4
    subst c4
    have H1 : (some false) = some r := by rw [if_neg (show ¬ (false = true) by decide)] at H; exact H
    clear H
    have H := H1
    clear H1
    obtain rfl := Option.some.inj H
    go_enter Try.func4, Try.ntmps4
    go_wp2_with (first | ((with_reducible refine gate_callee (f := 12) rfl ?_); refine goesL_ (some 10) rfl rfl Try.func12 (by kernel_rfl) rfl #[] rfl (by (try simp only [List.map_toArray, List.map_cons, List.map_nil]); first | done | rfl | (simp only [List.length_drop, List.length_take]; rfl)) ?_; (with_reducible refine (parapetlaw01_Awake.calls k  false _ A3.out).mono ?_); rintro e w' ⟨rfl, ⟨nd, rfl⟩⟩; refine ⟨_, rfl, ?_⟩))
    go_ret
    exact ⟨by first | rfl | (simp; done) | (simp [*]; done), by repeat (first | exact Drawn0.refl _ | apply Drawn0.step)⟩

/-- THE ONE PURE STATEMENT of parapetlaw01_PolyRest: yours. -/
def parapetlaw01_PolyRest.Pure : Prop := ∀ (a0 : Int) (a1 : Int), (Lit.int .u64 a0).wf = true → (Lit.int .u64 a1).wf = true → ∃ k, parapetlaw01_PolyRest.f k a0 a1 = some true
theorem parapetlaw01_PolyRest.walk (P : parapetlaw01_PolyRest.Pure) (a0 : Int) (a1 : Int) (w : World) (w0 : (Lit.int .u64 a0).wf = true) (w1 : (Lit.int .u64 a1).wf = true) :
    Calls Try.prog 4 #[.int .u64 a0, .int .u64 a1] w fun e w' => e = .returned (.bool true) ∧ Below w.heap.size w w' := by
  obtain ⟨k, h⟩ := P a0 a1 w0 w1
  refine (parapetlaw01_PolyRest.calls k a0 a1 true w h).mono ?_
  rintro e w' ⟨rfl, hd⟩
  exact ⟨rfl, hd.below⟩

/-! ### parapetref01_Gcd: function 18 -/
def parapetref01_Gcd.f : Nat → Int → Int → Option (Int)
  | 0, _, _ => none
  | k + 1, a0, a1 => if a1 = 0 then (some a0) else ((parapetref01_DivMod.f k a0 a1).bind fun bt140 => ((parapetref01_Gcd.f k a1 bt140.2.1).bind fun t143 => (some t143)))
theorem parapetref01_Gcd.mono_l : ∀ k, (∀ y0 y1, LeO (parapetref01_Gcd.f k y0 y1) (parapetref01_Gcd.f (k + 1) y0 y1))
  | 0 => fun _ _ r h => by simp [parapetref01_Gcd.f] at h
  | k + 1 => by
    have ih0 := parapetref01_Gcd.mono_l k
    · intro y0 y1
      unfold parapetref01_Gcd.f
      repeat' first
      | (with_reducible exact ih0 _ _)
      | (with_reducible exact parapetref01_DivMod.mono _ _ _)
      | (with_reducible exact LeO.refl _)
      | (with_reducible exact LeO.none _)
      | (with_reducible refine LeO.ite ?_ ?_)
      | (with_reducible refine LeO.bind ?_ (fun _ => ?_))
      | exact ih0 _ _
      | exact parapetref01_DivMod.mono _ _ _
      | exact LeO.none _
      | refine LeO.ite ?_ ?_
      | refine LeO.bind ?_ (fun _ => ?_)
theorem parapetref01_Gcd.mono : ∀ a0 a1 k, LeO (parapetref01_Gcd.f k a0 a1) (parapetref01_Gcd.f (k + 1) a0 a1) := by
  intro a0 a1 k
  have ih0 := parapetref01_Gcd.mono_l k
  exact ih0 a0 a1
set_option maxHeartbeats 8000000 in
set_option maxRecDepth 100000 in
theorem parapetref01_Gcd.calls (k : Nat) : ∀ (a0 : Int) (a1 : Int) (r : Int) (w : World) (h : parapetref01_Gcd.f k a0 a1 = some r),
    Calls Try.prog 18 #[.int .u64 a0, .int .u64 a1] w fun e w' => e = .returned (.int .u64 r) ∧ Drawn0 w w' := by
  induction k using Nat.strongRecOn with
  | _ k ih =>
  intro a0 a1 r w h
  cases k with
  | zero => exact absurd h (by simp [parapetref01_Gcd.f])
  | succ k =>
  simp only [parapetref01_Gcd.f] at h
  have H : (if a1 = 0 then (some a0) else ((parapetref01_DivMod.f k a0 a1).bind fun bt140 => ((parapetref01_Gcd.f k a1 bt140.2.1).bind fun t143 => (some t143)))) = some r := h
  clear h
  by_cases c3 : a1 = 0
  · rw [if_pos c3] at H
    have c3b0 : (a1 == 0) = true := beq_iff_eq.mpr c3
    have c3b1 : (a1 != 0) = false := bne_eq_false_iff_eq.mpr c3
    clear c3
    obtain rfl := Option.some.inj H
    go_enter Try.func18, Try.ntmps18
    go_wp2
    go_ret
    exact ⟨by first | rfl | (simp; done) | (simp [*]; done), by repeat (first | exact Drawn0.refl _ | apply Drawn0.step)⟩
  · rw [if_neg c3] at H
    have c3b0 : (a1 == 0) = false := beq_eq_false_iff_ne.mpr c3
    have c3b1 : (a1 != 0) = true := bne_iff_ne.mpr c3
    replace H := Option.bind_eq_some_iff.mp H
    obtain ⟨⟨t140, t141, t142⟩, A40, H⟩ := H
    replace H : ((parapetref01_Gcd.f k a1 t141).bind fun t143 => (some t143)) = some r := H
    have A4 := Aside0.mk A40
    clear A40
    replace H := Option.bind_eq_some_iff.mp H
    obtain ⟨t143, A50, H⟩ := H
    replace H : (some t143) = some r := H
    have A5 := Aside0.mk A50
    clear A50
    obtain rfl := Option.some.inj H
    go_enter Try.func18, Try.ntmps18
    go_wp2_with (first | ((with_reducible refine gate_callee (f := 14) rfl ?_); refine goesL_ (some 14) rfl rfl Try.func14 (by kernel_rfl) rfl #[.int .u64 a0, .int .u64 a1] rfl (by (try simp only [List.map_toArray, List.map_cons, List.map_nil]); first | done | rfl | (simp only [List.length_drop, List.length_take]; rfl)) ?_; (with_reducible refine (parapetref01_DivMod.calls k a0 a1 t140 t141 t142 _ A4.out).mono ?_); rintro e w' ⟨rfl, ⟨nd, rfl⟩⟩; refine ⟨_, rfl, ?_⟩) | ((with_reducible refine gate_callee (f := 18) rfl ?_); refine goesL_ (some 20) rfl rfl Try.func18 (by kernel_rfl) rfl #[.int .u64 a1, .int .u64 t141] rfl (by (try simp only [List.map_toArray, List.map_cons, List.map_nil]); first | done | rfl | (simp only [List.length_drop, List.length_take]; rfl)) ?_; (with_reducible refine (ih k (by omega) a1 t141 t143 _ A5.out).mono ?_); rintro e w' ⟨rfl, ⟨nd, rfl⟩⟩; refine ⟨_, rfl, ?_⟩))
    go_ret
    exact ⟨by first | rfl | (simp; done) | (simp [*]; done), by repeat (first | exact Drawn0.refl _ | apply Drawn0.step)⟩

end Go.Proofs.Ytcnlomknmhgpbac.PP
