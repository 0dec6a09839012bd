-- Written by a program of this session (wip/pr.sh): the functions' plain forms and their walks.
import Derived.Test.YtcnlomknmhgpbacPPx0
import Derived.Test.YtcnlomknmhgpbacPPx1
import Derived.Test.YtcnlomknmhgpbacPPx2
namespace Go.Proofs.Ytcnlomknmhgpbac.PP
open Go.RowKit Go.Proofs.YtcnlomknmhgpbacW.PrintWords Go.Proofs.YtcnlomknmhgpbacW.PrintLast Go.Proofs.YtcnlomknmhgpbacW.PrintMore
attribute [local go_sem] max2_int min2_int max_two min_two max_three min_three max_four min_four   -- for this text's walks alone
set_option linter.unusedVariables false
set_option linter.unusedSimpArgs false

/-! ### parapetlaw01_PolyGcd: function 5 -/
def parapetlaw01_PolyGcd.j0 : Nat → Int → Int → Int → Int → Bool → Option (Bool)
  | 0, _, _, _, _, _ => none
  | k + 1, x0, x1, x2, x7, x33 => if x33 = true then (some false) else (if x2 = 0 then (some true) else ((poly_DivMod.f k x0 x2).bind fun bt148 => ((poly_DivMod.f k x1 x2).bind fun bt151 => ((poly_DivMod.f k x7 x2).bind fun bt154 => (if bt148.2.1 = 0 then (some ((bt151.2.1 == 0) == (bt154.2.1 == 0))) else (some (false == (bt154.2.1 == 0))))))))
def parapetlaw01_PolyGcd.f (k : Nat) (a0 : Int) (a1 : Int) (a2 : Int) : Option (Bool) := (parapetlaw01_Awake.f k).bind fun t144 => (if t144 = true then ((poly_Gcd.f k a0 a1).bind fun t145 => ((parapetref01_Gcd.f k a0 a1).bind fun t146 => (if t145 = t146 then ((poly_Gcd.f k a1 a0).bind fun t147 => (parapetlaw01_PolyGcd.j0 k a0 a1 a2 t145 (t145 != t147))) else (parapetlaw01_PolyGcd.j0 k a0 a1 a2 t145 true)))) else (some false))
theorem parapetlaw01_PolyGcd.mono_l : ∀ k, (∀ y0 y1 y2 y3 y4, LeO (parapetlaw01_PolyGcd.j0 k y0 y1 y2 y3 y4) (parapetlaw01_PolyGcd.j0 (k + 1) y0 y1 y2 y3 y4))
  | 0 => fun _ _ _ _ _ r h => by simp [parapetlaw01_PolyGcd.j0] at h
  | k + 1 => by
    have ih0 := parapetlaw01_PolyGcd.mono_l k
    · intro y0 y1 y2 y3 y4
      unfold parapetlaw01_PolyGcd.j0
      repeat' first
      | (with_reducible exact ih0 _ _ _ _ _)
      | (with_reducible exact parapetlaw01_Awake.mono _)
      | (with_reducible exact parapetref01_Gcd.mono _ _ _)
      | (with_reducible exact poly_DivMod.mono _ _ _)
      | (with_reducible exact poly_Gcd.mono _ _ _)
      | (with_reducible exact LeO.refl _)
      | (with_reducible exact LeO.none _)
      | (with_reducible refine LeO.ite ?_ ?_)
      | (with_reducible refine LeO.bind ?_ (fun _ => ?_))
      | exact ih0 _ _ _ _ _
      | exact parapetlaw01_Awake.mono _
      | exact parapetref01_Gcd.mono _ _ _
      | exact poly_DivMod.mono _ _ _
      | exact poly_Gcd.mono _ _ _
      | exact LeO.none _
      | refine LeO.ite ?_ ?_
      | refine LeO.bind ?_ (fun _ => ?_)
theorem parapetlaw01_PolyGcd.mono : ∀ a0 a1 a2 k, LeO (parapetlaw01_PolyGcd.f k a0 a1 a2) (parapetlaw01_PolyGcd.f (k + 1) a0 a1 a2) := by
  intro a0 a1 a2 k
  have ih0 := parapetlaw01_PolyGcd.mono_l k
  unfold parapetlaw01_PolyGcd.f
  repeat' first
      | (with_reducible exact ih0 _ _ _ _ _)
      | (with_reducible exact parapetlaw01_Awake.mono _)
      | (with_reducible exact parapetref01_Gcd.mono _ _ _)
      | (with_reducible exact poly_DivMod.mono _ _ _)
      | (with_reducible exact poly_Gcd.mono _ _ _)
      | (with_reducible exact LeO.refl _)
      | (with_reducible exact LeO.none _)
      | (with_reducible refine LeO.ite ?_ ?_)
      | (with_reducible refine LeO.bind ?_ (fun _ => ?_))
      | exact ih0 _ _ _ _ _
      | exact parapetlaw01_Awake.mono _
      | exact parapetref01_Gcd.mono _ _ _
      | exact poly_DivMod.mono _ _ _
      | exact poly_Gcd.mono _ _ _
      | exact LeO.none _
      | refine LeO.ite ?_ ?_
      | refine LeO.bind ?_ (fun _ => ?_)
set_option maxHeartbeats 8000000 in
set_option maxRecDepth 100000 in
theorem parapetlaw01_PolyGcd.calls (k : Nat) (a0 : Int) (a1 : Int) (a2 : Int) (r : Bool) (w : World) (h : parapetlaw01_PolyGcd.f k a0 a1 a2 = some r) :
    Calls Try.prog 5 #[.int .u64 a0, .int .u64 a1, .int .u64 a2] w fun e w' => e = .returned (.bool r) ∧ Drawn0 w w' := by
  have H : ((parapetlaw01_Awake.f k).bind fun t144 => (if t144 = true then ((poly_Gcd.f k a0 a1).bind fun t145 => ((parapetref01_Gcd.f k a0 a1).bind fun t146 => (if t145 = t146 then ((poly_Gcd.f k a1 a0).bind fun t147 => (parapetlaw01_PolyGcd.j0 k a0 a1 a2 t145 (t145 != t147))) else (parapetlaw01_PolyGcd.j0 k a0 a1 a2 t145 true)))) else (some false))) = some r := h
  clear h
  replace H := Option.bind_eq_some_iff.mp H
  obtain ⟨t144, A40, H⟩ := H
  replace H : (if t144 = true then ((poly_Gcd.f k a0 a1).bind fun t145 => ((parapetref01_Gcd.f k a0 a1).bind fun t146 => (if t145 = t146 then ((poly_Gcd.f k a1 a0).bind fun t147 => (parapetlaw01_PolyGcd.j0 k a0 a1 a2 t145 (t145 != t147))) else (parapetlaw01_PolyGcd.j0 k a0 a1 a2 t145 true)))) else (some false)) = some r := H
  have A4 := Aside0.mk A40
  clear A40
  by_cases c5 : t144 = true
  · subst c5
    have H1 : ((poly_Gcd.f k a0 a1).bind fun t145 => ((parapetref01_Gcd.f k a0 a1).bind fun t146 => (if t145 = t146 then ((poly_Gcd.f k a1 a0).bind fun t147 => (parapetlaw01_PolyGcd.j0 k a0 a1 a2 t145 (t145 != t147))) else (parapetlaw01_PolyGcd.j0 k a0 a1 a2 t145 true)))) = some r := by rw [if_pos rfl] at H; exact H
    clear H
    have H := H1
    clear H1
    replace H := Option.bind_eq_some_iff.mp H
    obtain ⟨t145, A60, H⟩ := H
    replace H : ((parapetref01_Gcd.f k a0 a1).bind fun t146 => (if t145 = t146 then ((poly_Gcd.f k a1 a0).bind fun t147 => (parapetlaw01_PolyGcd.j0 k a0 a1 a2 t145 (t145 != t147))) else (parapetlaw01_PolyGcd.j0 k a0 a1 a2 t145 true))) = some r := H
    have A6 := Aside0.mk A60
    clear A60
    have HC7 := Aside0.mk H
    clear H
    go_enter Try.func5, Try.ntmps5
    go_upto_region 4 with (first | ((with_reducible refine gate_callee (f := 12) rfl ?_); refine goesL_ (some 17) rfl rfl Try.func12 (by kernel_rfl) rfl #[] rfl (by (try simp only [List.map_toArray, List.map_cons, List.map_nil]); first | done | rfl | (simp only [List.length_drop, List.length_take]; rfl)) ?_; (with_reducible refine (parapetlaw01_Awake.calls k  true _ A4.out).mono ?_); rintro e w' ⟨rfl, ⟨nd, rfl⟩⟩; refine ⟨_, rfl, ?_⟩) | ((with_reducible refine gate_callee (f := 17) rfl ?_); refine goesL_ (some 21) rfl rfl Try.func17 (by kernel_rfl) rfl #[.int .u64 a0, .int .u64 a1] rfl (by (try simp only [List.map_toArray, List.map_cons, List.map_nil]); first | done | rfl | (simp only [List.length_drop, List.length_take]; rfl)) ?_; (with_reducible refine (poly_Gcd.calls k a0 a1 t145 _ A6.out).mono ?_); rintro e w' ⟨rfl, ⟨nd, rfl⟩⟩; refine ⟨_, rfl, ?_⟩))
    (try simp only [Act.put, List.setIfInBounds_toArray, List.set_cons_zero, List.set_cons_succ])
    go_cut [33] (fun v33 wc => ∃ (kq : Nat) (x33_6 : Bool), v33 = .bool x33_6 ∧ Aside0 (parapetlaw01_PolyGcd.j0 kq a0 a1 a2 t145 x33_6 = some r) ∧ Aside0 (kq ≤ k) ∧ Drawn0 w wc)
    case first =>
      have H := HC7.out
      clear HC7
      replace H := Option.bind_eq_some_iff.mp H
      obtain ⟨t146, A80, H⟩ := H
      replace H : (if t145 = t146 then ((poly_Gcd.f k a1 a0).bind fun t147 => (parapetlaw01_PolyGcd.j0 k a0 a1 a2 t145 (t145 != t147))) else (parapetlaw01_PolyGcd.j0 k a0 a1 a2 t145 true)) = some r := H
      have A8 := Aside0.mk A80
      clear A80
      by_cases c9 : t145 = t146
      · rw [if_pos c9] at H
        have c9b0 : (t145 == t146) = true := beq_iff_eq.mpr c9
        have c9b1 : (t145 != t146) = false := bne_eq_false_iff_eq.mpr c9
        clear c9
        (first | rw [c9b0] | (simp only [i64_w, i32_w]; rw [c9b0]) | skip)
        replace H := Option.bind_eq_some_iff.mp H
        obtain ⟨t147, A100, H⟩ := H
        replace H : (parapetlaw01_PolyGcd.j0 k a0 a1 a2 t145 (t145 != t147)) = some r := H
        have A10 := Aside0.mk A100
        clear A100
        have H' := Aside0.mk H
        clear H
        go_wp2_with (first | ((with_reducible refine gate_callee (f := 18) rfl ?_); refine goesL_ (some 25) rfl rfl Try.func18 (by kernel_rfl) rfl #[.int .u64 a0, .int .u64 a1] rfl (by (try simp only [List.map_toArray, List.map_cons, List.map_nil]); first | done | rfl | (simp only [List.length_drop, List.length_take]; rfl)) ?_; (with_reducible refine (parapetref01_Gcd.calls k a0 a1 t146 _ A8.out).mono ?_); rintro e w' ⟨rfl, ⟨nd, rfl⟩⟩; refine ⟨_, rfl, ?_⟩) | (go_at_call 17; (with_reducible refine (poly_Gcd.calls k a1 a0 t147 _ A10.out).mono ?_); rintro e w' ⟨rfl, ⟨nd, rfl⟩⟩))
        go_meet
        case rel => exact ⟨_, ((t145 != t147)), (by first | rfl | (simp; done) | (simp [*]; done)), H', ⟨by first | omega | exact Nat.le_refl _⟩, by repeat (first | exact Drawn0.refl _ | apply Drawn0.step)⟩
      · rw [if_neg c9] at H
        have c9b0 : (t145 == t146) = false := beq_eq_false_iff_ne.mpr c9
        have c9b1 : (t145 != t146) = true := bne_iff_ne.mpr c9
        (first | rw [c9b0] | (simp only [i64_w, i32_w]; rw [c9b0]) | skip)
        have H' := Aside0.mk H
        clear H
        go_wp2_with (first | ((with_reducible refine gate_callee (f := 18) rfl ?_); refine goesL_ (some 25) rfl rfl Try.func18 (by kernel_rfl) rfl #[.int .u64 a0, .int .u64 a1] rfl (by (try simp only [List.map_toArray, List.map_cons, List.map_nil]); first | done | rfl | (simp only [List.length_drop, List.length_take]; rfl)) ?_; (with_reducible refine (parapetref01_Gcd.calls k a0 a1 t146 _ A8.out).mono ?_); rintro e w' ⟨rfl, ⟨nd, rfl⟩⟩; refine ⟨_, rfl, ?_⟩))
        go_meet
        case rel => exact ⟨_, (true), (by first | rfl | (simp; done) | (simp [*]; done)), H', ⟨by first | omega | exact Nat.le_refl _⟩, by repeat (first | exact Drawn0.refl _ | apply Drawn0.step)⟩
    case rest =>
      clear HC7
      try clear c1
      try clear p2
      try clear c5
      try clear c9
      try clear c9b0
      try clear c9b1
      obtain ⟨kq, x33_6, rfl, HA, HJ6, ⟨mc6, rfl⟩⟩ := hcut
      cases kq with
      | zero => exact absurd HA.out (by simp [parapetlaw01_PolyGcd.j0])
      | succ kj6 =>
        have H := HA.out
        clear HA
        simp only [parapetlaw01_PolyGcd.j0] at H
        by_cases c11 : x33_6 = true
        · subst c11
          have H1 : (some false) = some r := by rw [if_pos rfl] at H; exact H
          clear H
          have H := H1
          clear H1
          obtain rfl := Option.some.inj H
          go_wp2
          go_ret
          exact ⟨by first | rfl | (simp; done) | (simp [*]; done), by repeat (first | exact Drawn0.refl _ | apply Drawn0.step)⟩
        · replace c11 := Bool.eq_false_iff.mpr c11
          subst c11
          have H1 : (if a2 = 0 then (some true) else ((poly_DivMod.f kj6 a0 a2).bind fun bt148 => ((poly_DivMod.f kj6 a1 a2).bind fun bt151 => ((poly_DivMod.f kj6 t145 a2).bind fun bt154 => (if bt148.2.1 = 0 then (some ((bt151.2.1 == 0) == (bt154.2.1 == 0))) else (some (false == (bt154.2.1 == 0)))))))) = some r := by rw [if_neg (show ¬ (false = true) by decide)] at H; exact H
          clear H
          have H := H1
          clear H1
          by_cases c12 : a2 = 0
          · rw [if_pos c12] at H
            have c12b0 : (a2 == 0) = true := beq_iff_eq.mpr c12
            have c12b1 : (a2 != 0) = false := bne_eq_false_iff_eq.mpr c12
            clear c12
            obtain rfl := Option.some.inj H
            go_wp2
            go_ret
            exact ⟨by first | rfl | (simp; done) | (simp [*]; done), by repeat (first | exact Drawn0.refl _ | apply Drawn0.step)⟩
          · rw [if_neg c12] at H
            have c12b0 : (a2 == 0) = false := beq_eq_false_iff_ne.mpr c12
            have c12b1 : (a2 != 0) = true := bne_iff_ne.mpr c12
            replace H := Option.bind_eq_some_iff.mp H
            obtain ⟨⟨t148, t149, t150⟩, A130, H⟩ := H
            replace H : ((poly_DivMod.f kj6 a1 a2).bind fun bt151 => ((poly_DivMod.f kj6 t145 a2).bind fun bt154 => (if t149 = 0 then (some ((bt151.2.1 == 0) == (bt154.2.1 == 0))) else (some (false == (bt154.2.1 == 0)))))) = some r := H
            have A13 := Aside0.mk A130
            clear A130
            replace H := Option.bind_eq_some_iff.mp H
            obtain ⟨⟨t151, t152, t153⟩, A140, H⟩ := H
            replace H : ((poly_DivMod.f kj6 t145 a2).bind fun bt154 => (if t149 = 0 then (some ((t152 == 0) == (bt154.2.1 == 0))) else (some (false == (bt154.2.1 == 0))))) = some r := H
            have A14 := Aside0.mk A140
            clear A140
            replace H := Option.bind_eq_some_iff.mp H
            obtain ⟨⟨t154, t155, t156⟩, A150, H⟩ := H
            replace H : (if t149 = 0 then (some ((t152 == 0) == (t155 == 0))) else (some (false == (t155 == 0)))) = some r := H
            have A15 := Aside0.mk A150
            clear A150
            by_cases c16 : t149 = 0
            · rw [if_pos c16] at H
              have c16b0 : (t149 == 0) = true := beq_iff_eq.mpr c16
              have c16b1 : (t149 != 0) = false := bne_eq_false_iff_eq.mpr c16
              clear c16
              obtain rfl := Option.some.inj H
              go_wp2_with (first | ((with_reducible refine gate_callee (f := 13) rfl ?_); refine goesL_ (some 39) rfl rfl Try.func13 (by kernel_rfl) rfl #[.int .u64 a0, .int .u64 a2] rfl (by (try simp only [List.map_toArray, List.map_cons, List.map_nil]); first | done | rfl | (simp only [List.length_drop, List.length_take]; rfl)) ?_; (with_reducible refine (poly_DivMod.calls kj6 a0 a2 t148 t149 t150 _ A13.out).mono ?_); rintro e w' ⟨rfl, ⟨nd, rfl⟩⟩; refine ⟨_, rfl, ?_⟩) | ((with_reducible refine gate_callee (f := 13) rfl ?_); refine goesL_ (some 46) rfl rfl Try.func13 (by kernel_rfl) rfl #[.int .u64 a1, .int .u64 a2] rfl (by (try simp only [List.map_toArray, List.map_cons, List.map_nil]); first | done | rfl | (simp only [List.length_drop, List.length_take]; rfl)) ?_; (with_reducible refine (poly_DivMod.calls kj6 a1 a2 t151 t152 t153 _ A14.out).mono ?_); rintro e w' ⟨rfl, ⟨nd, rfl⟩⟩; refine ⟨_, rfl, ?_⟩) | ((with_reducible refine gate_callee (f := 13) rfl ?_); refine goesL_ (some 53) rfl rfl Try.func13 (by kernel_rfl) rfl #[.int .u64 t145, .int .u64 a2] rfl (by (try simp only [List.map_toArray, List.map_cons, List.map_nil]); first | done | rfl | (simp only [List.length_drop, List.length_take]; rfl)) ?_; (with_reducible refine (poly_DivMod.calls kj6 t145 a2 t154 t155 t156 _ A15.out).mono ?_); rintro e w' ⟨rfl, ⟨nd, rfl⟩⟩; refine ⟨_, rfl, ?_⟩))
              go_ret
              exact ⟨by first | rfl | (simp; done) | (simp [*]; done), by repeat (first | exact Drawn0.refl _ | apply Drawn0.step)⟩
            · rw [if_neg c16] at H
              have c16b0 : (t149 == 0) = false := beq_eq_false_iff_ne.mpr c16
              have c16b1 : (t149 != 0) = true := bne_iff_ne.mpr c16
              obtain rfl := Option.some.inj H
              go_wp2_with (first | ((with_reducible refine gate_callee (f := 13) rfl ?_); refine goesL_ (some 39) rfl rfl Try.func13 (by kernel_rfl) rfl #[.int .u64 a0, .int .u64 a2] rfl (by (try simp only [List.map_toArray, List.map_cons, List.map_nil]); first | done | rfl | (simp only [List.length_drop, List.length_take]; rfl)) ?_; (with_reducible refine (poly_DivMod.calls kj6 a0 a2 t148 t149 t150 _ A13.out).mono ?_); rintro e w' ⟨rfl, ⟨nd, rfl⟩⟩; refine ⟨_, rfl, ?_⟩) | ((with_reducible refine gate_callee (f := 13) rfl ?_); refine goesL_ (some 46) rfl rfl Try.func13 (by kernel_rfl) rfl #[.int .u64 a1, .int .u64 a2] rfl (by (try simp only [List.map_toArray, List.map_cons, List.map_nil]); first | done | rfl | (simp only [List.length_drop, List.length_take]; rfl)) ?_; (with_reducible refine (poly_DivMod.calls kj6 a1 a2 t151 t152 t153 _ A14.out).mono ?_); rintro e w' ⟨rfl, ⟨nd, rfl⟩⟩; refine ⟨_, rfl, ?_⟩) | ((with_reducible refine gate_callee (f := 13) rfl ?_); refine goesL_ (some 53) rfl rfl Try.func13 (by kernel_rfl) rfl #[.int .u64 t145, .int .u64 a2] rfl (by (try simp only [List.map_toArray, List.map_cons, List.map_nil]); first | done | rfl | (simp only [List.length_drop, List.length_take]; rfl)) ?_; (with_reducible refine (poly_DivMod.calls kj6 t145 a2 t154 t155 t156 _ A15.out).mono ?_); rintro e w' ⟨rfl, ⟨nd, rfl⟩⟩; refine ⟨_, rfl, ?_⟩))
              go_ret
              exact ⟨by first | rfl | (simp; done) | (simp [*]; done), by repeat (first | exact Drawn0.refl _ | apply Drawn0.step)⟩
  · replace c5 := Bool.eq_false_iff.mpr c5
    subst c5
    have H1 : (some false) = some r := by rw [if_neg (show ¬ (false = true) by decide)] at H; exact H
    clear H
    have H := H1
    clear H1
    obtain rfl := Option.some.inj H
    go_enter Try.func5, Try.ntmps5
    go_wp2_with (first | ((with_reducible refine gate_callee (f := 12) rfl ?_); refine goesL_ (some 17) rfl rfl Try.func12 (by kernel_rfl) rfl #[] rfl (by (try simp only [List.map_toArray, List.map_cons, List.map_nil]); first | done | rfl | (simp only [List.length_drop, List.length_take]; rfl)) ?_; (with_reducible refine (parapetlaw01_Awake.calls k  false _ A4.out).mono ?_); rintro e w' ⟨rfl, ⟨nd, rfl⟩⟩; refine ⟨_, rfl, ?_⟩))
    go_ret
    exact ⟨by first | rfl | (simp; done) | (simp [*]; done), by repeat (first | exact Drawn0.refl _ | apply Drawn0.step)⟩

/-- THE ONE PURE STATEMENT of parapetlaw01_PolyGcd: yours. -/
def parapetlaw01_PolyGcd.Pure : Prop := ∀ (a0 : Int) (a1 : Int) (a2 : Int), (Lit.int .u64 a0).wf = true → (Lit.int .u64 a1).wf = true → (Lit.int .u64 a2).wf = true → ∃ k, parapetlaw01_PolyGcd.f k a0 a1 a2 = some true
theorem parapetlaw01_PolyGcd.walk (P : parapetlaw01_PolyGcd.Pure) (a0 : Int) (a1 : Int) (a2 : Int) (w : World) (w0 : (Lit.int .u64 a0).wf = true) (w1 : (Lit.int .u64 a1).wf = true) (w2 : (Lit.int .u64 a2).wf = true) :
    Calls Try.prog 5 #[.int .u64 a0, .int .u64 a1, .int .u64 a2] w fun e w' => e = .returned (.bool true) ∧ Below w.heap.size w w' := by
  obtain ⟨k, h⟩ := P a0 a1 a2 w0 w1 w2
  refine (parapetlaw01_PolyGcd.calls k a0 a1 a2 true w h).mono ?_
  rintro e w' ⟨rfl, hd⟩
  exact ⟨rfl, hd.below⟩

/-! ### parapetlaw01_PolyRing: function 6 -/
def parapetlaw01_PolyRing.f (k : Nat) (a0 : Int) (a1 : Int) (a2 : Int) (a3 : Int) : Option (Bool) := (parapetlaw01_Awake.f k).bind fun t157 => (if t157 = true then (if a3 = 0 then (some true) else ((poly_MulMod.f k a0 a2 a3).bind fun bt158 => ((poly_MulMod.f k a1 a2 a3).bind fun bt160 => ((poly_MulMod.f k (Go.bits .xor .u64 a0 a1) a2 a3).bind fun bt162 => ((poly_MulMod.f k a2 a0 a3).bind fun bt164 => ((poly_MulMod.f k bt158.1 a1 a3).bind fun bt166 => ((poly_MulMod.f k bt160.1 a0 a3).bind fun bt168 => (if (Go.bits .xor .u64 bt158.1 bt160.1) = bt162.1 then (if bt158.1 = bt164.1 then (some (bt166.1 == bt168.1)) else (some false)) else (some false))))))))) else (some false))
theorem parapetlaw01_PolyRing.mono : ∀ a0 a1 a2 a3 k, LeO (parapetlaw01_PolyRing.f k a0 a1 a2 a3) (parapetlaw01_PolyRing.f (k + 1) a0 a1 a2 a3) := by
  intro a0 a1 a2 a3 k
  unfold parapetlaw01_PolyRing.f
  repeat' first
      | (with_reducible exact parapetlaw01_Awake.mono _)
      | (with_reducible exact poly_MulMod.mono _ _ _ _)
      | (with_reducible exact LeO.refl _)
      | (with_reducible exact LeO.none _)
      | (with_reducible refine LeO.ite ?_ ?_)
      | (with_reducible refine LeO.bind ?_ (fun _ => ?_))
      | exact parapetlaw01_Awake.mono _
      | exact poly_MulMod.mono _ _ _ _
      | exact LeO.none _
      | refine LeO.ite ?_ ?_
      | refine LeO.bind ?_ (fun _ => ?_)
set_option maxHeartbeats 8000000 in
set_option maxRecDepth 100000 in
theorem parapetlaw01_PolyRing.calls (k : Nat) (a0 : Int) (a1 : Int) (a2 : Int) (a3 : Int) (r : Bool) (w : World) (h : parapetlaw01_PolyRing.f k a0 a1 a2 a3 = some r) :
    Calls Try.prog 6 #[.int .u64 a0, .int .u64 a1, .int .u64 a2, .int .u64 a3] w fun e w' => e = .returned (.bool r) ∧ Drawn0 w w' := by
  have H : ((parapetlaw01_Awake.f k).bind fun t157 => (if t157 = true then (if a3 = 0 then (some true) else ((poly_MulMod.f k a0 a2 a3).bind fun bt158 => ((poly_MulMod.f k a1 a2 a3).bind fun bt160 => ((poly_MulMod.f k (Go.bits .xor .u64 a0 a1) a2 a3).bind fun bt162 => ((poly_MulMod.f k a2 a0 a3).bind fun bt164 => ((poly_MulMod.f k bt158.1 a1 a3).bind fun bt166 => ((poly_MulMod.f k bt160.1 a0 a3).bind fun bt168 => (if (Go.bits .xor .u64 bt158.1 bt160.1) = bt162.1 then (if bt158.1 = bt164.1 then (some (bt166.1 == bt168.1)) else (some false)) else (some false))))))))) else (some false))) = some r := h
  clear h
  replace H := Option.bind_eq_some_iff.mp H
  obtain ⟨t157, A50, H⟩ := H
  replace H : (if t157 = true then (if a3 = 0 then (some true) else ((poly_MulMod.f k a0 a2 a3).bind fun bt158 => ((poly_MulMod.f k a1 a2 a3).bind fun bt160 => ((poly_MulMod.f k (Go.bits .xor .u64 a0 a1) a2 a3).bind fun bt162 => ((poly_MulMod.f k a2 a0 a3).bind fun bt164 => ((poly_MulMod.f k bt158.1 a1 a3).bind fun bt166 => ((poly_MulMod.f k bt160.1 a0 a3).bind fun bt168 => (if (Go.bits .xor .u64 bt158.1 bt160.1) = bt162.1 then (if bt158.1 = bt164.1 then (some (bt166.1 == bt168.1)) else (some false)) else (some false))))))))) else (some false)) = some r := H
  have A5 := Aside0.mk A50
  clear A50
  by_cases c6 : t157 = true
  · subst c6
    have H1 : (if a3 = 0 then (some true) else ((poly_MulMod.f k a0 a2 a3).bind fun bt158 => ((poly_MulMod.f k a1 a2 a3).bind fun bt160 => ((poly_MulMod.f k (Go.bits .xor .u64 a0 a1) a2 a3).bind fun bt162 => ((poly_MulMod.f k a2 a0 a3).bind fun bt164 => ((poly_MulMod.f k bt158.1 a1 a3).bind fun bt166 => ((poly_MulMod.f k bt160.1 a0 a3).bind fun bt168 => (if (Go.bits .xor .u64 bt158.1 bt160.1) = bt162.1 then (if bt158.1 = bt164.1 then (some (bt166.1 == bt168.1)) else (some false)) else (some false))))))))) = some r := by rw [if_pos rfl] at H; exact H
    clear H
    have H := H1
    clear H1
    by_cases c7 : a3 = 0
    · rw [if_pos c7] at H
      have c7b0 : (a3 == 0) = true := beq_iff_eq.mpr c7
      have c7b1 : (a3 != 0) = false := bne_eq_false_iff_eq.mpr c7
      clear c7
      obtain rfl := Option.some.inj H
      go_enter Try.func6, Try.ntmps6
      go_wp2_with (first | ((with_reducible refine gate_callee (f := 12) rfl ?_); refine goesL_ (some 21) rfl rfl Try.func12 (by kernel_rfl) rfl #[] rfl (by (try simp only [List.map_toArray, List.map_cons, List.map_nil]); first | done | rfl | (simp only [List.length_drop, List.length_take]; rfl)) ?_; (with_reducible refine (parapetlaw01_Awake.calls k  true _ A5.out).mono ?_); rintro e w' ⟨rfl, ⟨nd, rfl⟩⟩; refine ⟨_, rfl, ?_⟩))
      go_ret
      exact ⟨by first | rfl | (simp; done) | (simp [*]; done), by repeat (first | exact Drawn0.refl _ | apply Drawn0.step)⟩
    · rw [if_neg c7] at H
      have c7b0 : (a3 == 0) = false := beq_eq_false_iff_ne.mpr c7
      have c7b1 : (a3 != 0) = true := bne_iff_ne.mpr c7
      replace H := Option.bind_eq_some_iff.mp H
      obtain ⟨⟨t158, t159⟩, A80, H⟩ := H
      replace H : ((poly_MulMod.f k a1 a2 a3).bind fun bt160 => ((poly_MulMod.f k (Go.bits .xor .u64 a0 a1) a2 a3).bind fun bt162 => ((poly_MulMod.f k a2 a0 a3).bind fun bt164 => ((poly_MulMod.f k t158 a1 a3).bind fun bt166 => ((poly_MulMod.f k bt160.1 a0 a3).bind fun bt168 => (if (Go.bits .xor .u64 t158 bt160.1) = bt162.1 then (if t158 = bt164.1 then (some (bt166.1 == bt168.1)) else (some false)) else (some false))))))) = some r := H
      have A8 := Aside0.mk A80
      clear A80
      replace H := Option.bind_eq_some_iff.mp H
      obtain ⟨⟨t160, t161⟩, A90, H⟩ := H
      replace H : ((poly_MulMod.f k (Go.bits .xor .u64 a0 a1) a2 a3).bind fun bt162 => ((poly_MulMod.f k a2 a0 a3).bind fun bt164 => ((poly_MulMod.f k t158 a1 a3).bind fun bt166 => ((poly_MulMod.f k t160 a0 a3).bind fun bt168 => (if (Go.bits .xor .u64 t158 t160) = bt162.1 then (if t158 = bt164.1 then (some (bt166.1 == bt168.1)) else (some false)) else (some false)))))) = some r := H
      have A9 := Aside0.mk A90
      clear A90
      replace H := Option.bind_eq_some_iff.mp H
      obtain ⟨⟨t162, t163⟩, A100, H⟩ := H
      replace H : ((poly_MulMod.f k a2 a0 a3).bind fun bt164 => ((poly_MulMod.f k t158 a1 a3).bind fun bt166 => ((poly_MulMod.f k t160 a0 a3).bind fun bt168 => (if (Go.bits .xor .u64 t158 t160) = t162 then (if t158 = bt164.1 then (some (bt166.1 == bt168.1)) else (some false)) else (some false))))) = some r := H
      have A10 := Aside0.mk A100
      clear A100
      replace H := Option.bind_eq_some_iff.mp H
      obtain ⟨⟨t164, t165⟩, A110, H⟩ := H
      replace H : ((poly_MulMod.f k t158 a1 a3).bind fun bt166 => ((poly_MulMod.f k t160 a0 a3).bind fun bt168 => (if (Go.bits .xor .u64 t158 t160) = t162 then (if t158 = t164 then (some (bt166.1 == bt168.1)) else (some false)) else (some false)))) = some r := H
      have A11 := Aside0.mk A110
      clear A110
      replace H := Option.bind_eq_some_iff.mp H
      obtain ⟨⟨t166, t167⟩, A120, H⟩ := H
      replace H : ((poly_MulMod.f k t160 a0 a3).bind fun bt168 => (if (Go.bits .xor .u64 t158 t160) = t162 then (if t158 = t164 then (some (t166 == bt168.1)) else (some false)) else (some false))) = some r := H
      have A12 := Aside0.mk A120
      clear A120
      replace H := Option.bind_eq_some_iff.mp H
      obtain ⟨⟨t168, t169⟩, A130, H⟩ := H
      replace H : (if (Go.bits .xor .u64 t158 t160) = t162 then (if t158 = t164 then (some (t166 == t168)) else (some false)) else (some false)) = some r := H
      have A13 := Aside0.mk A130
      clear A130
      by_cases c14 : (Go.bits .xor .u64 t158 t160) = t162
      · rw [if_pos c14] at H
        have c14b0 : ((Go.bits .xor .u64 t158 t160) == t162) = true := beq_iff_eq.mpr c14
        have c14b1 : ((Go.bits .xor .u64 t158 t160) != t162) = false := bne_eq_false_iff_eq.mpr c14
        clear c14
        by_cases c15 : t158 = t164
        · rw [if_pos c15] at H
          have c15b0 : (t158 == t164) = true := beq_iff_eq.mpr c15
          have c15b1 : (t158 != t164) = false := bne_eq_false_iff_eq.mpr c15
          clear c15
          obtain rfl := Option.some.inj H
          go_enter Try.func6, Try.ntmps6
          go_wp2_with (first | ((with_reducible refine gate_callee (f := 12) rfl ?_); refine goesL_ (some 21) rfl rfl Try.func12 (by kernel_rfl) rfl #[] rfl (by (try simp only [List.map_toArray, List.map_cons, List.map_nil]); first | done | rfl | (simp only [List.length_drop, List.length_take]; rfl)) ?_; (with_reducible refine (parapetlaw01_Awake.calls k  true _ A5.out).mono ?_); rintro e w' ⟨rfl, ⟨nd, rfl⟩⟩; refine ⟨_, rfl, ?_⟩) | ((with_reducible refine gate_callee (f := 19) rfl ?_); refine goesL_ (some 29) rfl rfl Try.func19 (by kernel_rfl) rfl #[.int .u64 a0, .int .u64 a2, .int .u64 a3] rfl (by (try simp only [List.map_toArray, List.map_cons, List.map_nil]); first | done | rfl | (simp only [List.length_drop, List.length_take]; rfl)) ?_; (with_reducible refine (poly_MulMod.calls k a0 a2 a3 t158 t159 _ A8.out).mono ?_); rintro e w' ⟨rfl, ⟨nd, rfl⟩⟩; refine ⟨_, rfl, ?_⟩) | ((with_reducible refine gate_callee (f := 19) rfl ?_); refine goesL_ (some 36) rfl rfl Try.func19 (by kernel_rfl) rfl #[.int .u64 a1, .int .u64 a2, .int .u64 a3] rfl (by (try simp only [List.map_toArray, List.map_cons, List.map_nil]); first | done | rfl | (simp only [List.length_drop, List.length_take]; rfl)) ?_; (with_reducible refine (poly_MulMod.calls k a1 a2 a3 t160 t161 _ A9.out).mono ?_); rintro e w' ⟨rfl, ⟨nd, rfl⟩⟩; refine ⟨_, rfl, ?_⟩) | ((with_reducible refine gate_callee (f := 19) rfl ?_); refine goesL_ (some 45) rfl rfl Try.func19 (by kernel_rfl) rfl #[.int .u64 (Go.bits .xor .u64 a0 a1), .int .u64 a2, .int .u64 a3] rfl (by (try simp only [List.map_toArray, List.map_cons, List.map_nil]); first | done | rfl | (simp only [List.length_drop, List.length_take]; rfl)) ?_; (with_reducible refine (poly_MulMod.calls k (Go.bits .xor .u64 a0 a1) a2 a3 t162 t163 _ A10.out).mono ?_); rintro e w' ⟨rfl, ⟨nd, rfl⟩⟩; refine ⟨_, rfl, ?_⟩) | ((with_reducible refine gate_callee (f := 19) rfl ?_); refine goesL_ (some 52) rfl rfl Try.func19 (by kernel_rfl) rfl #[.int .u64 a2, .int .u64 a0, .int .u64 a3] rfl (by (try simp only [List.map_toArray, List.map_cons, List.map_nil]); first | done | rfl | (simp only [List.length_drop, List.length_take]; rfl)) ?_; (with_reducible refine (poly_MulMod.calls k a2 a0 a3 t164 t165 _ A11.out).mono ?_); rintro e w' ⟨rfl, ⟨nd, rfl⟩⟩; refine ⟨_, rfl, ?_⟩) | ((with_reducible refine gate_callee (f := 19) rfl ?_); refine goesL_ (some 59) rfl rfl Try.func19 (by kernel_rfl) rfl #[.int .u64 t158, .int .u64 a1, .int .u64 a3] rfl (by (try simp only [List.map_toArray, List.map_cons, List.map_nil]); first | done | rfl | (simp only [List.length_drop, List.length_take]; rfl)) ?_; (with_reducible refine (poly_MulMod.calls k t158 a1 a3 t166 t167 _ A12.out).mono ?_); rintro e w' ⟨rfl, ⟨nd, rfl⟩⟩; refine ⟨_, rfl, ?_⟩) | ((with_reducible refine gate_callee (f := 19) rfl ?_); refine goesL_ (some 66) rfl rfl Try.func19 (by kernel_rfl) rfl #[.int .u64 t160, .int .u64 a0, .int .u64 a3] rfl (by (try simp only [List.map_toArray, List.map_cons, List.map_nil]); first | done | rfl | (simp only [List.length_drop, List.length_take]; rfl)) ?_; (with_reducible refine (poly_MulMod.calls k t160 a0 a3 t168 t169 _ A13.out).mono ?_); rintro e w' ⟨rfl, ⟨nd, rfl⟩⟩; refine ⟨_, rfl, ?_⟩))
          go_ret
          exact ⟨by first | rfl | (simp; done) | (simp [*]; done), by repeat (first | exact Drawn0.refl _ | apply Drawn0.step)⟩
        · rw [if_neg c15] at H
          have c15b0 : (t158 == t164) = false := beq_eq_false_iff_ne.mpr c15
          have c15b1 : (t158 != t164) = true := bne_iff_ne.mpr c15
          obtain rfl := Option.some.inj H
          go_enter Try.func6, Try.ntmps6
          go_wp2_with (first | ((with_reducible refine gate_callee (f := 12) rfl ?_); refine goesL_ (some 21) rfl rfl Try.func12 (by kernel_rfl) rfl #[] rfl (by (try simp only [List.map_toArray, List.map_cons, List.map_nil]); first | done | rfl | (simp only [List.length_drop, List.length_take]; rfl)) ?_; (with_reducible refine (parapetlaw01_Awake.calls k  true _ A5.out).mono ?_); rintro e w' ⟨rfl, ⟨nd, rfl⟩⟩; refine ⟨_, rfl, ?_⟩) | ((with_reducible refine gate_callee (f := 19) rfl ?_); refine goesL_ (some 29) rfl rfl Try.func19 (by kernel_rfl) rfl #[.int .u64 a0, .int .u64 a2, .int .u64 a3] rfl (by (try simp only [List.map_toArray, List.map_cons, List.map_nil]); first | done | rfl | (simp only [List.length_drop, List.length_take]; rfl)) ?_; (with_reducible refine (poly_MulMod.calls k a0 a2 a3 t158 t159 _ A8.out).mono ?_); rintro e w' ⟨rfl, ⟨nd, rfl⟩⟩; refine ⟨_, rfl, ?_⟩) | ((with_reducible refine gate_callee (f := 19) rfl ?_); refine goesL_ (some 36) rfl rfl Try.func19 (by kernel_rfl) rfl #[.int .u64 a1, .int .u64 a2, .int .u64 a3] rfl (by (try simp only [List.map_toArray, List.map_cons, List.map_nil]); first | done | rfl | (simp only [List.length_drop, List.length_take]; rfl)) ?_; (with_reducible refine (poly_MulMod.calls k a1 a2 a3 t160 t161 _ A9.out).mono ?_); rintro e w' ⟨rfl, ⟨nd, rfl⟩⟩; refine ⟨_, rfl, ?_⟩) | ((with_reducible refine gate_callee (f := 19) rfl ?_); refine goesL_ (some 45) rfl rfl Try.func19 (by kernel_rfl) rfl #[.int .u64 (Go.bits .xor .u64 a0 a1), .int .u64 a2, .int .u64 a3] rfl (by (try simp only [List.map_toArray, List.map_cons, List.map_nil]); first | done | rfl | (simp only [List.length_drop, List.length_take]; rfl)) ?_; (with_reducible refine (poly_MulMod.calls k (Go.bits .xor .u64 a0 a1) a2 a3 t162 t163 _ A10.out).mono ?_); rintro e w' ⟨rfl, ⟨nd, rfl⟩⟩; refine ⟨_, rfl, ?_⟩) | ((with_reducible refine gate_callee (f := 19) rfl ?_); refine goesL_ (some 52) rfl rfl Try.func19 (by kernel_rfl) rfl #[.int .u64 a2, .int .u64 a0, .int .u64 a3] rfl (by (try simp only [List.map_toArray, List.map_cons, List.map_nil]); first | done | rfl | (simp only [List.length_drop, List.length_take]; rfl)) ?_; (with_reducible refine (poly_MulMod.calls k a2 a0 a3 t164 t165 _ A11.out).mono ?_); rintro e w' ⟨rfl, ⟨nd, rfl⟩⟩; refine ⟨_, rfl, ?_⟩) | ((with_reducible refine gate_callee (f := 19) rfl ?_); refine goesL_ (some 59) rfl rfl Try.func19 (by kernel_rfl) rfl #[.int .u64 t158, .int .u64 a1, .int .u64 a3] rfl (by (try simp only [List.map_toArray, List.map_cons, List.map_nil]); first | done | rfl | (simp only [List.length_drop, List.length_take]; rfl)) ?_; (with_reducible refine (poly_MulMod.calls k t158 a1 a3 t166 t167 _ A12.out).mono ?_); rintro e w' ⟨rfl, ⟨nd, rfl⟩⟩; refine ⟨_, rfl, ?_⟩) | ((with_reducible refine gate_callee (f := 19) rfl ?_); refine goesL_ (some 66) rfl rfl Try.func19 (by kernel_rfl) rfl #[.int .u64 t160, .int .u64 a0, .int .u64 a3] rfl (by (try simp only [List.map_toArray, List.map_cons, List.map_nil]); first | done | rfl | (simp only [List.length_drop, List.length_take]; rfl)) ?_; (with_reducible refine (poly_MulMod.calls k t160 a0 a3 t168 t169 _ A13.out).mono ?_); rintro e w' ⟨rfl, ⟨nd, rfl⟩⟩; refine ⟨_, rfl, ?_⟩))
          go_ret
          exact ⟨by first | rfl | (simp; done) | (simp [*]; done), by repeat (first | exact Drawn0.refl _ | apply Drawn0.step)⟩
      · rw [if_neg c14] at H
        have c14b0 : ((Go.bits .xor .u64 t158 t160) == t162) = false := beq_eq_false_iff_ne.mpr c14
        have c14b1 : ((Go.bits .xor .u64 t158 t160) != t162) = true := bne_iff_ne.mpr c14
        obtain rfl := Option.some.inj H
        go_enter Try.func6, Try.ntmps6
        go_wp2_with (first | ((with_reducible refine gate_callee (f := 12) rfl ?_); refine goesL_ (some 21) rfl rfl Try.func12 (by kernel_rfl) rfl #[] rfl (by (try simp only [List.map_toArray, List.map_cons, List.map_nil]); first | done | rfl | (simp only [List.length_drop, List.length_take]; rfl)) ?_; (with_reducible refine (parapetlaw01_Awake.calls k  true _ A5.out).mono ?_); rintro e w' ⟨rfl, ⟨nd, rfl⟩⟩; refine ⟨_, rfl, ?_⟩) | ((with_reducible refine gate_callee (f := 19) rfl ?_); refine goesL_ (some 29) rfl rfl Try.func19 (by kernel_rfl) rfl #[.int .u64 a0, .int .u64 a2, .int .u64 a3] rfl (by (try simp only [List.map_toArray, List.map_cons, List.map_nil]); first | done | rfl | (simp only [List.length_drop, List.length_take]; rfl)) ?_; (with_reducible refine (poly_MulMod.calls k a0 a2 a3 t158 t159 _ A8.out).mono ?_); rintro e w' ⟨rfl, ⟨nd, rfl⟩⟩; refine ⟨_, rfl, ?_⟩) | ((with_reducible refine gate_callee (f := 19) rfl ?_); refine goesL_ (some 36) rfl rfl Try.func19 (by kernel_rfl) rfl #[.int .u64 a1, .int .u64 a2, .int .u64 a3] rfl (by (try simp only [List.map_toArray, List.map_cons, List.map_nil]); first | done | rfl | (simp only [List.length_drop, List.length_take]; rfl)) ?_; (with_reducible refine (poly_MulMod.calls k a1 a2 a3 t160 t161 _ A9.out).mono ?_); rintro e w' ⟨rfl, ⟨nd, rfl⟩⟩; refine ⟨_, rfl, ?_⟩) | ((with_reducible refine gate_callee (f := 19) rfl ?_); refine goesL_ (some 45) rfl rfl Try.func19 (by kernel_rfl) rfl #[.int .u64 (Go.bits .xor .u64 a0 a1), .int .u64 a2, .int .u64 a3] rfl (by (try simp only [List.map_toArray, List.map_cons, List.map_nil]); first | done | rfl | (simp only [List.length_drop, List.length_take]; rfl)) ?_; (with_reducible refine (poly_MulMod.calls k (Go.bits .xor .u64 a0 a1) a2 a3 t162 t163 _ A10.out).mono ?_); rintro e w' ⟨rfl, ⟨nd, rfl⟩⟩; refine ⟨_, rfl, ?_⟩) | ((with_reducible refine gate_callee (f := 19) rfl ?_); refine goesL_ (some 52) rfl rfl Try.func19 (by kernel_rfl) rfl #[.int .u64 a2, .int .u64 a0, .int .u64 a3] rfl (by (try simp only [List.map_toArray, List.map_cons, List.map_nil]); first | done | rfl | (simp only [List.length_drop, List.length_take]; rfl)) ?_; (with_reducible refine (poly_MulMod.calls k a2 a0 a3 t164 t165 _ A11.out).mono ?_); rintro e w' ⟨rfl, ⟨nd, rfl⟩⟩; refine ⟨_, rfl, ?_⟩) | ((with_reducible refine gate_callee (f := 19) rfl ?_); refine goesL_ (some 59) rfl rfl Try.func19 (by kernel_rfl) rfl #[.int .u64 t158, .int .u64 a1, .int .u64 a3] rfl (by (try simp only [List.map_toArray, List.map_cons, List.map_nil]); first | done | rfl | (simp only [List.length_drop, List.length_take]; rfl)) ?_; (with_reducible refine (poly_MulMod.calls k t158 a1 a3 t166 t167 _ A12.out).mono ?_); rintro e w' ⟨rfl, ⟨nd, rfl⟩⟩; refine ⟨_, rfl, ?_⟩) | ((with_reducible refine gate_callee (f := 19) rfl ?_); refine goesL_ (some 66) rfl rfl Try.func19 (by kernel_rfl) rfl #[.int .u64 t160, .int .u64 a0, .int .u64 a3] rfl (by (try simp only [List.map_toArray, List.map_cons, List.map_nil]); first | done | rfl | (simp only [List.length_drop, List.length_take]; rfl)) ?_; (with_reducible refine (poly_MulMod.calls k t160 a0 a3 t168 t169 _ A13.out).mono ?_); rintro e w' ⟨rfl, ⟨nd, rfl⟩⟩; refine ⟨_, rfl, ?_⟩))
        go_ret
        exact ⟨by first | rfl | (simp; done) | (simp [*]; done), by repeat (first | exact Drawn0.refl _ | apply Drawn0.step)⟩
  · replace c6 := Bool.eq_false_iff.mpr c6
    subst c6
    have H1 : (some false) = some r := by rw [if_neg (show ¬ (false = true) by decide)] at H; exact H
    clear H
    have H := H1
    clear H1
    obtain rfl := Option.some.inj H
    go_enter Try.func6, Try.ntmps6
    go_wp2_with (first | ((with_reducible refine gate_callee (f := 12) rfl ?_); refine goesL_ (some 21) rfl rfl Try.func12 (by kernel_rfl) rfl #[] rfl (by (try simp only [List.map_toArray, List.map_cons, List.map_nil]); first | done | rfl | (simp only [List.length_drop, List.length_take]; rfl)) ?_; (with_reducible refine (parapetlaw01_Awake.calls k  false _ A5.out).mono ?_); rintro e w' ⟨rfl, ⟨nd, rfl⟩⟩; refine ⟨_, rfl, ?_⟩))
    go_ret
    exact ⟨by first | rfl | (simp; done) | (simp [*]; done), by repeat (first | exact Drawn0.refl _ | apply Drawn0.step)⟩

/-- THE ONE PURE STATEMENT of parapetlaw01_PolyRing: yours. -/
def parapetlaw01_PolyRing.Pure : Prop := ∀ (a0 : Int) (a1 : Int) (a2 : Int) (a3 : Int), (Lit.int .u64 a0).wf = true → (Lit.int .u64 a1).wf = true → (Lit.int .u64 a2).wf = true → (Lit.int .u64 a3).wf = true → ∃ k, parapetlaw01_PolyRing.f k a0 a1 a2 a3 = some true
theorem parapetlaw01_PolyRing.walk (P : parapetlaw01_PolyRing.Pure) (a0 : Int) (a1 : Int) (a2 : Int) (a3 : Int) (w : World) (w0 : (Lit.int .u64 a0).wf = true) (w1 : (Lit.int .u64 a1).wf = true) (w2 : (Lit.int .u64 a2).wf = true) (w3 : (Lit.int .u64 a3).wf = true) :
    Calls Try.prog 6 #[.int .u64 a0, .int .u64 a1, .int .u64 a2, .int .u64 a3] w fun e w' => e = .returned (.bool true) ∧ Below w.heap.size w w' := by
  obtain ⟨k, h⟩ := P a0 a1 a2 a3 w0 w1 w2 w3
  refine (parapetlaw01_PolyRing.calls k a0 a1 a2 a3 true w h).mono ?_
  rintro e w' ⟨rfl, hd⟩
  exact ⟨rfl, hd.below⟩

/-! ### parapetref01_Bits: function 32 -/
def parapetref01_Bits.l0 : Nat → List Bool → Int → Int → Int → Int → Option (Int)
  | 0, _, _, _, _, _ => none
  | k + 1, x0, x1, x5, x6, x7 => if x7 < (x0.length : Int) then (if 0 ≤ (wrap64 (x5 - 1)) then (if 0 ≤ x7 then (if rdOf false x0 x7 = true then (if (Go.bits .and .u64 (shr .u64 x6 (wrap64 (x5 - 1))) 1) = 0 then (parapetref01_Bits.l0 k x0 x1 x5 (Go.bits .xor .u64 (IntKind.u64.wrap (x6 * 2)) 1) (wrap64 (x7 + 1))) else (parapetref01_Bits.l0 k x0 x1 x5 (Go.bits .xor .u64 (Go.bits .xor .u64 (IntKind.u64.wrap (x6 * 2)) 1) x1) (wrap64 (x7 + 1)))) else (if (Go.bits .and .u64 (shr .u64 x6 (wrap64 (x5 - 1))) 1) = 0 then (parapetref01_Bits.l0 k x0 x1 x5 (IntKind.u64.wrap (x6 * 2)) (wrap64 (x7 + 1))) else (parapetref01_Bits.l0 k x0 x1 x5 (Go.bits .xor .u64 (IntKind.u64.wrap (x6 * 2)) x1) (wrap64 (x7 + 1))))) else (none)) else (none)) else (some x6)
def parapetref01_Bits.f (k : Nat) (l0 : List Bool) (a1 : Int) : Option (Int) := (parapetref01_Degree.f k a1).bind fun t170 => (if t170 = 0 then (some 0) else (parapetref01_Bits.l0 k l0 a1 t170 0 0))
theorem parapetref01_Bits.mono_l : ∀ k, (∀ y0 y1 y2 y3 y4, LeO (parapetref01_Bits.l0 k y0 y1 y2 y3 y4) (parapetref01_Bits.l0 (k + 1) y0 y1 y2 y3 y4))
  | 0 => fun _ _ _ _ _ r h => by simp [parapetref01_Bits.l0] at h
  | k + 1 => by
    have ih0 := parapetref01_Bits.mono_l k
    · intro y0 y1 y2 y3 y4
      unfold parapetref01_Bits.l0
      repeat' first
      | (with_reducible exact ih0 _ _ _ _ _)
      | (with_reducible exact parapetref01_Degree.mono _ _)
      | (with_reducible exact LeO.refl _)
      | (with_reducible exact LeO.none _)
      | (with_reducible refine LeO.ite ?_ ?_)
      | (with_reducible refine LeO.bind ?_ (fun _ => ?_))
      | exact ih0 _ _ _ _ _
      | exact parapetref01_Degree.mono _ _
      | exact LeO.none _
      | refine LeO.ite ?_ ?_
      | refine LeO.bind ?_ (fun _ => ?_)
theorem parapetref01_Bits.mono : ∀ a0 a1 k, LeO (parapetref01_Bits.f k a0 a1) (parapetref01_Bits.f (k + 1) a0 a1) := by
  intro a0 a1 k
  have ih0 := parapetref01_Bits.mono_l k
  unfold parapetref01_Bits.f
  repeat' first
      | (with_reducible exact ih0 _ _ _ _ _)
      | (with_reducible exact parapetref01_Degree.mono _ _)
      | (with_reducible exact LeO.refl _)
      | (with_reducible exact LeO.none _)
      | (with_reducible refine LeO.ite ?_ ?_)
      | (with_reducible refine LeO.bind ?_ (fun _ => ?_))
      | exact ih0 _ _ _ _ _
      | exact parapetref01_Degree.mono _ _
      | exact LeO.none _
      | refine LeO.ite ?_ ?_
      | refine LeO.bind ?_ (fun _ => ?_)
set_option maxHeartbeats 8000000 in
set_option maxRecDepth 100000 in
theorem parapetref01_Bits.calls (k : Nat) (A0 : Option Addr) (c0 : Nat) (l0 : List Bool) (a1 : Int) (r : Int) (w : World) (hr0 : Kd.C Kd.bool w A0 l0.length l0) (hc0 : l0.length ≤ c0) (h : parapetref01_Bits.f k l0 a1 = some r) :
    Calls Try.prog 32 #[.slice A0 l0.length c0, .int .u64 a1] w fun e w' => e = .returned (.int .u64 r) ∧ Drawn0 w w' := by
  have HR0 := Aside0.mk hr0
  have HC0 := Aside0.mk hc0
  clear hr0 hc0
  have H : ((parapetref01_Degree.f k a1).bind fun t170 => (if t170 = 0 then (some 0) else (parapetref01_Bits.l0 k l0 a1 t170 0 0))) = some r := h
  clear h
  replace H := Option.bind_eq_some_iff.mp H
  obtain ⟨t170, A30, H⟩ := H
  replace H : (if t170 = 0 then (some 0) else (parapetref01_Bits.l0 k l0 a1 t170 0 0)) = some r := H
  have A3 := Aside0.mk A30
  clear A30
  by_cases c4 : t170 = 0
  · rw [if_pos c4] at H
    have c4b0 : (t170 == 0) = true := beq_iff_eq.mpr c4
    have c4b1 : (t170 != 0) = false := bne_eq_false_iff_eq.mpr c4
    clear c4
    obtain rfl := Option.some.inj H
    go_enter Try.func32, Try.ntmps32
    go_wp2_with (first | ((with_reducible refine gate_callee (f := 25) rfl ?_); refine goesL_ (some 10) rfl rfl Try.func25 (by kernel_rfl) rfl #[.int .u64 a1] rfl (by (try simp only [List.map_toArray, List.map_cons, List.map_nil]); first | done | rfl | (simp only [List.length_drop, List.length_take]; rfl)) ?_; (with_reducible refine (parapetref01_Degree.calls k a1 t170 _ A3.out).mono ?_); rintro e w' ⟨rfl, ⟨nd, rfl⟩⟩; refine ⟨_, rfl, ?_⟩))
    go_ret
    exact ⟨by first | rfl | (simp; done) | (simp [*]; done), by repeat (first | exact Drawn0.refl _ | apply Drawn0.step)⟩
  · rw [if_neg c4] at H
    have c4b0 : (t170 == 0) = false := beq_eq_false_iff_ne.mpr c4
    have c4b1 : (t170 != 0) = true := bne_iff_ne.mpr c4
    have H' := Aside0.mk H
    clear H
    go_enter Try.func32, Try.ntmps32
    go_wp2_with (first | ((with_reducible refine gate_callee (f := 25) rfl ?_); refine goesL_ (some 10) rfl rfl Try.func25 (by kernel_rfl) rfl #[.int .u64 a1] rfl (by (try simp only [List.map_toArray, List.map_cons, List.map_nil]); first | done | rfl | (simp only [List.length_drop, List.length_take]; rfl)) ?_; (with_reducible refine (parapetref01_Degree.calls k a1 t170 _ A3.out).mono ?_); rintro e w' ⟨rfl, ⟨nd, rfl⟩⟩; refine ⟨_, rfl, ?_⟩))
    go_loopg [6, 7] k (fun kq v6 v7 w' => ∃ (x6_1 : Int) (x7_1 : Int), v6 = .int .u64 x6_1 ∧ v7 = .int .i64 x7_1 ∧ Aside0 (parapetref01_Bits.l0 kq l0 a1 t170 x6_1 x7_1 = some r) ∧ Aside0 (kq ≤ k) ∧ Drawn0 w w')
    case atStart => exact ⟨(0), (0), (by first | rfl | (simp; done) | (simp [*]; done)), (by first | rfl | (simp; done) | (simp [*]; done)), H', ⟨Nat.le_refl _⟩, by repeat (first | exact Drawn0.refl _ | apply Drawn0.step)⟩
    case round =>
      clear H'
      try clear c2
      try clear p2
      try clear c3
      try clear c4
      try clear c4b0
      try clear c4b1
      obtain ⟨x6_1, x7_1, rfl, rfl, HA, HK1, ⟨m1, rfl⟩⟩ := hrel
      cases gk with
      | zero => exact absurd HA.out (by simp [parapetref01_Bits.l0])
      | succ k1 =>
        have H := HA.out
        clear HA
        simp only [parapetref01_Bits.l0] at H
        by_cases c5 : x7_1 < (l0.length : Int)
        · rw [if_pos c5] at H
          have c5b0 : decide (x7_1 < (l0.length : Int)) = true := decide_eq_true c5
          clear c5
          obtain ⟨ji6, hji6⟩ : ∃ j_ : Int, (wrap64 (t170 - 1)) = j_ := ⟨_, rfl⟩
          replace H : (if 0 ≤ (ji6) then (if 0 ≤ x7_1 then (if rdOf false l0 x7_1 = true then (if (Go.bits .and .u64 (shr .u64 x6_1 (ji6)) 1) = 0 then (parapetref01_Bits.l0 k1 l0 a1 t170 (Go.bits .xor .u64 (IntKind.u64.wrap (x6_1 * 2)) 1) (wrap64 (x7_1 + 1))) else (parapetref01_Bits.l0 k1 l0 a1 t170 (Go.bits .xor .u64 (Go.bits .xor .u64 (IntKind.u64.wrap (x6_1 * 2)) 1) a1) (wrap64 (x7_1 + 1)))) else (if (Go.bits .and .u64 (shr .u64 x6_1 (ji6)) 1) = 0 then (parapetref01_Bits.l0 k1 l0 a1 t170 (IntKind.u64.wrap (x6_1 * 2)) (wrap64 (x7_1 + 1))) else (parapetref01_Bits.l0 k1 l0 a1 t170 (Go.bits .xor .u64 (IntKind.u64.wrap (x6_1 * 2)) a1) (wrap64 (x7_1 + 1))))) else (none)) else (none)) = some r := by first | (rw [hji6] at H; exact H) | (simp only [hji6] at H ⊢; exact H)
          have hji6w : (IntKind.i64.wrap (t170 - 1)) = ji6 := (i64_w _).trans hji6
          by_cases c7 : 0 ≤ (ji6)
          · rw [if_pos c7] at H
            have c7b0 := eq_true c7
            have c7b1 : decide (0 ≤ (ji6)) = true := decide_eq_true c7
            clear c7
            obtain ⟨ji8, hji8⟩ : ∃ j_ : Int, (shr .u64 x6_1 (ji6)) = j_ := ⟨_, rfl⟩
            replace H : (if 0 ≤ x7_1 then (if rdOf false l0 x7_1 = true then (if (Go.bits .and .u64 (ji8) 1) = 0 then (parapetref01_Bits.l0 k1 l0 a1 t170 (Go.bits .xor .u64 (IntKind.u64.wrap (x6_1 * 2)) 1) (wrap64 (x7_1 + 1))) else (parapetref01_Bits.l0 k1 l0 a1 t170 (Go.bits .xor .u64 (Go.bits .xor .u64 (IntKind.u64.wrap (x6_1 * 2)) 1) a1) (wrap64 (x7_1 + 1)))) else (if (Go.bits .and .u64 (ji8) 1) = 0 then (parapetref01_Bits.l0 k1 l0 a1 t170 (IntKind.u64.wrap (x6_1 * 2)) (wrap64 (x7_1 + 1))) else (parapetref01_Bits.l0 k1 l0 a1 t170 (Go.bits .xor .u64 (IntKind.u64.wrap (x6_1 * 2)) a1) (wrap64 (x7_1 + 1))))) else (none)) = some r := by first | (rw [hji8] at H; exact H) | (simp only [hji8] at H ⊢; exact H)
            have hji8_ : (x6_1 / 2 ^ min (ji6).toNat 64) = ji8 := hji8
            have hji8z : (ji6) ≤ 64 → (x6_1 / 2 ^ (ji6).toNat) = ji8 := shr_small hji8
            by_cases c9 : 0 ≤ x7_1
            · rw [if_pos c9] at H
              have c9b0 : decide (0 ≤ x7_1) = true := decide_eq_true c9
              clear c9
              obtain ⟨bq10, hbq10⟩ : ∃ b_ : Bool, b_ = (rdOf false l0 x7_1) := ⟨_, rfl⟩
              replace H : (if bq10 = true then (if (Go.bits .and .u64 (ji8) 1) = 0 then (parapetref01_Bits.l0 k1 l0 a1 t170 (Go.bits .xor .u64 (IntKind.u64.wrap (x6_1 * 2)) 1) (wrap64 (x7_1 + 1))) else (parapetref01_Bits.l0 k1 l0 a1 t170 (Go.bits .xor .u64 (Go.bits .xor .u64 (IntKind.u64.wrap (x6_1 * 2)) 1) a1) (wrap64 (x7_1 + 1)))) else (if (Go.bits .and .u64 (ji8) 1) = 0 then (parapetref01_Bits.l0 k1 l0 a1 t170 (IntKind.u64.wrap (x6_1 * 2)) (wrap64 (x7_1 + 1))) else (parapetref01_Bits.l0 k1 l0 a1 t170 (Go.bits .xor .u64 (IntKind.u64.wrap (x6_1 * 2)) a1) (wrap64 (x7_1 + 1))))) = some r := by rw [← hbq10] at H; exact H
              have Nbq10 := Aside0.mk hbq10
              clear hbq10
              by_cases c11 : bq10 = true
              · subst c11
                have H1 : (if (Go.bits .and .u64 (ji8) 1) = 0 then (parapetref01_Bits.l0 k1 l0 a1 t170 (Go.bits .xor .u64 (IntKind.u64.wrap (x6_1 * 2)) 1) (wrap64 (x7_1 + 1))) else (parapetref01_Bits.l0 k1 l0 a1 t170 (Go.bits .xor .u64 (Go.bits .xor .u64 (IntKind.u64.wrap (x6_1 * 2)) 1) a1) (wrap64 (x7_1 + 1)))) = some r := by rw [if_pos rfl] at H; exact H
                clear H
                have H := H1
                clear H1
                by_cases c12 : (Go.bits .and .u64 (ji8) 1) = 0
                · rw [if_pos c12] at H
                  have c12b0 : ((Go.bits .and .u64 (ji8) 1) == 0) = true := beq_iff_eq.mpr c12
                  have c12b1 : ((Go.bits .and .u64 (ji8) 1) != 0) = false := bne_eq_false_iff_eq.mpr c12
                  clear c12
                  have H' := Aside0.mk H
                  clear H
                  have p171 : 0 ≤ (x7_1 : Int) := of_decide_eq_true (by first | (with_reducible assumption) | assumption)
                  have q171 : x7_1 < (l0.length : Int) := of_decide_eq_true (by first | (with_reducible assumption) | assumption)
                  obtain ⟨ad171, e171, hx171_0⟩ := Kd.at_bool HR0.out x7_1 p171 q171
                  (try rw [← Nbq10.out] at hx171_0)
                  cases e171
                  replace p171 := eq_true p171
                  replace q171 := eq_true q171
                  go_wp2
                  go_roundg k1
                  case measure => have := HK1.out; omega
                  case rel => exact ⟨(Go.bits .xor .u64 (IntKind.u64.wrap (x6_1 * 2)) 1), (wrap64 (x7_1 + 1)), (by first | rfl | (simp; done) | (simp [*]; done)), (by first | rfl | (simp; done) | (simp [*]; done)), H', ⟨by have := HK1.out; omega⟩, by repeat (first | exact Drawn0.refl _ | apply Drawn0.step)⟩
                · rw [if_neg c12] at H
                  have c12b0 : ((Go.bits .and .u64 (ji8) 1) == 0) = false := beq_eq_false_iff_ne.mpr c12
                  have c12b1 : ((Go.bits .and .u64 (ji8) 1) != 0) = true := bne_iff_ne.mpr c12
                  have H' := Aside0.mk H
                  clear H
                  have p171 : 0 ≤ (x7_1 : Int) := of_decide_eq_true (by first | (with_reducible assumption) | assumption)
                  have q171 : x7_1 < (l0.length : Int) := of_decide_eq_true (by first | (with_reducible assumption) | assumption)
                  obtain ⟨ad171, e171, hx171_0⟩ := Kd.at_bool HR0.out x7_1 p171 q171
                  (try rw [← Nbq10.out] at hx171_0)
                  cases e171
                  replace p171 := eq_true p171
                  replace q171 := eq_true q171
                  go_wp2
                  go_roundg k1
                  case measure => have := HK1.out; omega
                  case rel => exact ⟨(Go.bits .xor .u64 (Go.bits .xor .u64 (IntKind.u64.wrap (x6_1 * 2)) 1) a1), (wrap64 (x7_1 + 1)), (by first | rfl | (simp; done) | (simp [*]; done)), (by first | rfl | (simp; done) | (simp [*]; done)), H', ⟨by have := HK1.out; omega⟩, by repeat (first | exact Drawn0.refl _ | apply Drawn0.step)⟩
              · replace c11 := Bool.eq_false_iff.mpr c11
                subst c11
                have H1 : (if (Go.bits .and .u64 (ji8) 1) = 0 then (parapetref01_Bits.l0 k1 l0 a1 t170 (IntKind.u64.wrap (x6_1 * 2)) (wrap64 (x7_1 + 1))) else (parapetref01_Bits.l0 k1 l0 a1 t170 (Go.bits .xor .u64 (IntKind.u64.wrap (x6_1 * 2)) a1) (wrap64 (x7_1 + 1)))) = some r := by rw [if_neg (show ¬ (false = true) by decide)] at H; exact H
                clear H
                have H := H1
                clear H1
                by_cases c13 : (Go.bits .and .u64 (ji8) 1) = 0
                · rw [if_pos c13] at H
                  have c13b0 : ((Go.bits .and .u64 (ji8) 1) == 0) = true := beq_iff_eq.mpr c13
                  have c13b1 : ((Go.bits .and .u64 (ji8) 1) != 0) = false := bne_eq_false_iff_eq.mpr c13
                  clear c13
                  have H' := Aside0.mk H
                  clear H
                  have p171 : 0 ≤ (x7_1 : Int) := of_decide_eq_true (by first | (with_reducible assumption) | assumption)
                  have q171 : x7_1 < (l0.length : Int) := of_decide_eq_true (by first | (with_reducible assumption) | assumption)
                  obtain ⟨ad171, e171, hx171_0⟩ := Kd.at_bool HR0.out x7_1 p171 q171
                  (try rw [← Nbq10.out] at hx171_0)
                  cases e171
                  replace p171 := eq_true p171
                  replace q171 := eq_true q171
                  go_wp2
                  go_roundg k1
                  case measure => have := HK1.out; omega
                  case rel => exact ⟨(IntKind.u64.wrap (x6_1 * 2)), (wrap64 (x7_1 + 1)), (by first | rfl | (simp; done) | (simp [*]; done)), (by first | rfl | (simp; done) | (simp [*]; done)), H', ⟨by have := HK1.out; omega⟩, by repeat (first | exact Drawn0.refl _ | apply Drawn0.step)⟩
                · rw [if_neg c13] at H
                  have c13b0 : ((Go.bits .and .u64 (ji8) 1) == 0) = false := beq_eq_false_iff_ne.mpr c13
                  have c13b1 : ((Go.bits .and .u64 (ji8) 1) != 0) = true := bne_iff_ne.mpr c13
                  have H' := Aside0.mk H
                  clear H
                  have p171 : 0 ≤ (x7_1 : Int) := of_decide_eq_true (by first | (with_reducible assumption) | assumption)
                  have q171 : x7_1 < (l0.length : Int) := of_decide_eq_true (by first | (with_reducible assumption) | assumption)
                  obtain ⟨ad171, e171, hx171_0⟩ := Kd.at_bool HR0.out x7_1 p171 q171
                  (try rw [← Nbq10.out] at hx171_0)
                  cases e171
                  replace p171 := eq_true p171
                  replace q171 := eq_true q171
                  go_wp2
                  go_roundg k1
                  case measure => have := HK1.out; omega
                  case rel => exact ⟨(Go.bits .xor .u64 (IntKind.u64.wrap (x6_1 * 2)) a1), (wrap64 (x7_1 + 1)), (by first | rfl | (simp; done) | (simp [*]; done)), (by first | rfl | (simp; done) | (simp [*]; done)), H', ⟨by have := HK1.out; omega⟩, by repeat (first | exact Drawn0.refl _ | apply Drawn0.step)⟩
            · rw [if_neg c9] at H
              exact absurd H (by simp)
          · rw [if_neg c7] at H
            exact absurd H (by simp)
        · rw [if_neg c5] at H
          have c5b0 : decide (x7_1 < (l0.length : Int)) = false := decide_eq_false c5
          clear c5
          obtain rfl := Option.some.inj H
          go_wp2
          go_ret
          exact ⟨by first | rfl | (simp; done) | (simp [*]; done), by repeat (first | exact Drawn0.refl _ | apply Drawn0.step)⟩

/-! ### parapetref01_MulMod: function 20 -/
mutual
def parapetref01_MulMod.l0 : Nat → Int → Int → Int → List Bool → Int → Option (Int × Int)
  | 0, _, _, _, _, _ => none
  | k + 1, x0, x1, x2, x8, x9 => if x9 < 64 then (parapetref01_MulMod.l1 k x0 x1 x2 x8 x9 0) else ((parapetref01_Bits.f k x8 x2).bind fun t175 => (some (t175, 0)))
def parapetref01_MulMod.l1 : Nat → Int → Int → Int → List Bool → Int → Int → Option (Int × Int)
  | 0, _, _, _, _, _, _ => none
  | k + 1, x0, x1, x2, x8, x9, x10 => if x10 < 64 then (if 0 ≤ x9 then (if (Go.bits .and .u64 (shr .u64 x0 x9) 1) = 0 then (parapetref01_MulMod.l1 k x0 x1 x2 x8 x9 (wrap64 (x10 + 1))) else (if 0 ≤ x10 then (if (Go.bits .and .u64 (shr .u64 x1 x10) 1) = 0 then (parapetref01_MulMod.l1 k x0 x1 x2 x8 x9 (wrap64 (x10 + 1))) else (if 0 ≤ (wrap64 ((wrap64 (126 - x9)) - x10)) then (if (wrap64 ((wrap64 (126 - x9)) - x10)) < (x8.length : Int) then (parapetref01_MulMod.l1 k x0 x1 x2 (x8.set ((wrap64 ((wrap64 (126 - x9)) - x10)) : Int).toNat (!(rdOf false x8 (wrap64 ((wrap64 (126 - x9)) - x10))))) x9 (wrap64 (x10 + 1))) else (none)) else (none))) else (none))) else (none)) else (parapetref01_MulMod.l0 k x0 x1 x2 x8 (wrap64 (x9 + 1)))
end
def parapetref01_MulMod.f (k : Nat) (a0 : Int) (a1 : Int) (a2 : Int) : Option (Int × Int) := if a2 = 0 then (some (0, 10)) else (if 127 ≤ 281474976710656 then (parapetref01_MulMod.l0 k a0 a1 a2 (List.replicate 127 false) 0) else (none))
theorem parapetref01_MulMod.mono_l : ∀ k, (∀ y0 y1 y2 y3 y4, LeO (parapetref01_MulMod.l0 k y0 y1 y2 y3 y4) (parapetref01_MulMod.l0 (k + 1) y0 y1 y2 y3 y4)) ∧ (∀ y0 y1 y2 y3 y4 y5, LeO (parapetref01_MulMod.l1 k y0 y1 y2 y3 y4 y5) (parapetref01_MulMod.l1 (k + 1) y0 y1 y2 y3 y4 y5))
  | 0 => ⟨fun _ _ _ _ _ r h => by simp [parapetref01_MulMod.l0] at h, fun _ _ _ _ _ _ r h => by simp [parapetref01_MulMod.l1] at h⟩
  | k + 1 => by
    obtain ⟨ih0, ih1⟩ := parapetref01_MulMod.mono_l k
    refine ⟨?_, ?_⟩
    · intro y0 y1 y2 y3 y4
      unfold parapetref01_MulMod.l0
      repeat' first
      | (with_reducible exact ih0 _ _ _ _ _)
      | (with_reducible exact ih1 _ _ _ _ _ _)
      | (with_reducible exact parapetref01_Bits.mono _ _ _)
      | (with_reducible exact LeO.refl _)
      | (with_reducible exact LeO.none _)
      | (with_reducible refine LeO.ite ?_ ?_)
      | (with_reducible refine LeO.bind ?_ (fun _ => ?_))
      | exact ih0 _ _ _ _ _
      | exact ih1 _ _ _ _ _ _
      | exact parapetref01_Bits.mono _ _ _
      | exact LeO.none _
      | refine LeO.ite ?_ ?_
      | refine LeO.bind ?_ (fun _ => ?_)
    · intro y0 y1 y2 y3 y4 y5
      unfold parapetref01_MulMod.l1
      repeat' first
      | (with_reducible exact ih0 _ _ _ _ _)
      | (with_reducible exact ih1 _ _ _ _ _ _)
      | (with_reducible exact parapetref01_Bits.mono _ _ _)
      | (with_reducible exact LeO.refl _)
      | (with_reducible exact LeO.none _)
      | (with_reducible refine LeO.ite ?_ ?_)
      | (with_reducible refine LeO.bind ?_ (fun _ => ?_))
      | exact ih0 _ _ _ _ _
      | exact ih1 _ _ _ _ _ _
      | exact parapetref01_Bits.mono _ _ _
      | exact LeO.none _
      | refine LeO.ite ?_ ?_
      | refine LeO.bind ?_ (fun _ => ?_)
theorem parapetref01_MulMod.mono : ∀ a0 a1 a2 k, LeO (parapetref01_MulMod.f k a0 a1 a2) (parapetref01_MulMod.f (k + 1) a0 a1 a2) := by
  intro a0 a1 a2 k
  obtain ⟨ih0, ih1⟩ := parapetref01_MulMod.mono_l k
  unfold parapetref01_MulMod.f
  repeat' first
      | (with_reducible exact ih0 _ _ _ _ _)
      | (with_reducible exact ih1 _ _ _ _ _ _)
      | (with_reducible exact parapetref01_Bits.mono _ _ _)
      | (with_reducible exact LeO.refl _)
      | (with_reducible exact LeO.none _)
      | (with_reducible refine LeO.ite ?_ ?_)
      | (with_reducible refine LeO.bind ?_ (fun _ => ?_))
      | exact ih0 _ _ _ _ _
      | exact ih1 _ _ _ _ _ _
      | exact parapetref01_Bits.mono _ _ _
      | exact LeO.none _
      | refine LeO.ite ?_ ?_
      | refine LeO.bind ?_ (fun _ => ?_)
set_option maxHeartbeats 8000000 in
set_option maxRecDepth 100000 in
theorem parapetref01_MulMod.calls (k : Nat) (a0 : Int) (a1 : Int) (a2 : Int) (r1 : Int) (r2 : Int) (w : World) (h : parapetref01_MulMod.f k a0 a1 a2 = some (r1, r2)) :
    Calls Try.prog 20 #[.int .u64 a0, .int .u64 a1, .int .u64 a2] w fun e w' => e = .returned (.tuple #[.int .u64 r1, .int .i64 r2]) ∧ Below w.heap.size w w' := by
  have HB := Aside0.mk (Below.refl w.heap.size w)
  have H : (if a2 = 0 then (some (0, 10)) else (if 127 ≤ 281474976710656 then (parapetref01_MulMod.l0 k a0 a1 a2 (List.replicate 127 false) 0) else (none))) = some (r1, r2) := h
  clear h
  by_cases c4 : a2 = 0
  · rw [if_pos c4] at H
    have c4b0 : (a2 == 0) = true := beq_iff_eq.mpr c4
    have c4b1 : (a2 != 0) = false := bne_eq_false_iff_eq.mpr c4
    clear c4
    simp only [Option.some.injEq, Prod.mk.injEq] at H
    obtain ⟨rfl, rfl⟩ := H
    go_enter Try.func20, Try.ntmps20
    go_wp2
    go_ret2
    exact ⟨by first | rfl | (simp [errW_none, errW_some] <;> rfl) | (simp [*, errW_none, errW_some] <;> rfl), by repeat (first | (with_reducible first | exact HB.out | apply below_alloc | apply pw_below_drewN | apply below_drew1) | exact HB.out)⟩
  · rw [if_neg c4] at H
    have c4b0 : (a2 == 0) = false := beq_eq_false_iff_ne.mpr c4
    have c4b1 : (a2 != 0) = true := bne_iff_ne.mpr c4
    by_cases c5 : 127 ≤ 281474976710656
    · rw [if_pos c5] at H
      have c5b0 := eq_true c5
      have c5b1 : decide (127 ≤ 281474976710656) = true := decide_eq_true c5
      clear c5
      obtain ⟨y172, hy172⟩ : ∃ y_ : List Bool, y_ = (List.replicate 127 false) := ⟨_, rfl⟩
      replace H : (parapetref01_MulMod.l0 k a0 a1 a2 y172 0) = some (r1, r2) := by first | (rw [hy172]; with_reducible exact H) | (have H2_ := (Option.bind_some _ _).symm.trans H; rw [hy172]; with_reducible exact H2_) | (have H2_ := (Option.bind_some _ _).symm.trans H; with_reducible exact H2_) | with_reducible exact H | (rw [hy172]; exact H) | exact H
      have Ny172 := Aside0.mk hy172
      clear hy172
      have H' := Aside0.mk H
      clear H
      go_enter Try.func20, Try.ntmps20
      go_wp2_with (first | ((with_reducible refine gate_dst (N := 13) rfl ?_); refine Kd.R_make Kd.bool _ 4 rfl (N := 13) rfl 52 _ _ rfl 127 rfl rfl Try.underlying52 (.bool false) 1 info4 rfl (by decide) (by omega) false (ok := fun _ => True) (okp := fun _ => True) rfl (fun _ hk => hk) trivial (by omega) (by omega) (Below.refl _ _) (Nat.le_refl _) ?_; intro v173 w6 ho7 hb hg_ hnew_; clear hg_ hnew_; (first | rw [← Ny172.out] at ho7 | (simp only [Int.reduceToNat] at ho7; rw [← Ny172.out] at ho7)); have n0_ := Aside0.mk (Kd.R_lower ho7 (below_size (by repeat (first | (with_reducible first | exact HB.out | apply below_alloc | apply pw_below_drewN | apply below_drew1) | exact HB.out)))); have n1_ := Aside0.mk (below_step (by repeat (first | (with_reducible first | exact HB.out | apply below_alloc | apply pw_below_drewN | apply below_drew1) | exact HB.out)) hb); clear HB; have HO174 := n0_; have HB := n1_; clear n0_ n1_; clear hb ho7))
      go_loopg [9] k (fun kq v9 w' => ∃ (x8_1 : List Bool) (x9_1 : Int), v9 = .int .i64 x9_1 ∧ Aside0 (parapetref01_MulMod.l0 kq a0 a1 a2 x8_1 x9_1 = some (r1, r2)) ∧ Aside0 (kq ≤ k) ∧ Aside0 (Kd.R Kd.bool 4 w' w.heap.size (fun _ => True) v173 x8_1) ∧ Aside0 (Below w.heap.size w w'))
      case atStart => exact ⟨(y172), (0), (by first | rfl | (simp; done) | (simp [*]; done)), H', ⟨Nat.le_refl _⟩, ⟨by (with_reducible repeat (first | apply Kd.R_alloc | apply Kd.R_drewN | apply Kd.R_drew)); exact HO174.out⟩, ⟨by repeat (first | (with_reducible first | exact HB.out | apply below_alloc | apply pw_below_drewN | apply below_drew1) | exact HB.out)⟩⟩
      case round =>
        clear H'
        try clear c2
        try clear p2
        try clear c4
        try clear c4b0
        try clear c4b1
        try clear c5
        try clear c5b0
        try clear c5b1
        obtain ⟨x8_1, x9_1, rfl, HA, HK1, HO_8, HB⟩ := hrel
        cases gk with
        | zero => exact absurd HA.out (by simp [parapetref01_MulMod.l0])
        | succ k1 =>
          have H := HA.out
          clear HA
          simp only [parapetref01_MulMod.l0] at H
          by_cases c8 : x9_1 < 64
          · rw [if_pos c8] at H
            have c8b0 : decide (x9_1 < 64) = true := decide_eq_true c8
            clear c8
            have H' := Aside0.mk H
            clear H
            go_wp2
            go_loopg [10] k1 (fun kq v10 w' => ∃ (x8_2 : List Bool) (x10_2 : Int), v10 = .int .i64 x10_2 ∧ Aside0 (parapetref01_MulMod.l1 kq a0 a1 a2 x8_2 x9_1 x10_2 = some (r1, r2)) ∧ Aside0 (kq ≤ k1) ∧ Aside0 (Kd.R Kd.bool 4 w' w.heap.size (fun _ => True) v173 x8_2) ∧ Aside0 (Below w.heap.size w w'))
            case atStart => exact ⟨(x8_1), (0), (by first | rfl | (simp; done) | (simp [*]; done)), H', ⟨Nat.le_refl _⟩, ⟨by (with_reducible repeat (first | apply Kd.R_alloc | apply Kd.R_drewN | apply Kd.R_drew)); exact HO_8.out⟩, ⟨by repeat (first | (with_reducible first | exact HB.out | apply below_alloc | apply pw_below_drewN | apply below_drew1) | exact HB.out)⟩⟩
            case round =>
              clear H'
              try clear c2
              try clear p2
              try clear c4
              try clear c4b0
              try clear c4b1
              try clear c5
              try clear c5b0
              try clear c5b1
              try clear c8
              try clear c8b0
              try clear p2
              obtain ⟨x8_2, x10_2, rfl, HA, HK2, HO_8, HB⟩ := hrel
              cases gk with
              | zero => exact absurd HA.out (by simp [parapetref01_MulMod.l1])
              | succ k2 =>
                have H := HA.out
                clear HA
                simp only [parapetref01_MulMod.l1] at H
                by_cases c9 : x10_2 < 64
                · rw [if_pos c9] at H
                  have c9b0 : decide (x10_2 < 64) = true := decide_eq_true c9
                  clear c9
                  by_cases c10 : 0 ≤ x9_1
                  · rw [if_pos c10] at H
                    have c10b0 := eq_true c10
                    have c10b1 : decide (0 ≤ x9_1) = true := decide_eq_true c10
                    clear c10
                    obtain ⟨ji11, hji11⟩ : ∃ j_ : Int, (shr .u64 a0 x9_1) = j_ := ⟨_, rfl⟩
                    replace H : (if (Go.bits .and .u64 (ji11) 1) = 0 then (parapetref01_MulMod.l1 k2 a0 a1 a2 x8_2 x9_1 (wrap64 (x10_2 + 1))) else (if 0 ≤ x10_2 then (if (Go.bits .and .u64 (shr .u64 a1 x10_2) 1) = 0 then (parapetref01_MulMod.l1 k2 a0 a1 a2 x8_2 x9_1 (wrap64 (x10_2 + 1))) else (if 0 ≤ (wrap64 ((wrap64 (126 - x9_1)) - x10_2)) then (if (wrap64 ((wrap64 (126 - x9_1)) - x10_2)) < (x8_2.length : Int) then (parapetref01_MulMod.l1 k2 a0 a1 a2 (x8_2.set ((wrap64 ((wrap64 (126 - x9_1)) - x10_2)) : Int).toNat (!(rdOf false x8_2 (wrap64 ((wrap64 (126 - x9_1)) - x10_2))))) x9_1 (wrap64 (x10_2 + 1))) else (none)) else (none))) else (none))) = some (r1, r2) := by first | (rw [hji11] at H; exact H) | (simp only [hji11] at H ⊢; exact H)
                    have hji11_ : (a0 / 2 ^ min x9_1.toNat 64) = ji11 := hji11
                    have hji11z : x9_1 ≤ 64 → (a0 / 2 ^ x9_1.toNat) = ji11 := shr_small hji11
                    by_cases c12 : (Go.bits .and .u64 (ji11) 1) = 0
                    · rw [if_pos c12] at H
                      have c12b0 : ((Go.bits .and .u64 (ji11) 1) == 0) = true := beq_iff_eq.mpr c12
                      have c12b1 : ((Go.bits .and .u64 (ji11) 1) != 0) = false := bne_eq_false_iff_eq.mpr c12
                      clear c12
                      have H' := Aside0.mk H
                      clear H
                      go_wp2
                      go_roundg k2
                      case measure => have := HK1.out; have := HK2.out; omega
                      case rel => exact ⟨(x8_2), (wrap64 (x10_2 + 1)), (by first | rfl | (simp; done) | (simp [*]; done)), H', ⟨by have := HK1.out; have := HK2.out; omega⟩, ⟨by (with_reducible repeat (first | apply Kd.R_alloc | apply Kd.R_drewN | apply Kd.R_drew)); exact HO_8.out⟩, ⟨by repeat (first | (with_reducible first | exact HB.out | apply below_alloc | apply pw_below_drewN | apply below_drew1) | exact HB.out)⟩⟩
                    · rw [if_neg c12] at H
                      have c12b0 : ((Go.bits .and .u64 (ji11) 1) == 0) = false := beq_eq_false_iff_ne.mpr c12
                      have c12b1 : ((Go.bits .and .u64 (ji11) 1) != 0) = true := bne_iff_ne.mpr c12
                      by_cases c13 : 0 ≤ x10_2
                      · rw [if_pos c13] at H
                        have c13b0 := eq_true c13
                        have c13b1 : decide (0 ≤ x10_2) = true := decide_eq_true c13
                        clear c13
                        obtain ⟨ji14, hji14⟩ : ∃ j_ : Int, (shr .u64 a1 x10_2) = j_ := ⟨_, rfl⟩
                        replace H : (if (Go.bits .and .u64 (ji14) 1) = 0 then (parapetref01_MulMod.l1 k2 a0 a1 a2 x8_2 x9_1 (wrap64 (x10_2 + 1))) else (if 0 ≤ (wrap64 ((wrap64 (126 - x9_1)) - x10_2)) then (if (wrap64 ((wrap64 (126 - x9_1)) - x10_2)) < (x8_2.length : Int) then (parapetref01_MulMod.l1 k2 a0 a1 a2 (x8_2.set ((wrap64 ((wrap64 (126 - x9_1)) - x10_2)) : Int).toNat (!(rdOf false x8_2 (wrap64 ((wrap64 (126 - x9_1)) - x10_2))))) x9_1 (wrap64 (x10_2 + 1))) else (none)) else (none))) = some (r1, r2) := by first | (rw [hji14] at H; exact H) | (simp only [hji14] at H ⊢; exact H)
                        have hji14_ : (a1 / 2 ^ min x10_2.toNat 64) = ji14 := hji14
                        have hji14z : x10_2 ≤ 64 → (a1 / 2 ^ x10_2.toNat) = ji14 := shr_small hji14
                        by_cases c15 : (Go.bits .and .u64 (ji14) 1) = 0
                        · rw [if_pos c15] at H
                          have c15b0 : ((Go.bits .and .u64 (ji14) 1) == 0) = true := beq_iff_eq.mpr c15
                          have c15b1 : ((Go.bits .and .u64 (ji14) 1) != 0) = false := bne_eq_false_iff_eq.mpr c15
                          clear c15
                          have H' := Aside0.mk H
                          clear H
                          go_wp2
                          go_roundg k2
                          case measure => have := HK1.out; have := HK2.out; omega
                          case rel => exact ⟨(x8_2), (wrap64 (x10_2 + 1)), (by first | rfl | (simp; done) | (simp [*]; done)), H', ⟨by have := HK1.out; have := HK2.out; omega⟩, ⟨by (with_reducible repeat (first | apply Kd.R_alloc | apply Kd.R_drewN | apply Kd.R_drew)); exact HO_8.out⟩, ⟨by repeat (first | (with_reducible first | exact HB.out | apply below_alloc | apply pw_below_drewN | apply below_drew1) | exact HB.out)⟩⟩
                        · rw [if_neg c15] at H
                          have c15b0 : ((Go.bits .and .u64 (ji14) 1) == 0) = false := beq_eq_false_iff_ne.mpr c15
                          have c15b1 : ((Go.bits .and .u64 (ji14) 1) != 0) = true := bne_iff_ne.mpr c15
                          obtain ⟨ji16, hji16⟩ : ∃ j_ : Int, (wrap64 ((wrap64 (126 - x9_1)) - x10_2)) = j_ := ⟨_, rfl⟩
                          replace H : (if 0 ≤ (ji16) then (if (ji16) < (x8_2.length : Int) then (parapetref01_MulMod.l1 k2 a0 a1 a2 (x8_2.set ((ji16) : Int).toNat (!(rdOf false x8_2 (ji16)))) x9_1 (wrap64 (x10_2 + 1))) else (none)) else (none)) = some (r1, r2) := by first | (rw [hji16] at H; exact H) | (simp only [hji16] at H ⊢; exact H)
                          have hji16w : (IntKind.i64.wrap ((wrap64 (126 - x9_1)) - x10_2)) = ji16 := (i64_w _).trans hji16
                          by_cases c17 : 0 ≤ (ji16)
                          · rw [if_pos c17] at H
                            have c17b0 : decide (0 ≤ (ji16)) = true := decide_eq_true c17
                            clear c17
                            by_cases c18 : (ji16) < (x8_2.length : Int)
                            · rw [if_pos c18] at H
                              have c18b0 : decide ((ji16) < (x8_2.length : Int)) = true := decide_eq_true c18
                              clear c18
                              obtain ⟨y177, hy177⟩ : ∃ y_ : List Bool, y_ = (x8_2.set ((ji16) : Int).toNat (!(rdOf false x8_2 (ji16)))) := ⟨_, rfl⟩
                              replace H : (parapetref01_MulMod.l1 k2 a0 a1 a2 y177 x9_1 (wrap64 (x10_2 + 1))) = some (r1, r2) := by first | (rw [hy177]; with_reducible exact H) | (have H2_ := (Option.bind_some _ _).symm.trans H; rw [hy177]; with_reducible exact H2_) | (have H2_ := (Option.bind_some _ _).symm.trans H; with_reducible exact H2_) | with_reducible exact H | (rw [hy177]; exact H) | exact H
                              have Ny177 := Aside0.mk hy177
                              clear hy177
                              have H' := Aside0.mk H
                              clear H
                              obtain ⟨Ao20, co20, eo20⟩ := Kd.R_slice HO_8.out
                              subst eo20
                              have p176 : 0 ≤ ((ji16) : Int) := of_decide_eq_true (by first | (with_reducible assumption) | assumption)
                              have q176 : (ji16) < (x8_2.length : Int) := of_decide_eq_true (by first | (with_reducible assumption) | assumption)
                              obtain ⟨ad176, e176, hx176_0⟩ := Kd.at_bool (Kd.R_reads' HO_8.out).2.2 (ji16) p176 q176
                              cases e176
                              replace p176 := eq_true p176
                              replace q176 := eq_true q176
                              have p19 : 0 ≤ ((ji16) : Int) := of_decide_eq_true (by first | (with_reducible assumption) | assumption)
                              have q19 : ((ji16) : Int) < ((x8_2.length : Int) : Int) := of_decide_eq_true (by first | (with_reducible assumption) | assumption)
                              obtain ⟨go19, co19, eo19, gb19, gl19, cl19, HG19⟩ := Kd.R_form HO_8.out (by omega)
                              (first | cases eo19 | (injection eo19 with ea_ en_ ec_; (first | subst ea_ | (injection ea_ with ea_; subst ea_)); subst ec_; clear en_))
                              have GB19 := Aside0.mk gb19
                              have GG19 := Aside0.mk HG19
                              clear gb19 gl19 HG19
                              (first | simp only [add_plain] at hx176_0 | skip)
                              obtain ⟨hx19_0, hf19_0⟩ := Kd.R_celln false HO_8.out ((ji16) : Int) p19 q19
                              replace p19 := eq_true p19
                              replace q19 := eq_true q19
                              have HP21 := Kd.R_putg HO_8.out ((ji16) : Int) (!(rdOf false x8_2 (ji16)))
                              go_wp2_with (first | ((with_reducible refine gate_store (t := 4) (p := 47) rfl ?_); refine store_event (t := 4) (p := 47) (v := ?vo_w22) (w1 := (wr.setCell ⟨go19, ((ji16) : Int).toNat, none⟩ (.bool (!(rdOf false x8_2 (ji16)))))) ?hg ?ho ?hn ?hr ?_; (case ho => rfl); (case hg => rfl); (case hn => rfl); (case hr => first | (go_simp; done) | (go_simp; rfl)); intro w22 hw; have hg : wr.grownBy w22 (some go19) := (by rw [hw]; exact HP21.2); have hp_ : Kd.R Kd.bool 4 w22 w.heap.size (fun _ => True) (.slice (some ⟨go19, 0, none⟩) x8_2.length co20) y177 := (by rw [hw, Ny177.out]; exact HP21.1); clear HP21; have n0_ := Aside0.mk (hp_); have n1_ := Aside0.mk ((by rw [hw]; exact below_set (HB.out) GB19.out : Below w.heap.size w w22)); clear HO_8; clear HB; have HO_8 := n0_; have HB := n1_; clear n0_ n1_; clear hg hw hp_))
                              go_roundg k2
                              case measure => have := HK1.out; have := HK2.out; omega
                              case rel => exact ⟨(y177), (wrap64 (x10_2 + 1)), (by first | rfl | (simp; done) | (simp [*]; done)), H', ⟨by have := HK1.out; have := HK2.out; omega⟩, ⟨by (with_reducible repeat (first | apply Kd.R_alloc | apply Kd.R_drewN | apply Kd.R_drew)); exact HO_8.out⟩, ⟨by repeat (first | (with_reducible first | exact HB.out | apply below_alloc | apply pw_below_drewN | apply below_drew1) | exact HB.out)⟩⟩
                            · rw [if_neg c18] at H
                              exact absurd H (by simp)
                          · rw [if_neg c17] at H
                            exact absurd H (by simp)
                      · rw [if_neg c13] at H
                        exact absurd H (by simp)
                  · rw [if_neg c10] at H
                    exact absurd H (by simp)
                · rw [if_neg c9] at H
                  have c9b0 : decide (x10_2 < 64) = false := decide_eq_false c9
                  clear c9
                  have H' := Aside0.mk H
                  clear H
                  go_wp2
                  go_roundg k2
                  case measure => have := HK1.out; have := HK2.out; omega
                  case rel => exact ⟨(x8_2), (wrap64 (x9_1 + 1)), (by first | rfl | (simp; done) | (simp [*]; done)), H', ⟨by have := HK1.out; have := HK2.out; omega⟩, ⟨by (with_reducible repeat (first | apply Kd.R_alloc | apply Kd.R_drewN | apply Kd.R_drew)); exact HO_8.out⟩, ⟨by repeat (first | (with_reducible first | exact HB.out | apply below_alloc | apply pw_below_drewN | apply below_drew1) | exact HB.out)⟩⟩
          · rw [if_neg c8] at H
            have c8b0 : decide (x9_1 < 64) = false := decide_eq_false c8
            clear c8
            replace H := Option.bind_eq_some_iff.mp H
            obtain ⟨t175, A230, H⟩ := H
            replace H : (some (t175, 0)) = some (r1, r2) := H
            have A23 := Aside0.mk A230
            clear A230
            simp only [Option.some.injEq, Prod.mk.injEq] at H
            obtain ⟨rfl, rfl⟩ := H
            obtain ⟨Ao24, co24, eo24⟩ := Kd.R_slice HO_8.out
            subst eo24
            go_wp2_with (first | ((with_reducible refine gate_callee (f := 32) rfl ?_); refine goesL_ (some 50) rfl rfl Try.func32 (by kernel_rfl) rfl #[.slice Ao24 x8_1.length co24, .int .u64 a2] rfl (by (try simp only [List.map_toArray, List.map_cons, List.map_nil]); first | done | rfl | (simp only [List.length_drop, List.length_take]; rfl)) ?_; (with_reducible refine (parapetref01_Bits.calls k1 _ _ x8_1 a2 t175 _ ?side1 ?side2 A23.out).mono ?_); (case side1 => repeat (first | exact (Kd.R_reads' HO_8.out).2.2 | (with_reducible refine Kd.C_alloc ?_ _) | (with_reducible refine Kd.C_drewN ?_ _) | (with_reducible refine Kd.C_drew ?_))); (case side2 => exact (Kd.R_reads' HO_8.out).2.1); rintro e w' ⟨rfl, ⟨nd, rfl⟩⟩; refine ⟨_, rfl, ?_⟩))
            go_ret2
            exact ⟨by first | rfl | (simp [errW_none, errW_some] <;> rfl) | (simp [*, errW_none, errW_some] <;> rfl), by repeat (first | (with_reducible first | exact HB.out | apply below_alloc | apply pw_below_drewN | apply below_drew1) | exact HB.out)⟩
    · rw [if_neg c5] at H
      exact absurd H (by simp)

end Go.Proofs.Ytcnlomknmhgpbac.PP
