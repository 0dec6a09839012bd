-- Written by a program of this session (wip/pr.sh): the functions' plain forms and their walks.
import Derived.Test.YtcnlomknmhgpbacPPx0
import Derived.Test.YtcnlomknmhgpbacPPx1
import Derived.Test.YtcnlomknmhgpbacPPx2
import Derived.Test.YtcnlomknmhgpbacPPx4
namespace Go.Proofs.Ytcnlomknmhgpbac.PP
open Go.RowKit Go.Proofs.YtcnlomknmhgpbacW.PrintWords Go.Proofs.YtcnlomknmhgpbacW.PrintLast Go.Proofs.YtcnlomknmhgpbacW.PrintMore
attribute [local go_sem] max2_int min2_int max_two min_two max_three min_three max_four min_four   -- for this text's walks alone
set_option linter.unusedVariables false
set_option linter.unusedSimpArgs false

/-! ### parapetlaw01_PolyWords: function 10 -/
def parapetlaw01_PolyWords.f (k : Nat) (a0 : Int) (a1 : Int) (a2 : Int) : Option (Bool) := (parapetlaw01_Awake.f k).bind fun t215 => (if t215 = true then ((poly_Degree.f k a0).bind fun t216 => ((parapetref01_Degree.f k a0).bind fun t217 => (if t216 = t217 then ((poly_Weight.f a0).bind fun t218 => ((parapetref01_Weight.f k a0).bind fun t219 => (if t218 = t219 then ((poly_Mul.f k a1 a2).bind fun t220 => ((parapetref01_Mul.f k a1 a2).bind fun t221 => (some (t220 == t221)))) else (some false)))) else (some false)))) else (some false))
theorem parapetlaw01_PolyWords.mono : ∀ a0 a1 a2 k, LeO (parapetlaw01_PolyWords.f k a0 a1 a2) (parapetlaw01_PolyWords.f (k + 1) a0 a1 a2) := by
  intro a0 a1 a2 k
  unfold parapetlaw01_PolyWords.f
  repeat' first
      | (with_reducible exact parapetlaw01_Awake.mono _)
      | (with_reducible exact parapetref01_Degree.mono _ _)
      | (with_reducible exact parapetref01_Mul.mono _ _ _)
      | (with_reducible exact parapetref01_Weight.mono _ _)
      | (with_reducible exact poly_Degree.mono _ _)
      | (with_reducible exact poly_Mul.mono _ _ _)
      | (with_reducible exact LeO.refl _)
      | (with_reducible exact LeO.none _)
      | (with_reducible refine LeO.ite ?_ ?_)
      | (with_reducible refine LeO.bind ?_ (fun _ => ?_))
      | exact parapetlaw01_Awake.mono _
      | exact parapetref01_Degree.mono _ _
      | exact parapetref01_Mul.mono _ _ _
      | exact parapetref01_Weight.mono _ _
      | exact poly_Degree.mono _ _
      | exact poly_Mul.mono _ _ _
      | exact LeO.none _
      | refine LeO.ite ?_ ?_
      | refine LeO.bind ?_ (fun _ => ?_)
set_option maxHeartbeats 8000000 in
set_option maxRecDepth 100000 in
theorem parapetlaw01_PolyWords.calls (k : Nat) (a0 : Int) (a1 : Int) (a2 : Int) (r : Bool) (w : World) (h : parapetlaw01_PolyWords.f k a0 a1 a2 = some r) :
    Calls Try.prog 10 #[.int .u64 a0, .int .u32 a1, .int .u32 a2] w fun e w' => e = .returned (.bool r) ∧ Drawn0 w w' := by
  have H : ((parapetlaw01_Awake.f k).bind fun t215 => (if t215 = true then ((poly_Degree.f k a0).bind fun t216 => ((parapetref01_Degree.f k a0).bind fun t217 => (if t216 = t217 then ((poly_Weight.f a0).bind fun t218 => ((parapetref01_Weight.f k a0).bind fun t219 => (if t218 = t219 then ((poly_Mul.f k a1 a2).bind fun t220 => ((parapetref01_Mul.f k a1 a2).bind fun t221 => (some (t220 == t221)))) else (some false)))) else (some false)))) else (some false))) = some r := h
  clear h
  replace H := Option.bind_eq_some_iff.mp H
  obtain ⟨t215, A40, H⟩ := H
  replace H : (if t215 = true then ((poly_Degree.f k a0).bind fun t216 => ((parapetref01_Degree.f k a0).bind fun t217 => (if t216 = t217 then ((poly_Weight.f a0).bind fun t218 => ((parapetref01_Weight.f k a0).bind fun t219 => (if t218 = t219 then ((poly_Mul.f k a1 a2).bind fun t220 => ((parapetref01_Mul.f k a1 a2).bind fun t221 => (some (t220 == t221)))) else (some false)))) else (some false)))) else (some false)) = some r := H
  have A4 := Aside0.mk A40
  clear A40
  by_cases c5 : t215 = true
  · subst c5
    have H1 : ((poly_Degree.f k a0).bind fun t216 => ((parapetref01_Degree.f k a0).bind fun t217 => (if t216 = t217 then ((poly_Weight.f a0).bind fun t218 => ((parapetref01_Weight.f k a0).bind fun t219 => (if t218 = t219 then ((poly_Mul.f k a1 a2).bind fun t220 => ((parapetref01_Mul.f k a1 a2).bind fun t221 => (some (t220 == t221)))) else (some false)))) else (some false)))) = some r := by rw [if_pos rfl] at H; exact H
    clear H
    have H := H1
    clear H1
    replace H := Option.bind_eq_some_iff.mp H
    obtain ⟨t216, A60, H⟩ := H
    replace H : ((parapetref01_Degree.f k a0).bind fun t217 => (if t216 = t217 then ((poly_Weight.f a0).bind fun t218 => ((parapetref01_Weight.f k a0).bind fun t219 => (if t218 = t219 then ((poly_Mul.f k a1 a2).bind fun t220 => ((parapetref01_Mul.f k a1 a2).bind fun t221 => (some (t220 == t221)))) else (some false)))) else (some false))) = some r := H
    have A6 := Aside0.mk A60
    clear A60
    replace H := Option.bind_eq_some_iff.mp H
    obtain ⟨t217, A70, H⟩ := H
    replace H : (if t216 = t217 then ((poly_Weight.f a0).bind fun t218 => ((parapetref01_Weight.f k a0).bind fun t219 => (if t218 = t219 then ((poly_Mul.f k a1 a2).bind fun t220 => ((parapetref01_Mul.f k a1 a2).bind fun t221 => (some (t220 == t221)))) else (some false)))) else (some false)) = some r := H
    have A7 := Aside0.mk A70
    clear A70
    by_cases c8 : t216 = t217
    · rw [if_pos c8] at H
      have c8b0 : (t216 == t217) = true := beq_iff_eq.mpr c8
      have c8b1 : (t216 != t217) = false := bne_eq_false_iff_eq.mpr c8
      clear c8
      replace H := Option.bind_eq_some_iff.mp H
      obtain ⟨t218, A90, H⟩ := H
      replace H : ((parapetref01_Weight.f k a0).bind fun t219 => (if t218 = t219 then ((poly_Mul.f k a1 a2).bind fun t220 => ((parapetref01_Mul.f k a1 a2).bind fun t221 => (some (t220 == t221)))) else (some false))) = some r := H
      have A9 := Aside0.mk A90
      clear A90
      replace H := Option.bind_eq_some_iff.mp H
      obtain ⟨t219, A100, H⟩ := H
      replace H : (if t218 = t219 then ((poly_Mul.f k a1 a2).bind fun t220 => ((parapetref01_Mul.f k a1 a2).bind fun t221 => (some (t220 == t221)))) else (some false)) = some r := H
      have A10 := Aside0.mk A100
      clear A100
      by_cases c11 : t218 = t219
      · rw [if_pos c11] at H
        have c11b0 : (t218 == t219) = true := beq_iff_eq.mpr c11
        have c11b1 : (t218 != t219) = false := bne_eq_false_iff_eq.mpr c11
        clear c11
        replace H := Option.bind_eq_some_iff.mp H
        obtain ⟨t220, A120, H⟩ := H
        replace H : ((parapetref01_Mul.f k a1 a2).bind fun t221 => (some (t220 == t221))) = some r := H
        have A12 := Aside0.mk A120
        clear A120
        replace H := Option.bind_eq_some_iff.mp H
        obtain ⟨t221, A130, H⟩ := H
        replace H : (some (t220 == t221)) = some r := H
        have A13 := Aside0.mk A130
        clear A130
        obtain rfl := Option.some.inj H
        go_enter Try.func10, Try.ntmps10
        go_wp2_with (first | ((with_reducible refine gate_callee (f := 12) rfl ?_); refine goesL_ (some 7) rfl rfl Try.func12 (by kernel_rfl) rfl #[] rfl (by (try simp only [List.map_toArray, List.map_cons, List.map_nil]); first | done | rfl | (simp only [List.length_drop, List.length_take]; rfl)) ?_; (with_reducible refine (parapetlaw01_Awake.calls k  true _ A4.out).mono ?_); rintro e w' ⟨rfl, ⟨nd, rfl⟩⟩; refine ⟨_, rfl, ?_⟩) | ((with_reducible refine gate_callee (f := 16) rfl ?_); refine goesL_ (some 10) rfl rfl Try.func16 (by kernel_rfl) rfl #[.int .u64 a0] rfl (by (try simp only [List.map_toArray, List.map_cons, List.map_nil]); first | done | rfl | (simp only [List.length_drop, List.length_take]; rfl)) ?_; (with_reducible refine (poly_Degree.calls k a0 t216 _ A6.out).mono ?_); rintro e w' ⟨rfl, ⟨nd, rfl⟩⟩; refine ⟨_, rfl, ?_⟩) | ((with_reducible refine gate_callee (f := 25) rfl ?_); refine goesL_ (some 12) rfl rfl Try.func25 (by kernel_rfl) rfl #[.int .u64 a0] rfl (by (try simp only [List.map_toArray, List.map_cons, List.map_nil]); first | done | rfl | (simp only [List.length_drop, List.length_take]; rfl)) ?_; (with_reducible refine (parapetref01_Degree.calls k a0 t217 _ A7.out).mono ?_); rintro e w' ⟨rfl, ⟨nd, rfl⟩⟩; refine ⟨_, rfl, ?_⟩) | (go_at_call 26; (with_reducible refine (poly_Weight.calls a0 t218 _ A9.out).mono ?_); rintro e w' ⟨rfl, ⟨nd, rfl⟩⟩) | (go_at_call 27; (with_reducible refine (parapetref01_Weight.calls k a0 t219 _ A10.out).mono ?_); rintro e w' ⟨rfl, ⟨nd, rfl⟩⟩) | (go_at_call 28; (with_reducible refine (poly_Mul.calls k a1 a2 t220 _ A12.out).mono ?_); rintro e w' ⟨rfl, ⟨nd, rfl⟩⟩) | (go_at_call 29; (with_reducible refine (parapetref01_Mul.calls k a1 a2 t221 _ A13.out).mono ?_); rintro e w' ⟨rfl, ⟨nd, rfl⟩⟩))
        go_ret
        exact ⟨by first | rfl | (simp; done) | (simp [*]; done), by repeat (first | exact Drawn0.refl _ | apply Drawn0.step)⟩
      · rw [if_neg c11] at H
        have c11b0 : (t218 == t219) = false := beq_eq_false_iff_ne.mpr c11
        have c11b1 : (t218 != t219) = true := bne_iff_ne.mpr c11
        obtain rfl := Option.some.inj H
        go_enter Try.func10, Try.ntmps10
        go_wp2_with (first | ((with_reducible refine gate_callee (f := 12) rfl ?_); refine goesL_ (some 7) rfl rfl Try.func12 (by kernel_rfl) rfl #[] rfl (by (try simp only [List.map_toArray, List.map_cons, List.map_nil]); first | done | rfl | (simp only [List.length_drop, List.length_take]; rfl)) ?_; (with_reducible refine (parapetlaw01_Awake.calls k  true _ A4.out).mono ?_); rintro e w' ⟨rfl, ⟨nd, rfl⟩⟩; refine ⟨_, rfl, ?_⟩) | ((with_reducible refine gate_callee (f := 16) rfl ?_); refine goesL_ (some 10) rfl rfl Try.func16 (by kernel_rfl) rfl #[.int .u64 a0] rfl (by (try simp only [List.map_toArray, List.map_cons, List.map_nil]); first | done | rfl | (simp only [List.length_drop, List.length_take]; rfl)) ?_; (with_reducible refine (poly_Degree.calls k a0 t216 _ A6.out).mono ?_); rintro e w' ⟨rfl, ⟨nd, rfl⟩⟩; refine ⟨_, rfl, ?_⟩) | ((with_reducible refine gate_callee (f := 25) rfl ?_); refine goesL_ (some 12) rfl rfl Try.func25 (by kernel_rfl) rfl #[.int .u64 a0] rfl (by (try simp only [List.map_toArray, List.map_cons, List.map_nil]); first | done | rfl | (simp only [List.length_drop, List.length_take]; rfl)) ?_; (with_reducible refine (parapetref01_Degree.calls k a0 t217 _ A7.out).mono ?_); rintro e w' ⟨rfl, ⟨nd, rfl⟩⟩; refine ⟨_, rfl, ?_⟩) | (go_at_call 26; (with_reducible refine (poly_Weight.calls a0 t218 _ A9.out).mono ?_); rintro e w' ⟨rfl, ⟨nd, rfl⟩⟩) | (go_at_call 27; (with_reducible refine (parapetref01_Weight.calls k a0 t219 _ A10.out).mono ?_); rintro e w' ⟨rfl, ⟨nd, rfl⟩⟩))
        go_ret
        exact ⟨by first | rfl | (simp; done) | (simp [*]; done), by repeat (first | exact Drawn0.refl _ | apply Drawn0.step)⟩
    · rw [if_neg c8] at H
      have c8b0 : (t216 == t217) = false := beq_eq_false_iff_ne.mpr c8
      have c8b1 : (t216 != t217) = true := bne_iff_ne.mpr c8
      obtain rfl := Option.some.inj H
      go_enter Try.func10, Try.ntmps10
      go_wp2_with (first | ((with_reducible refine gate_callee (f := 12) rfl ?_); refine goesL_ (some 7) rfl rfl Try.func12 (by kernel_rfl) rfl #[] rfl (by (try simp only [List.map_toArray, List.map_cons, List.map_nil]); first | done | rfl | (simp only [List.length_drop, List.length_take]; rfl)) ?_; (with_reducible refine (parapetlaw01_Awake.calls k  true _ A4.out).mono ?_); rintro e w' ⟨rfl, ⟨nd, rfl⟩⟩; refine ⟨_, rfl, ?_⟩) | ((with_reducible refine gate_callee (f := 16) rfl ?_); refine goesL_ (some 10) rfl rfl Try.func16 (by kernel_rfl) rfl #[.int .u64 a0] rfl (by (try simp only [List.map_toArray, List.map_cons, List.map_nil]); first | done | rfl | (simp only [List.length_drop, List.length_take]; rfl)) ?_; (with_reducible refine (poly_Degree.calls k a0 t216 _ A6.out).mono ?_); rintro e w' ⟨rfl, ⟨nd, rfl⟩⟩; refine ⟨_, rfl, ?_⟩) | ((with_reducible refine gate_callee (f := 25) rfl ?_); refine goesL_ (some 12) rfl rfl Try.func25 (by kernel_rfl) rfl #[.int .u64 a0] rfl (by (try simp only [List.map_toArray, List.map_cons, List.map_nil]); first | done | rfl | (simp only [List.length_drop, List.length_take]; rfl)) ?_; (with_reducible refine (parapetref01_Degree.calls k a0 t217 _ A7.out).mono ?_); rintro e w' ⟨rfl, ⟨nd, rfl⟩⟩; refine ⟨_, rfl, ?_⟩))
      go_ret
      exact ⟨by first | rfl | (simp; done) | (simp [*]; done), by repeat (first | exact Drawn0.refl _ | apply Drawn0.step)⟩
  · replace c5 := Bool.eq_false_iff.mpr c5
    subst c5
    have H1 : (some false) = some r := by rw [if_neg (show ¬ (false = true) by decide)] at H; exact H
    clear H
    have H := H1
    clear H1
    obtain rfl := Option.some.inj H
    go_enter Try.func10, Try.ntmps10
    go_wp2_with (first | ((with_reducible refine gate_callee (f := 12) rfl ?_); refine goesL_ (some 7) rfl rfl Try.func12 (by kernel_rfl) rfl #[] rfl (by (try simp only [List.map_toArray, List.map_cons, List.map_nil]); first | done | rfl | (simp only [List.length_drop, List.length_take]; rfl)) ?_; (with_reducible refine (parapetlaw01_Awake.calls k  false _ A4.out).mono ?_); rintro e w' ⟨rfl, ⟨nd, rfl⟩⟩; refine ⟨_, rfl, ?_⟩))
    go_ret
    exact ⟨by first | rfl | (simp; done) | (simp [*]; done), by repeat (first | exact Drawn0.refl _ | apply Drawn0.step)⟩

/-- THE ONE PURE STATEMENT of parapetlaw01_PolyWords: yours. -/
def parapetlaw01_PolyWords.Pure : Prop := ∀ (a0 : Int) (a1 : Int) (a2 : Int), (Lit.int .u64 a0).wf = true → (Lit.int .u32 a1).wf = true → (Lit.int .u32 a2).wf = true → ∃ k, parapetlaw01_PolyWords.f k a0 a1 a2 = some true
theorem parapetlaw01_PolyWords.walk (P : parapetlaw01_PolyWords.Pure) (a0 : Int) (a1 : Int) (a2 : Int) (w : World) (w0 : (Lit.int .u64 a0).wf = true) (w1 : (Lit.int .u32 a1).wf = true) (w2 : (Lit.int .u32 a2).wf = true) :
    Calls Try.prog 10 #[.int .u64 a0, .int .u32 a1, .int .u32 a2] w fun e w' => e = .returned (.bool true) ∧ Below w.heap.size w w' := by
  obtain ⟨k, h⟩ := P a0 a1 a2 w0 w1 w2
  refine (parapetlaw01_PolyWords.calls k a0 a1 a2 true w h).mono ?_
  rintro e w' ⟨rfl, hd⟩
  exact ⟨rfl, hd.below⟩

/-! ### parapetlaw01_PolyEven: function 11 -/
def parapetlaw01_PolyEven.f (k : Nat) (a0 : Int) : Option (Bool) := (parapetlaw01_Awake.f k).bind fun t222 => (if t222 = true then ((poly_DivMod.f k a0 3).bind fun bt223 => (if bt223.2.2 = 0 then ((poly_Weight.f a0).bind fun t226 => (some ((bt223.2.1 == 0) == ((Int.tmod t226 2) == 0)))) else (some false))) else (some false))
theorem parapetlaw01_PolyEven.mono : ∀ a0 k, LeO (parapetlaw01_PolyEven.f k a0) (parapetlaw01_PolyEven.f (k + 1) a0) := by
  intro a0 k
  unfold parapetlaw01_PolyEven.f
  repeat' first
      | (with_reducible exact parapetlaw01_Awake.mono _)
      | (with_reducible exact poly_DivMod.mono _ _ _)
      | (with_reducible exact LeO.refl _)
      | (with_reducible exact LeO.none _)
      | (with_reducible refine LeO.ite ?_ ?_)
      | (with_reducible refine LeO.bind ?_ (fun _ => ?_))
      | exact parapetlaw01_Awake.mono _
      | exact poly_DivMod.mono _ _ _
      | exact LeO.none _
      | refine LeO.ite ?_ ?_
      | refine LeO.bind ?_ (fun _ => ?_)
set_option maxHeartbeats 8000000 in
set_option maxRecDepth 100000 in
theorem parapetlaw01_PolyEven.calls (k : Nat) (a0 : Int) (r : Bool) (w : World) (h : parapetlaw01_PolyEven.f k a0 = some r) :
    Calls Try.prog 11 #[.int .u64 a0] w fun e w' => e = .returned (.bool r) ∧ Drawn0 w w' := by
  have H : ((parapetlaw01_Awake.f k).bind fun t222 => (if t222 = true then ((poly_DivMod.f k a0 3).bind fun bt223 => (if bt223.2.2 = 0 then ((poly_Weight.f a0).bind fun t226 => (some ((bt223.2.1 == 0) == ((Int.tmod t226 2) == 0)))) else (some false))) else (some false))) = some r := h
  clear h
  replace H := Option.bind_eq_some_iff.mp H
  obtain ⟨t222, A20, H⟩ := H
  replace H : (if t222 = true then ((poly_DivMod.f k a0 3).bind fun bt223 => (if bt223.2.2 = 0 then ((poly_Weight.f a0).bind fun t226 => (some ((bt223.2.1 == 0) == ((Int.tmod t226 2) == 0)))) else (some false))) else (some false)) = some r := H
  have A2 := Aside0.mk A20
  clear A20
  by_cases c3 : t222 = true
  · subst c3
    have H1 : ((poly_DivMod.f k a0 3).bind fun bt223 => (if bt223.2.2 = 0 then ((poly_Weight.f a0).bind fun t226 => (some ((bt223.2.1 == 0) == ((Int.tmod t226 2) == 0)))) else (some false))) = some r := by rw [if_pos rfl] at H; exact H
    clear H
    have H := H1
    clear H1
    replace H := Option.bind_eq_some_iff.mp H
    obtain ⟨⟨t223, t224, t225⟩, A40, H⟩ := H
    replace H : (if t225 = 0 then ((poly_Weight.f a0).bind fun t226 => (some ((t224 == 0) == ((Int.tmod t226 2) == 0)))) else (some false)) = some r := H
    have A4 := Aside0.mk A40
    clear A40
    by_cases c5 : t225 = 0
    · rw [if_pos c5] at H
      have c5b0 : (t225 == 0) = true := beq_iff_eq.mpr c5
      have c5b1 : (t225 != 0) = false := bne_eq_false_iff_eq.mpr c5
      clear c5
      replace H := Option.bind_eq_some_iff.mp H
      obtain ⟨t226, A60, H⟩ := H
      replace H : (some ((t224 == 0) == ((Int.tmod t226 2) == 0))) = some r := H
      have A6 := Aside0.mk A60
      clear A60
      obtain rfl := Option.some.inj H
      go_enter Try.func11, Try.ntmps11
      go_wp2_with (first | ((with_reducible refine gate_callee (f := 12) rfl ?_); refine goesL_ (some 6) rfl rfl Try.func12 (by kernel_rfl) rfl #[] rfl (by (try simp only [List.map_toArray, List.map_cons, List.map_nil]); first | done | rfl | (simp only [List.length_drop, List.length_take]; rfl)) ?_; (with_reducible refine (parapetlaw01_Awake.calls k  true _ A2.out).mono ?_); rintro e w' ⟨rfl, ⟨nd, rfl⟩⟩; refine ⟨_, rfl, ?_⟩) | ((with_reducible refine gate_callee (f := 13) rfl ?_); refine goesL_ (some 10) rfl rfl Try.func13 (by kernel_rfl) rfl #[.int .u64 a0, .int .u64 3] rfl (by (try simp only [List.map_toArray, List.map_cons, List.map_nil]); first | done | rfl | (simp only [List.length_drop, List.length_take]; rfl)) ?_; (with_reducible refine (poly_DivMod.calls k a0 3 t223 t224 t225 _ A4.out).mono ?_); rintro e w' ⟨rfl, ⟨nd, rfl⟩⟩; refine ⟨_, rfl, ?_⟩) | (go_at_call 26; (with_reducible refine (poly_Weight.calls a0 t226 _ A6.out).mono ?_); rintro e w' ⟨rfl, ⟨nd, rfl⟩⟩))
      go_ret
      exact ⟨by first | rfl | (simp; done) | (simp [*]; done), by repeat (first | exact Drawn0.refl _ | apply Drawn0.step)⟩
    · rw [if_neg c5] at H
      have c5b0 : (t225 == 0) = false := beq_eq_false_iff_ne.mpr c5
      have c5b1 : (t225 != 0) = true := bne_iff_ne.mpr c5
      obtain rfl := Option.some.inj H
      go_enter Try.func11, Try.ntmps11
      go_wp2_with (first | ((with_reducible refine gate_callee (f := 12) rfl ?_); refine goesL_ (some 6) rfl rfl Try.func12 (by kernel_rfl) rfl #[] rfl (by (try simp only [List.map_toArray, List.map_cons, List.map_nil]); first | done | rfl | (simp only [List.length_drop, List.length_take]; rfl)) ?_; (with_reducible refine (parapetlaw01_Awake.calls k  true _ A2.out).mono ?_); rintro e w' ⟨rfl, ⟨nd, rfl⟩⟩; refine ⟨_, rfl, ?_⟩) | ((with_reducible refine gate_callee (f := 13) rfl ?_); refine goesL_ (some 10) rfl rfl Try.func13 (by kernel_rfl) rfl #[.int .u64 a0, .int .u64 3] rfl (by (try simp only [List.map_toArray, List.map_cons, List.map_nil]); first | done | rfl | (simp only [List.length_drop, List.length_take]; rfl)) ?_; (with_reducible refine (poly_DivMod.calls k a0 3 t223 t224 t225 _ A4.out).mono ?_); rintro e w' ⟨rfl, ⟨nd, rfl⟩⟩; refine ⟨_, rfl, ?_⟩))
      go_ret
      exact ⟨by first | rfl | (simp; done) | (simp [*]; done), by repeat (first | exact Drawn0.refl _ | apply Drawn0.step)⟩
  · replace c3 := Bool.eq_false_iff.mpr c3
    subst c3
    have H1 : (some false) = some r := by rw [if_neg (show ¬ (false = true) by decide)] at H; exact H
    clear H
    have H := H1
    clear H1
    obtain rfl := Option.some.inj H
    go_enter Try.func11, Try.ntmps11
    go_wp2_with (first | ((with_reducible refine gate_callee (f := 12) rfl ?_); refine goesL_ (some 6) rfl rfl Try.func12 (by kernel_rfl) rfl #[] rfl (by (try simp only [List.map_toArray, List.map_cons, List.map_nil]); first | done | rfl | (simp only [List.length_drop, List.length_take]; rfl)) ?_; (with_reducible refine (parapetlaw01_Awake.calls k  false _ A2.out).mono ?_); rintro e w' ⟨rfl, ⟨nd, rfl⟩⟩; refine ⟨_, rfl, ?_⟩))
    go_ret
    exact ⟨by first | rfl | (simp; done) | (simp [*]; done), by repeat (first | exact Drawn0.refl _ | apply Drawn0.step)⟩

/-- THE ONE PURE STATEMENT of parapetlaw01_PolyEven: yours. -/
def parapetlaw01_PolyEven.Pure : Prop := ∀ (a0 : Int), (Lit.int .u64 a0).wf = true → ∃ k, parapetlaw01_PolyEven.f k a0 = some true
theorem parapetlaw01_PolyEven.walk (P : parapetlaw01_PolyEven.Pure) (a0 : Int) (w : World) (w0 : (Lit.int .u64 a0).wf = true) :
    Calls Try.prog 11 #[.int .u64 a0] w fun e w' => e = .returned (.bool true) ∧ Below w.heap.size w w' := by
  obtain ⟨k, h⟩ := P a0 w0
  refine (parapetlaw01_PolyEven.calls k a0 true w h).mono ?_
  rintro e w' ⟨rfl, hd⟩
  exact ⟨rfl, hd.below⟩

end Go.Proofs.Ytcnlomknmhgpbac.PP
