-- Written by a program of this session (wip/pr.sh): the functions' plain forms and their walks.
import Derived.Test.YtcnlomknmhgpbaaPAx0
import Derived.Test.YtcnlomknmhgpbaaPAx1
import Derived.Test.YtcnlomknmhgpbaaPAx2
namespace Go.Proofs.Ytcnlomknmhgpbaa.PA
open Go.RowKit Go.Proofs.YtcnlomknmhgpbaaW.PrintWords Go.Proofs.YtcnlomknmhgpbaaW.PrintLast Go.Proofs.YtcnlomknmhgpbaaW.PrintMore
attribute [local go_sem] max2_int min2_int max_two min_two max_three min_three max_four min_four   -- for this text's walks alone
set_option linter.unusedVariables false
set_option linter.unusedSimpArgs false

/-! ### crc_Join: function 24 -/
def crc_Join.l0 : Nat → Int → Int → Int → Int → Option (Int × Int)
  | 0, _, _, _, _ => none
  | k + 1, x0, x1, x8, x21 => if x21 < 3 then ((crc_Generator.f).bind fun t172 => ((poly_MulMod.f k x8 x8 t172).bind fun bt173 => (crc_Join.l0 k x0 x1 bt173.1 (wrap64 (x21 + 1))))) else ((crc_Generator.f).bind fun t175 => ((poly_MulMod.f k (IntKind.u64.wrap (x0)) x8 t175).bind fun bt176 => (some (Go.bits .xor .u32 ((bt176.1) % 4294967296) x1, 0))))
def crc_Join.f (k : Nat) (a0 : Int) (a1 : Int) (a2 : Int) : Option (Int × Int) := if a2 < 0 then (some (0, 2)) else ((crc_Generator.f).bind fun t169 => ((poly_PowMod.f k (IntKind.u64.wrap (a2)) t169).bind fun bt170 => (crc_Join.l0 k a0 a1 bt170.1 0)))
theorem crc_Join.mono_l : ∀ k, (∀ y0 y1 y2 y3, LeO (crc_Join.l0 k y0 y1 y2 y3) (crc_Join.l0 (k + 1) y0 y1 y2 y3))
  | 0 => fun _ _ _ _ r h => by simp [crc_Join.l0] at h
  | k + 1 => by
    have ih0 := crc_Join.mono_l k
    · intro y0 y1 y2 y3
      unfold crc_Join.l0
      repeat' first
      | (with_reducible exact ih0 _ _ _ _)
      | (with_reducible exact poly_MulMod.mono _ _ _ _)
      | (with_reducible exact poly_PowMod.mono _ _ _)
      | (with_reducible exact LeO.refl _)
      | (with_reducible exact LeO.none _)
      | (with_reducible refine LeO.ite ?_ ?_)
      | (with_reducible refine LeO.bind ?_ (fun _ => ?_))
      | exact ih0 _ _ _ _
      | exact poly_MulMod.mono _ _ _ _
      | exact poly_PowMod.mono _ _ _
      | exact LeO.none _
      | refine LeO.ite ?_ ?_
      | refine LeO.bind ?_ (fun _ => ?_)
theorem crc_Join.mono : ∀ a0 a1 a2 k, LeO (crc_Join.f k a0 a1 a2) (crc_Join.f (k + 1) a0 a1 a2) := by
  intro a0 a1 a2 k
  have ih0 := crc_Join.mono_l k
  unfold crc_Join.f
  repeat' first
      | (with_reducible exact ih0 _ _ _ _)
      | (with_reducible exact poly_MulMod.mono _ _ _ _)
      | (with_reducible exact poly_PowMod.mono _ _ _)
      | (with_reducible exact LeO.refl _)
      | (with_reducible exact LeO.none _)
      | (with_reducible refine LeO.ite ?_ ?_)
      | (with_reducible refine LeO.bind ?_ (fun _ => ?_))
      | exact ih0 _ _ _ _
      | exact poly_MulMod.mono _ _ _ _
      | exact poly_PowMod.mono _ _ _
      | exact LeO.none _
      | refine LeO.ite ?_ ?_
      | refine LeO.bind ?_ (fun _ => ?_)
set_option maxHeartbeats 8000000 in
set_option maxRecDepth 100000 in
theorem crc_Join.calls (k : Nat) (a0 : Int) (a1 : Int) (a2 : Int) (r1 : Int) (r2 : Int) (w : World) (h : crc_Join.f k a0 a1 a2 = some (r1, r2)) :
    Calls Try.prog 24 #[.int .u32 a0, .int .u32 a1, .int .i64 a2] w fun e w' => e = .returned (.tuple #[.int .u32 r1, .int .i64 r2]) ∧ Drawn0 w w' := by
  have H : (if a2 < 0 then (some (0, 2)) else ((crc_Generator.f).bind fun t169 => ((poly_PowMod.f k (IntKind.u64.wrap (a2)) t169).bind fun bt170 => (crc_Join.l0 k a0 a1 bt170.1 0)))) = some (r1, r2) := h
  clear h
  by_cases c4 : a2 < 0
  · rw [if_pos c4] at H
    have c4b0 : decide (a2 < 0) = true := decide_eq_true c4
    clear c4
    simp only [Option.some.injEq, Prod.mk.injEq] at H
    obtain ⟨rfl, rfl⟩ := H
    go_enter Try.func24, Try.ntmps24
    go_wp2
    go_ret2
    exact ⟨by first | rfl | (simp; done) | (simp [*]; done), by repeat (first | exact Drawn0.refl _ | apply Drawn0.step)⟩
  · rw [if_neg c4] at H
    have c4b0 : decide (a2 < 0) = false := decide_eq_false c4
    clear c4
    replace H := Option.bind_eq_some_iff.mp H
    obtain ⟨t169, A50, H⟩ := H
    replace H : ((poly_PowMod.f k (IntKind.u64.wrap (a2)) t169).bind fun bt170 => (crc_Join.l0 k a0 a1 bt170.1 0)) = some (r1, r2) := H
    have A5 := Aside0.mk A50
    clear A50
    replace H := Option.bind_eq_some_iff.mp H
    obtain ⟨⟨t170, t171⟩, A60, H⟩ := H
    replace H : (crc_Join.l0 k a0 a1 t170 0) = some (r1, r2) := H
    have A6 := Aside0.mk A60
    clear A60
    have H' := Aside0.mk H
    clear H
    go_enter Try.func24, Try.ntmps24
    go_wp2_with (first | ((with_reducible refine gate_callee (f := 21) rfl ?_); refine goesL_ (some 17) rfl rfl Try.func21 (by kernel_rfl) rfl #[] rfl (by (try simp only [List.map_toArray, List.map_cons, List.map_nil]); first | done | rfl | (simp only [List.length_drop, List.length_take]; rfl)) ?_; (with_reducible refine (crc_Generator.calls  t169 _ A5.out).mono ?_); rintro e w' ⟨rfl, ⟨nd, rfl⟩⟩; refine ⟨_, rfl, ?_⟩) | ((with_reducible refine gate_callee (f := 41) rfl ?_); refine goesL_ (some 18) rfl rfl Try.func41 (by kernel_rfl) rfl #[.int .u64 (IntKind.u64.wrap (a2)), .int .u64 t169] rfl (by (try simp only [List.map_toArray, List.map_cons, List.map_nil]); first | done | rfl | (simp only [List.length_drop, List.length_take]; rfl)) ?_; (with_reducible refine (poly_PowMod.calls k (IntKind.u64.wrap (a2)) t169 t170 t171 _ A6.out).mono ?_); rintro e w' ⟨rfl, ⟨nd, rfl⟩⟩; refine ⟨_, rfl, ?_⟩))
    go_loopg [8, 21] k (fun kq v8 v21 w' => ∃ (x8_1 : Int) (x21_1 : Int), v8 = .int .u64 x8_1 ∧ v21 = .int .i64 x21_1 ∧ Aside0 (crc_Join.l0 kq a0 a1 x8_1 x21_1 = some (r1, r2)) ∧ Aside0 (kq ≤ k) ∧ Drawn0 w w')
    case atStart => exact ⟨(t170), (0), (by first | rfl | (simp; done) | (simp [*]; done)), (by first | rfl | (simp; done) | (simp [*]; done)), H', ⟨Nat.le_refl _⟩, by repeat (first | exact Drawn0.refl _ | apply Drawn0.step)⟩
    case round =>
      clear H'
      try clear c2
      try clear p2
      try clear c4
      try clear c4b0
      obtain ⟨x8_1, x21_1, rfl, rfl, HA, HK1, ⟨m1, rfl⟩⟩ := hrel
      cases gk with
      | zero => exact absurd HA.out (by simp [crc_Join.l0])
      | succ k1 =>
        have H := HA.out
        clear HA
        simp only [crc_Join.l0] at H
        by_cases c7 : x21_1 < 3
        · rw [if_pos c7] at H
          have c7b0 : decide (x21_1 < 3) = true := decide_eq_true c7
          clear c7
          replace H := Option.bind_eq_some_iff.mp H
          obtain ⟨t172, A80, H⟩ := H
          replace H : ((poly_MulMod.f k1 x8_1 x8_1 t172).bind fun bt173 => (crc_Join.l0 k1 a0 a1 bt173.1 (wrap64 (x21_1 + 1)))) = some (r1, r2) := H
          have A8 := Aside0.mk A80
          clear A80
          replace H := Option.bind_eq_some_iff.mp H
          obtain ⟨⟨t173, t174⟩, A90, H⟩ := H
          replace H : (crc_Join.l0 k1 a0 a1 t173 (wrap64 (x21_1 + 1))) = some (r1, r2) := H
          have A9 := Aside0.mk A90
          clear A90
          have H' := Aside0.mk H
          clear H
          go_wp2_with (first | ((with_reducible refine gate_callee (f := 21) rfl ?_); refine goesL_ (some 26) rfl rfl Try.func21 (by kernel_rfl) rfl #[] rfl (by (try simp only [List.map_toArray, List.map_cons, List.map_nil]); first | done | rfl | (simp only [List.length_drop, List.length_take]; rfl)) ?_; (with_reducible refine (crc_Generator.calls  t172 _ A8.out).mono ?_); rintro e w' ⟨rfl, ⟨nd, rfl⟩⟩; refine ⟨_, rfl, ?_⟩) | ((with_reducible refine gate_callee (f := 42) rfl ?_); refine goesL_ (some 27) rfl rfl Try.func42 (by kernel_rfl) rfl #[.int .u64 x8_1, .int .u64 x8_1, .int .u64 t172] rfl (by (try simp only [List.map_toArray, List.map_cons, List.map_nil]); first | done | rfl | (simp only [List.length_drop, List.length_take]; rfl)) ?_; (with_reducible refine (poly_MulMod.calls k1 x8_1 x8_1 t172 t173 t174 _ A9.out).mono ?_); rintro e w' ⟨rfl, ⟨nd, rfl⟩⟩; refine ⟨_, rfl, ?_⟩))
          go_roundg k1
          case measure => have := HK1.out; omega
          case rel => exact ⟨(t173), (wrap64 (x21_1 + 1)), (by first | rfl | (simp; done) | (simp [*]; done)), (by first | rfl | (simp; done) | (simp [*]; done)), H', ⟨by have := HK1.out; omega⟩, by repeat (first | exact Drawn0.refl _ | apply Drawn0.step)⟩
        · rw [if_neg c7] at H
          have c7b0 : decide (x21_1 < 3) = false := decide_eq_false c7
          clear c7
          replace H := Option.bind_eq_some_iff.mp H
          obtain ⟨t175, A100, H⟩ := H
          replace H : ((poly_MulMod.f k1 (IntKind.u64.wrap (a0)) x8_1 t175).bind fun bt176 => (some (Go.bits .xor .u32 ((bt176.1) % 4294967296) a1, 0))) = some (r1, r2) := H
          have A10 := Aside0.mk A100
          clear A100
          replace H := Option.bind_eq_some_iff.mp H
          obtain ⟨⟨t176, t177⟩, A110, H⟩ := H
          replace H : (some (Go.bits .xor .u32 ((t176) % 4294967296) a1, 0)) = some (r1, r2) := H
          have A11 := Aside0.mk A110
          clear A110
          simp only [Option.some.injEq, Prod.mk.injEq] at H
          obtain ⟨rfl, rfl⟩ := H
          go_wp2_with (first | ((with_reducible refine gate_callee (f := 21) rfl ?_); refine goesL_ (some 35) rfl rfl Try.func21 (by kernel_rfl) rfl #[] rfl (by (try simp only [List.map_toArray, List.map_cons, List.map_nil]); first | done | rfl | (simp only [List.length_drop, List.length_take]; rfl)) ?_; (with_reducible refine (crc_Generator.calls  t175 _ A10.out).mono ?_); rintro e w' ⟨rfl, ⟨nd, rfl⟩⟩; refine ⟨_, rfl, ?_⟩) | ((with_reducible refine gate_callee (f := 42) rfl ?_); refine goesL_ (some 36) rfl rfl Try.func42 (by kernel_rfl) rfl #[.int .u64 (IntKind.u64.wrap (a0)), .int .u64 x8_1, .int .u64 t175] rfl (by (try simp only [List.map_toArray, List.map_cons, List.map_nil]); first | done | rfl | (simp only [List.length_drop, List.length_take]; rfl)) ?_; (with_reducible refine (poly_MulMod.calls k1 (IntKind.u64.wrap (a0)) x8_1 t175 t176 t177 _ A11.out).mono ?_); rintro e w' ⟨rfl, ⟨nd, rfl⟩⟩; refine ⟨_, rfl, ?_⟩))
          go_ret2
          exact ⟨by first | rfl | (simp; done) | (simp [*]; done), by repeat (first | exact Drawn0.refl _ | apply Drawn0.step)⟩

/-! ### parapetref01_Degree: function 55 -/
def parapetref01_Degree.l0 : Nat → Int → Int → Int → Option (Int)
  | 0, _, _, _ => none
  | k + 1, x0, x3, x4 => if x4 < 64 then (if 0 ≤ x4 then (if (Go.bits .and .u64 (shr .u64 x0 x4) 1) = 0 then (parapetref01_Degree.l0 k x0 x3 (wrap64 (x4 + 1))) else (parapetref01_Degree.l0 k x0 x4 (wrap64 (x4 + 1)))) else (none)) else (some x3)
def parapetref01_Degree.f (k : Nat) (a0 : Int) : Option (Int) := parapetref01_Degree.l0 k a0 (-1) 0
theorem parapetref01_Degree.mono_l : ∀ k, (∀ y0 y1 y2, LeO (parapetref01_Degree.l0 k y0 y1 y2) (parapetref01_Degree.l0 (k + 1) y0 y1 y2))
  | 0 => fun _ _ _ r h => by simp [parapetref01_Degree.l0] at h
  | k + 1 => by
    have ih0 := parapetref01_Degree.mono_l k
    · intro y0 y1 y2
      unfold parapetref01_Degree.l0
      repeat' first
      | (with_reducible exact ih0 _ _ _)
      | (with_reducible exact LeO.refl _)
      | (with_reducible exact LeO.none _)
      | (with_reducible refine LeO.ite ?_ ?_)
      | (with_reducible refine LeO.bind ?_ (fun _ => ?_))
      | exact ih0 _ _ _
      | exact LeO.none _
      | refine LeO.ite ?_ ?_
      | refine LeO.bind ?_ (fun _ => ?_)
theorem parapetref01_Degree.mono : ∀ a0 k, LeO (parapetref01_Degree.f k a0) (parapetref01_Degree.f (k + 1) a0) := by
  intro a0 k
  have ih0 := parapetref01_Degree.mono_l k
  unfold parapetref01_Degree.f
  repeat' first
      | (with_reducible exact ih0 _ _ _)
      | (with_reducible exact LeO.refl _)
      | (with_reducible exact LeO.none _)
      | (with_reducible refine LeO.ite ?_ ?_)
      | (with_reducible refine LeO.bind ?_ (fun _ => ?_))
      | exact ih0 _ _ _
      | exact LeO.none _
      | refine LeO.ite ?_ ?_
      | refine LeO.bind ?_ (fun _ => ?_)
set_option maxHeartbeats 8000000 in
set_option maxRecDepth 100000 in
theorem parapetref01_Degree.calls (k : Nat) (a0 : Int) (r : Int) (w : World) (h : parapetref01_Degree.f k a0 = some r) :
    Calls Try.prog 55 #[.int .u64 a0] w fun e w' => e = .returned (.int .i64 r) ∧ Drawn0 w w' := by
  have H : (parapetref01_Degree.l0 k a0 (-1) 0) = some r := h
  clear h
  have H' := Aside0.mk H
  clear H
  go_enter Try.func55, Try.ntmps55
  go_wp2
  go_loopg [3, 4] k (fun kq v3 v4 w' => ∃ (x3_1 : Int) (x4_1 : Int), v3 = .int .i64 x3_1 ∧ v4 = .int .i64 x4_1 ∧ Aside0 (parapetref01_Degree.l0 kq a0 x3_1 x4_1 = some r) ∧ Aside0 (kq ≤ k) ∧ Drawn0 w w')
  case atStart => exact ⟨((-1)), (0), (by first | rfl | (simp; done) | (simp [*]; done)), (by first | rfl | (simp; done) | (simp [*]; done)), H', ⟨Nat.le_refl _⟩, by repeat (first | exact Drawn0.refl _ | apply Drawn0.step)⟩
  case round =>
    clear H'
    obtain ⟨x3_1, x4_1, rfl, rfl, HA, HK1, ⟨m1, rfl⟩⟩ := hrel
    cases gk with
    | zero => exact absurd HA.out (by simp [parapetref01_Degree.l0])
    | succ k1 =>
      have H := HA.out
      clear HA
      simp only [parapetref01_Degree.l0] at H
      by_cases c2 : x4_1 < 64
      · rw [if_pos c2] at H
        have c2b0 : decide (x4_1 < 64) = true := decide_eq_true c2
        clear c2
        by_cases c3 : 0 ≤ x4_1
        · rw [if_pos c3] at H
          have c3b0 := eq_true c3
          have c3b1 : decide (0 ≤ x4_1) = true := decide_eq_true c3
          clear c3
          obtain ⟨ji4, hji4⟩ : ∃ j_ : Int, (shr .u64 a0 x4_1) = j_ := ⟨_, rfl⟩
          replace H : (if (Go.bits .and .u64 (ji4) 1) = 0 then (parapetref01_Degree.l0 k1 a0 x3_1 (wrap64 (x4_1 + 1))) else (parapetref01_Degree.l0 k1 a0 x4_1 (wrap64 (x4_1 + 1)))) = some r := by first | (rw [hji4] at H; exact H) | (simp only [hji4] at H ⊢; exact H)
          have hji4_ : (a0 / 2 ^ min x4_1.toNat 64) = ji4 := hji4
          have hji4z : x4_1 ≤ 64 → (a0 / 2 ^ x4_1.toNat) = ji4 := shr_small hji4
          by_cases c5 : (Go.bits .and .u64 (ji4) 1) = 0
          · rw [if_pos c5] at H
            have c5b0 : ((Go.bits .and .u64 (ji4) 1) == 0) = true := beq_iff_eq.mpr c5
            have c5b1 : ((Go.bits .and .u64 (ji4) 1) != 0) = false := bne_eq_false_iff_eq.mpr c5
            clear c5
            have H' := Aside0.mk H
            clear H
            go_wp2
            go_roundg k1
            case measure => have := HK1.out; omega
            case rel => exact ⟨(x3_1), (wrap64 (x4_1 + 1)), (by first | rfl | (simp; done) | (simp [*]; done)), (by first | rfl | (simp; done) | (simp [*]; done)), H', ⟨by have := HK1.out; omega⟩, by repeat (first | exact Drawn0.refl _ | apply Drawn0.step)⟩
          · rw [if_neg c5] at H
            have c5b0 : ((Go.bits .and .u64 (ji4) 1) == 0) = false := beq_eq_false_iff_ne.mpr c5
            have c5b1 : ((Go.bits .and .u64 (ji4) 1) != 0) = true := bne_iff_ne.mpr c5
            have H' := Aside0.mk H
            clear H
            go_wp2
            go_roundg k1
            case measure => have := HK1.out; omega
            case rel => exact ⟨(x4_1), (wrap64 (x4_1 + 1)), (by first | rfl | (simp; done) | (simp [*]; done)), (by first | rfl | (simp; done) | (simp [*]; done)), H', ⟨by have := HK1.out; omega⟩, by repeat (first | exact Drawn0.refl _ | apply Drawn0.step)⟩
        · rw [if_neg c3] at H
          exact absurd H (by simp)
      · rw [if_neg c2] at H
        have c2b0 : decide (x4_1 < 64) = false := decide_eq_false c2
        clear c2
        obtain rfl := Option.some.inj H
        go_wp2
        go_ret
        exact ⟨by first | rfl | (simp; done) | (simp [*]; done), by repeat (first | exact Drawn0.refl _ | apply Drawn0.step)⟩

/-! ### parapetref01_Bits: function 51 -/
def parapetref01_Bits.l0 : Nat → List Bool → Int → Int → Int → Int → Option (Int)
  | 0, _, _, _, _, _ => none
  | k + 1, x0, x1, x5, x6, x7 => if x7 < (x0.length : Int) then (if 0 ≤ (wrap64 (x5 - 1)) then (if 0 ≤ x7 then (if rdOf false x0 x7 = true then (if (Go.bits .and .u64 (shr .u64 x6 (wrap64 (x5 - 1))) 1) = 0 then (parapetref01_Bits.l0 k x0 x1 x5 (Go.bits .xor .u64 (IntKind.u64.wrap (x6 * 2)) 1) (wrap64 (x7 + 1))) else (parapetref01_Bits.l0 k x0 x1 x5 (Go.bits .xor .u64 (Go.bits .xor .u64 (IntKind.u64.wrap (x6 * 2)) 1) x1) (wrap64 (x7 + 1)))) else (if (Go.bits .and .u64 (shr .u64 x6 (wrap64 (x5 - 1))) 1) = 0 then (parapetref01_Bits.l0 k x0 x1 x5 (IntKind.u64.wrap (x6 * 2)) (wrap64 (x7 + 1))) else (parapetref01_Bits.l0 k x0 x1 x5 (Go.bits .xor .u64 (IntKind.u64.wrap (x6 * 2)) x1) (wrap64 (x7 + 1))))) else (none)) else (none)) else (some x6)
def parapetref01_Bits.f (k : Nat) (l0 : List Bool) (a1 : Int) : Option (Int) := (parapetref01_Degree.f k a1).bind fun t178 => (if t178 = 0 then (some 0) else (parapetref01_Bits.l0 k l0 a1 t178 0 0))
theorem parapetref01_Bits.mono_l : ∀ k, (∀ y0 y1 y2 y3 y4, LeO (parapetref01_Bits.l0 k y0 y1 y2 y3 y4) (parapetref01_Bits.l0 (k + 1) y0 y1 y2 y3 y4))
  | 0 => fun _ _ _ _ _ r h => by simp [parapetref01_Bits.l0] at h
  | k + 1 => by
    have ih0 := parapetref01_Bits.mono_l k
    · intro y0 y1 y2 y3 y4
      unfold parapetref01_Bits.l0
      repeat' first
      | (with_reducible exact ih0 _ _ _ _ _)
      | (with_reducible exact parapetref01_Degree.mono _ _)
      | (with_reducible exact LeO.refl _)
      | (with_reducible exact LeO.none _)
      | (with_reducible refine LeO.ite ?_ ?_)
      | (with_reducible refine LeO.bind ?_ (fun _ => ?_))
      | exact ih0 _ _ _ _ _
      | exact parapetref01_Degree.mono _ _
      | exact LeO.none _
      | refine LeO.ite ?_ ?_
      | refine LeO.bind ?_ (fun _ => ?_)
theorem parapetref01_Bits.mono : ∀ a0 a1 k, LeO (parapetref01_Bits.f k a0 a1) (parapetref01_Bits.f (k + 1) a0 a1) := by
  intro a0 a1 k
  have ih0 := parapetref01_Bits.mono_l k
  unfold parapetref01_Bits.f
  repeat' first
      | (with_reducible exact ih0 _ _ _ _ _)
      | (with_reducible exact parapetref01_Degree.mono _ _)
      | (with_reducible exact LeO.refl _)
      | (with_reducible exact LeO.none _)
      | (with_reducible refine LeO.ite ?_ ?_)
      | (with_reducible refine LeO.bind ?_ (fun _ => ?_))
      | exact ih0 _ _ _ _ _
      | exact parapetref01_Degree.mono _ _
      | exact LeO.none _
      | refine LeO.ite ?_ ?_
      | refine LeO.bind ?_ (fun _ => ?_)
set_option maxHeartbeats 8000000 in
set_option maxRecDepth 100000 in
theorem parapetref01_Bits.calls (k : Nat) (A0 : Option Addr) (c0 : Nat) (l0 : List Bool) (a1 : Int) (r : Int) (w : World) (hr0 : Kd.C Kd.bool w A0 l0.length l0) (hc0 : l0.length ≤ c0) (h : parapetref01_Bits.f k l0 a1 = some r) :
    Calls Try.prog 51 #[.slice A0 l0.length c0, .int .u64 a1] w fun e w' => e = .returned (.int .u64 r) ∧ Drawn0 w w' := by
  have HR0 := Aside0.mk hr0
  have HC0 := Aside0.mk hc0
  clear hr0 hc0
  have H : ((parapetref01_Degree.f k a1).bind fun t178 => (if t178 = 0 then (some 0) else (parapetref01_Bits.l0 k l0 a1 t178 0 0))) = some r := h
  clear h
  replace H := Option.bind_eq_some_iff.mp H
  obtain ⟨t178, A30, H⟩ := H
  replace H : (if t178 = 0 then (some 0) else (parapetref01_Bits.l0 k l0 a1 t178 0 0)) = some r := H
  have A3 := Aside0.mk A30
  clear A30
  by_cases c4 : t178 = 0
  · rw [if_pos c4] at H
    have c4b0 : (t178 == 0) = true := beq_iff_eq.mpr c4
    have c4b1 : (t178 != 0) = false := bne_eq_false_iff_eq.mpr c4
    clear c4
    obtain rfl := Option.some.inj H
    go_enter Try.func51, Try.ntmps51
    go_wp2_with (first | ((with_reducible refine gate_callee (f := 55) rfl ?_); refine goesL_ (some 10) rfl rfl Try.func55 (by kernel_rfl) rfl #[.int .u64 a1] rfl (by (try simp only [List.map_toArray, List.map_cons, List.map_nil]); first | done | rfl | (simp only [List.length_drop, List.length_take]; rfl)) ?_; (with_reducible refine (parapetref01_Degree.calls k a1 t178 _ A3.out).mono ?_); rintro e w' ⟨rfl, ⟨nd, rfl⟩⟩; refine ⟨_, rfl, ?_⟩))
    go_ret
    exact ⟨by first | rfl | (simp; done) | (simp [*]; done), by repeat (first | exact Drawn0.refl _ | apply Drawn0.step)⟩
  · rw [if_neg c4] at H
    have c4b0 : (t178 == 0) = false := beq_eq_false_iff_ne.mpr c4
    have c4b1 : (t178 != 0) = true := bne_iff_ne.mpr c4
    have H' := Aside0.mk H
    clear H
    go_enter Try.func51, Try.ntmps51
    go_wp2_with (first | ((with_reducible refine gate_callee (f := 55) rfl ?_); refine goesL_ (some 10) rfl rfl Try.func55 (by kernel_rfl) rfl #[.int .u64 a1] rfl (by (try simp only [List.map_toArray, List.map_cons, List.map_nil]); first | done | rfl | (simp only [List.length_drop, List.length_take]; rfl)) ?_; (with_reducible refine (parapetref01_Degree.calls k a1 t178 _ A3.out).mono ?_); rintro e w' ⟨rfl, ⟨nd, rfl⟩⟩; refine ⟨_, rfl, ?_⟩))
    go_loopg [6, 7] k (fun kq v6 v7 w' => ∃ (x6_1 : Int) (x7_1 : Int), v6 = .int .u64 x6_1 ∧ v7 = .int .i64 x7_1 ∧ Aside0 (parapetref01_Bits.l0 kq l0 a1 t178 x6_1 x7_1 = some r) ∧ Aside0 (kq ≤ k) ∧ Drawn0 w w')
    case atStart => exact ⟨(0), (0), (by first | rfl | (simp; done) | (simp [*]; done)), (by first | rfl | (simp; done) | (simp [*]; done)), H', ⟨Nat.le_refl _⟩, by repeat (first | exact Drawn0.refl _ | apply Drawn0.step)⟩
    case round =>
      clear H'
      try clear p2
      try clear c4
      try clear c4b0
      try clear c4b1
      obtain ⟨x6_1, x7_1, rfl, rfl, HA, HK1, ⟨m1, rfl⟩⟩ := hrel
      cases gk with
      | zero => exact absurd HA.out (by simp [parapetref01_Bits.l0])
      | succ k1 =>
        have H := HA.out
        clear HA
        simp only [parapetref01_Bits.l0] at H
        by_cases c5 : x7_1 < (l0.length : Int)
        · rw [if_pos c5] at H
          have c5b0 : decide (x7_1 < (l0.length : Int)) = true := decide_eq_true c5
          clear c5
          obtain ⟨ji6, hji6⟩ : ∃ j_ : Int, (wrap64 (t178 - 1)) = j_ := ⟨_, rfl⟩
          replace H : (if 0 ≤ (ji6) then (if 0 ≤ x7_1 then (if rdOf false l0 x7_1 = true then (if (Go.bits .and .u64 (shr .u64 x6_1 (ji6)) 1) = 0 then (parapetref01_Bits.l0 k1 l0 a1 t178 (Go.bits .xor .u64 (IntKind.u64.wrap (x6_1 * 2)) 1) (wrap64 (x7_1 + 1))) else (parapetref01_Bits.l0 k1 l0 a1 t178 (Go.bits .xor .u64 (Go.bits .xor .u64 (IntKind.u64.wrap (x6_1 * 2)) 1) a1) (wrap64 (x7_1 + 1)))) else (if (Go.bits .and .u64 (shr .u64 x6_1 (ji6)) 1) = 0 then (parapetref01_Bits.l0 k1 l0 a1 t178 (IntKind.u64.wrap (x6_1 * 2)) (wrap64 (x7_1 + 1))) else (parapetref01_Bits.l0 k1 l0 a1 t178 (Go.bits .xor .u64 (IntKind.u64.wrap (x6_1 * 2)) a1) (wrap64 (x7_1 + 1))))) else (none)) else (none)) = some r := by first | (rw [hji6] at H; exact H) | (simp only [hji6] at H ⊢; exact H)
          have hji6w : (IntKind.i64.wrap (t178 - 1)) = ji6 := (i64_w _).trans hji6
          by_cases c7 : 0 ≤ (ji6)
          · rw [if_pos c7] at H
            have c7b0 := eq_true c7
            have c7b1 : decide (0 ≤ (ji6)) = true := decide_eq_true c7
            clear c7
            obtain ⟨ji8, hji8⟩ : ∃ j_ : Int, (shr .u64 x6_1 (ji6)) = j_ := ⟨_, rfl⟩
            replace H : (if 0 ≤ x7_1 then (if rdOf false l0 x7_1 = true then (if (Go.bits .and .u64 (ji8) 1) = 0 then (parapetref01_Bits.l0 k1 l0 a1 t178 (Go.bits .xor .u64 (IntKind.u64.wrap (x6_1 * 2)) 1) (wrap64 (x7_1 + 1))) else (parapetref01_Bits.l0 k1 l0 a1 t178 (Go.bits .xor .u64 (Go.bits .xor .u64 (IntKind.u64.wrap (x6_1 * 2)) 1) a1) (wrap64 (x7_1 + 1)))) else (if (Go.bits .and .u64 (ji8) 1) = 0 then (parapetref01_Bits.l0 k1 l0 a1 t178 (IntKind.u64.wrap (x6_1 * 2)) (wrap64 (x7_1 + 1))) else (parapetref01_Bits.l0 k1 l0 a1 t178 (Go.bits .xor .u64 (IntKind.u64.wrap (x6_1 * 2)) a1) (wrap64 (x7_1 + 1))))) else (none)) = some r := by first | (rw [hji8] at H; exact H) | (simp only [hji8] at H ⊢; exact H)
            have hji8_ : (x6_1 / 2 ^ min (ji6).toNat 64) = ji8 := hji8
            have hji8z : (ji6) ≤ 64 → (x6_1 / 2 ^ (ji6).toNat) = ji8 := shr_small hji8
            by_cases c9 : 0 ≤ x7_1
            · rw [if_pos c9] at H
              have c9b0 : decide (0 ≤ x7_1) = true := decide_eq_true c9
              clear c9
              obtain ⟨bq10, hbq10⟩ : ∃ b_ : Bool, b_ = (rdOf false l0 x7_1) := ⟨_, rfl⟩
              replace H : (if bq10 = true then (if (Go.bits .and .u64 (ji8) 1) = 0 then (parapetref01_Bits.l0 k1 l0 a1 t178 (Go.bits .xor .u64 (IntKind.u64.wrap (x6_1 * 2)) 1) (wrap64 (x7_1 + 1))) else (parapetref01_Bits.l0 k1 l0 a1 t178 (Go.bits .xor .u64 (Go.bits .xor .u64 (IntKind.u64.wrap (x6_1 * 2)) 1) a1) (wrap64 (x7_1 + 1)))) else (if (Go.bits .and .u64 (ji8) 1) = 0 then (parapetref01_Bits.l0 k1 l0 a1 t178 (IntKind.u64.wrap (x6_1 * 2)) (wrap64 (x7_1 + 1))) else (parapetref01_Bits.l0 k1 l0 a1 t178 (Go.bits .xor .u64 (IntKind.u64.wrap (x6_1 * 2)) a1) (wrap64 (x7_1 + 1))))) = some r := by rw [← hbq10] at H; exact H
              have Nbq10 := Aside0.mk hbq10
              clear hbq10
              by_cases c11 : bq10 = true
              · subst c11
                have H1 : (if (Go.bits .and .u64 (ji8) 1) = 0 then (parapetref01_Bits.l0 k1 l0 a1 t178 (Go.bits .xor .u64 (IntKind.u64.wrap (x6_1 * 2)) 1) (wrap64 (x7_1 + 1))) else (parapetref01_Bits.l0 k1 l0 a1 t178 (Go.bits .xor .u64 (Go.bits .xor .u64 (IntKind.u64.wrap (x6_1 * 2)) 1) a1) (wrap64 (x7_1 + 1)))) = some r := by rw [if_pos rfl] at H; exact H
                clear H
                have H := H1
                clear H1
                by_cases c12 : (Go.bits .and .u64 (ji8) 1) = 0
                · rw [if_pos c12] at H
                  have c12b0 : ((Go.bits .and .u64 (ji8) 1) == 0) = true := beq_iff_eq.mpr c12
                  have c12b1 : ((Go.bits .and .u64 (ji8) 1) != 0) = false := bne_eq_false_iff_eq.mpr c12
                  clear c12
                  have H' := Aside0.mk H
                  clear H
                  have p179 : 0 ≤ (x7_1 : Int) := of_decide_eq_true (by first | (with_reducible assumption) | assumption)
                  have q179 : x7_1 < (l0.length : Int) := of_decide_eq_true (by first | (with_reducible assumption) | assumption)
                  obtain ⟨ad179, e179, hx179_0⟩ := Kd.at_bool HR0.out x7_1 p179 q179
                  (try rw [← Nbq10.out] at hx179_0)
                  cases e179
                  replace p179 := eq_true p179
                  replace q179 := eq_true q179
                  go_wp2
                  go_roundg k1
                  case measure => have := HK1.out; omega
                  case rel => exact ⟨(Go.bits .xor .u64 (IntKind.u64.wrap (x6_1 * 2)) 1), (wrap64 (x7_1 + 1)), (by first | rfl | (simp; done) | (simp [*]; done)), (by first | rfl | (simp; done) | (simp [*]; done)), H', ⟨by have := HK1.out; omega⟩, by repeat (first | exact Drawn0.refl _ | apply Drawn0.step)⟩
                · rw [if_neg c12] at H
                  have c12b0 : ((Go.bits .and .u64 (ji8) 1) == 0) = false := beq_eq_false_iff_ne.mpr c12
                  have c12b1 : ((Go.bits .and .u64 (ji8) 1) != 0) = true := bne_iff_ne.mpr c12
                  have H' := Aside0.mk H
                  clear H
                  have p179 : 0 ≤ (x7_1 : Int) := of_decide_eq_true (by first | (with_reducible assumption) | assumption)
                  have q179 : x7_1 < (l0.length : Int) := of_decide_eq_true (by first | (with_reducible assumption) | assumption)
                  obtain ⟨ad179, e179, hx179_0⟩ := Kd.at_bool HR0.out x7_1 p179 q179
                  (try rw [← Nbq10.out] at hx179_0)
                  cases e179
                  replace p179 := eq_true p179
                  replace q179 := eq_true q179
                  go_wp2
                  go_roundg k1
                  case measure => have := HK1.out; omega
                  case rel => exact ⟨(Go.bits .xor .u64 (Go.bits .xor .u64 (IntKind.u64.wrap (x6_1 * 2)) 1) a1), (wrap64 (x7_1 + 1)), (by first | rfl | (simp; done) | (simp [*]; done)), (by first | rfl | (simp; done) | (simp [*]; done)), H', ⟨by have := HK1.out; omega⟩, by repeat (first | exact Drawn0.refl _ | apply Drawn0.step)⟩
              · replace c11 := Bool.eq_false_iff.mpr c11
                subst c11
                have H1 : (if (Go.bits .and .u64 (ji8) 1) = 0 then (parapetref01_Bits.l0 k1 l0 a1 t178 (IntKind.u64.wrap (x6_1 * 2)) (wrap64 (x7_1 + 1))) else (parapetref01_Bits.l0 k1 l0 a1 t178 (Go.bits .xor .u64 (IntKind.u64.wrap (x6_1 * 2)) a1) (wrap64 (x7_1 + 1)))) = some r := by rw [if_neg (show ¬ (false = true) by decide)] at H; exact H
                clear H
                have H := H1
                clear H1
                by_cases c13 : (Go.bits .and .u64 (ji8) 1) = 0
                · rw [if_pos c13] at H
                  have c13b0 : ((Go.bits .and .u64 (ji8) 1) == 0) = true := beq_iff_eq.mpr c13
                  have c13b1 : ((Go.bits .and .u64 (ji8) 1) != 0) = false := bne_eq_false_iff_eq.mpr c13
                  clear c13
                  have H' := Aside0.mk H
                  clear H
                  have p179 : 0 ≤ (x7_1 : Int) := of_decide_eq_true (by first | (with_reducible assumption) | assumption)
                  have q179 : x7_1 < (l0.length : Int) := of_decide_eq_true (by first | (with_reducible assumption) | assumption)
                  obtain ⟨ad179, e179, hx179_0⟩ := Kd.at_bool HR0.out x7_1 p179 q179
                  (try rw [← Nbq10.out] at hx179_0)
                  cases e179
                  replace p179 := eq_true p179
                  replace q179 := eq_true q179
                  go_wp2
                  go_roundg k1
                  case measure => have := HK1.out; omega
                  case rel => exact ⟨(IntKind.u64.wrap (x6_1 * 2)), (wrap64 (x7_1 + 1)), (by first | rfl | (simp; done) | (simp [*]; done)), (by first | rfl | (simp; done) | (simp [*]; done)), H', ⟨by have := HK1.out; omega⟩, by repeat (first | exact Drawn0.refl _ | apply Drawn0.step)⟩
                · rw [if_neg c13] at H
                  have c13b0 : ((Go.bits .and .u64 (ji8) 1) == 0) = false := beq_eq_false_iff_ne.mpr c13
                  have c13b1 : ((Go.bits .and .u64 (ji8) 1) != 0) = true := bne_iff_ne.mpr c13
                  have H' := Aside0.mk H
                  clear H
                  have p179 : 0 ≤ (x7_1 : Int) := of_decide_eq_true (by first | (with_reducible assumption) | assumption)
                  have q179 : x7_1 < (l0.length : Int) := of_decide_eq_true (by first | (with_reducible assumption) | assumption)
                  obtain ⟨ad179, e179, hx179_0⟩ := Kd.at_bool HR0.out x7_1 p179 q179
                  (try rw [← Nbq10.out] at hx179_0)
                  cases e179
                  replace p179 := eq_true p179
                  replace q179 := eq_true q179
                  go_wp2
                  go_roundg k1
                  case measure => have := HK1.out; omega
                  case rel => exact ⟨(Go.bits .xor .u64 (IntKind.u64.wrap (x6_1 * 2)) a1), (wrap64 (x7_1 + 1)), (by first | rfl | (simp; done) | (simp [*]; done)), (by first | rfl | (simp; done) | (simp [*]; done)), H', ⟨by have := HK1.out; omega⟩, by repeat (first | exact Drawn0.refl _ | apply Drawn0.step)⟩
            · rw [if_neg c9] at H
              exact absurd H (by simp)
          · rw [if_neg c7] at H
            exact absurd H (by simp)
        · rw [if_neg c5] at H
          have c5b0 : decide (x7_1 < (l0.length : Int)) = false := decide_eq_false c5
          clear c5
          obtain rfl := Option.some.inj H
          go_wp2
          go_ret
          exact ⟨by first | rfl | (simp; done) | (simp [*]; done), by repeat (first | exact Drawn0.refl _ | apply Drawn0.step)⟩

/-! ### parapetref01_MulMod: function 44 -/
mutual
def parapetref01_MulMod.l0 : Nat → Int → Int → Int → List Bool → Int → Option (Int × Int)
  | 0, _, _, _, _, _ => none
  | k + 1, x0, x1, x2, x8, x9 => if x9 < 64 then (parapetref01_MulMod.l1 k x0 x1 x2 x8 x9 0) else ((parapetref01_Bits.f k x8 x2).bind fun t183 => (some (t183, 0)))
def parapetref01_MulMod.l1 : Nat → Int → Int → Int → List Bool → Int → Int → Option (Int × Int)
  | 0, _, _, _, _, _, _ => none
  | k + 1, x0, x1, x2, x8, x9, x10 => if x10 < 64 then (if 0 ≤ x9 then (if (Go.bits .and .u64 (shr .u64 x0 x9) 1) = 0 then (parapetref01_MulMod.l1 k x0 x1 x2 x8 x9 (wrap64 (x10 + 1))) else (if 0 ≤ x10 then (if (Go.bits .and .u64 (shr .u64 x1 x10) 1) = 0 then (parapetref01_MulMod.l1 k x0 x1 x2 x8 x9 (wrap64 (x10 + 1))) else (if 0 ≤ (wrap64 ((wrap64 (126 - x9)) - x10)) then (if (wrap64 ((wrap64 (126 - x9)) - x10)) < (x8.length : Int) then (parapetref01_MulMod.l1 k x0 x1 x2 (x8.set ((wrap64 ((wrap64 (126 - x9)) - x10)) : Int).toNat (!(rdOf false x8 (wrap64 ((wrap64 (126 - x9)) - x10))))) x9 (wrap64 (x10 + 1))) else (none)) else (none))) else (none))) else (none)) else (parapetref01_MulMod.l0 k x0 x1 x2 x8 (wrap64 (x9 + 1)))
end
def parapetref01_MulMod.f (k : Nat) (a0 : Int) (a1 : Int) (a2 : Int) : Option (Int × Int) := if a2 = 0 then (some (0, 10)) else (if 127 ≤ 281474976710656 then (parapetref01_MulMod.l0 k a0 a1 a2 (List.replicate 127 false) 0) else (none))
theorem parapetref01_MulMod.mono_l : ∀ k, (∀ y0 y1 y2 y3 y4, LeO (parapetref01_MulMod.l0 k y0 y1 y2 y3 y4) (parapetref01_MulMod.l0 (k + 1) y0 y1 y2 y3 y4)) ∧ (∀ y0 y1 y2 y3 y4 y5, LeO (parapetref01_MulMod.l1 k y0 y1 y2 y3 y4 y5) (parapetref01_MulMod.l1 (k + 1) y0 y1 y2 y3 y4 y5))
  | 0 => ⟨fun _ _ _ _ _ r h => by simp [parapetref01_MulMod.l0] at h, fun _ _ _ _ _ _ r h => by simp [parapetref01_MulMod.l1] at h⟩
  | k + 1 => by
    obtain ⟨ih0, ih1⟩ := parapetref01_MulMod.mono_l k
    refine ⟨?_, ?_⟩
    · intro y0 y1 y2 y3 y4
      unfold parapetref01_MulMod.l0
      repeat' first
      | (with_reducible exact ih0 _ _ _ _ _)
      | (with_reducible exact ih1 _ _ _ _ _ _)
      | (with_reducible exact parapetref01_Bits.mono _ _ _)
      | (with_reducible exact LeO.refl _)
      | (with_reducible exact LeO.none _)
      | (with_reducible refine LeO.ite ?_ ?_)
      | (with_reducible refine LeO.bind ?_ (fun _ => ?_))
      | exact ih0 _ _ _ _ _
      | exact ih1 _ _ _ _ _ _
      | exact parapetref01_Bits.mono _ _ _
      | exact LeO.none _
      | refine LeO.ite ?_ ?_
      | refine LeO.bind ?_ (fun _ => ?_)
    · intro y0 y1 y2 y3 y4 y5
      unfold parapetref01_MulMod.l1
      repeat' first
      | (with_reducible exact ih0 _ _ _ _ _)
      | (with_reducible exact ih1 _ _ _ _ _ _)
      | (with_reducible exact parapetref01_Bits.mono _ _ _)
      | (with_reducible exact LeO.refl _)
      | (with_reducible exact LeO.none _)
      | (with_reducible refine LeO.ite ?_ ?_)
      | (with_reducible refine LeO.bind ?_ (fun _ => ?_))
      | exact ih0 _ _ _ _ _
      | exact ih1 _ _ _ _ _ _
      | exact parapetref01_Bits.mono _ _ _
      | exact LeO.none _
      | refine LeO.ite ?_ ?_
      | refine LeO.bind ?_ (fun _ => ?_)
theorem parapetref01_MulMod.mono : ∀ a0 a1 a2 k, LeO (parapetref01_MulMod.f k a0 a1 a2) (parapetref01_MulMod.f (k + 1) a0 a1 a2) := by
  intro a0 a1 a2 k
  obtain ⟨ih0, ih1⟩ := parapetref01_MulMod.mono_l k
  unfold parapetref01_MulMod.f
  repeat' first
      | (with_reducible exact ih0 _ _ _ _ _)
      | (with_reducible exact ih1 _ _ _ _ _ _)
      | (with_reducible exact parapetref01_Bits.mono _ _ _)
      | (with_reducible exact LeO.refl _)
      | (with_reducible exact LeO.none _)
      | (with_reducible refine LeO.ite ?_ ?_)
      | (with_reducible refine LeO.bind ?_ (fun _ => ?_))
      | exact ih0 _ _ _ _ _
      | exact ih1 _ _ _ _ _ _
      | exact parapetref01_Bits.mono _ _ _
      | exact LeO.none _
      | refine LeO.ite ?_ ?_
      | refine LeO.bind ?_ (fun _ => ?_)
set_option maxHeartbeats 8000000 in
set_option maxRecDepth 100000 in
theorem parapetref01_MulMod.calls (k : Nat) (a0 : Int) (a1 : Int) (a2 : Int) (r1 : Int) (r2 : Int) (w : World) (h : parapetref01_MulMod.f k a0 a1 a2 = some (r1, r2)) :
    Calls Try.prog 44 #[.int .u64 a0, .int .u64 a1, .int .u64 a2] w fun e w' => e = .returned (.tuple #[.int .u64 r1, .int .i64 r2]) ∧ Below w.heap.size w w' := by
  have HB := Aside0.mk (Below.refl w.heap.size w)
  have H : (if a2 = 0 then (some (0, 10)) else (if 127 ≤ 281474976710656 then (parapetref01_MulMod.l0 k a0 a1 a2 (List.replicate 127 false) 0) else (none))) = some (r1, r2) := h
  clear h
  by_cases c4 : a2 = 0
  · rw [if_pos c4] at H
    have c4b0 : (a2 == 0) = true := beq_iff_eq.mpr c4
    have c4b1 : (a2 != 0) = false := bne_eq_false_iff_eq.mpr c4
    clear c4
    simp only [Option.some.injEq, Prod.mk.injEq] at H
    obtain ⟨rfl, rfl⟩ := H
    go_enter Try.func44, Try.ntmps44
    go_wp2
    go_ret2
    exact ⟨by first | rfl | (simp [errW_none, errW_some] <;> rfl) | (simp [*, errW_none, errW_some] <;> rfl), by repeat (first | (with_reducible first | exact HB.out | apply below_alloc | apply pw_below_drewN | apply below_drew1) | exact HB.out)⟩
  · rw [if_neg c4] at H
    have c4b0 : (a2 == 0) = false := beq_eq_false_iff_ne.mpr c4
    have c4b1 : (a2 != 0) = true := bne_iff_ne.mpr c4
    by_cases c5 : 127 ≤ 281474976710656
    · rw [if_pos c5] at H
      have c5b0 := eq_true c5
      have c5b1 : decide (127 ≤ 281474976710656) = true := decide_eq_true c5
      clear c5
      obtain ⟨y180, hy180⟩ : ∃ y_ : List Bool, y_ = (List.replicate 127 false) := ⟨_, rfl⟩
      replace H : (parapetref01_MulMod.l0 k a0 a1 a2 y180 0) = some (r1, r2) := by first | (rw [hy180]; with_reducible exact H) | (have H2_ := (Option.bind_some _ _).symm.trans H; rw [hy180]; with_reducible exact H2_) | (have H2_ := (Option.bind_some _ _).symm.trans H; with_reducible exact H2_) | with_reducible exact H | (rw [hy180]; exact H) | exact H
      have Ny180 := Aside0.mk hy180
      clear hy180
      have H' := Aside0.mk H
      clear H
      go_enter Try.func44, Try.ntmps44
      go_wp2_with (first | ((with_reducible refine gate_dst (N := 13) rfl ?_); refine Kd.R_make Kd.bool _ 4 rfl (N := 13) rfl 58 _ _ rfl 127 rfl rfl Try.underlying58 (.bool false) 1 info4 rfl (by decide) (by omega) false (ok := fun _ => True) (okp := fun _ => True) rfl (fun _ hk => hk) trivial (by omega) (by omega) (Below.refl _ _) (Nat.le_refl _) ?_; intro v181 w6 ho7 hb hg_ hnew_; clear hg_ hnew_; (first | rw [← Ny180.out] at ho7 | (simp only [Int.reduceToNat] at ho7; rw [← Ny180.out] at ho7)); have n0_ := Aside0.mk (Kd.R_lower ho7 (below_size (by repeat (first | (with_reducible first | exact HB.out | apply below_alloc | apply pw_below_drewN | apply below_drew1) | exact HB.out)))); have n1_ := Aside0.mk (below_step (by repeat (first | (with_reducible first | exact HB.out | apply below_alloc | apply pw_below_drewN | apply below_drew1) | exact HB.out)) hb); clear HB; have HO182 := n0_; have HB := n1_; clear n0_ n1_; clear hb ho7))
      go_loopg [9] k (fun kq v9 w' => ∃ (x8_1 : List Bool) (x9_1 : Int), v9 = .int .i64 x9_1 ∧ Aside0 (parapetref01_MulMod.l0 kq a0 a1 a2 x8_1 x9_1 = some (r1, r2)) ∧ Aside0 (kq ≤ k) ∧ Aside0 (Kd.R Kd.bool 4 w' w.heap.size (fun _ => True) v181 x8_1) ∧ Aside0 (Below w.heap.size w w'))
      case atStart => exact ⟨(y180), (0), (by first | rfl | (simp; done) | (simp [*]; done)), H', ⟨Nat.le_refl _⟩, ⟨by (with_reducible repeat (first | apply Kd.R_alloc | apply Kd.R_drewN | apply Kd.R_drew)); exact HO182.out⟩, ⟨by repeat (first | (with_reducible first | exact HB.out | apply below_alloc | apply pw_below_drewN | apply below_drew1) | exact HB.out)⟩⟩
      case round =>
        clear H'
        try clear p2
        try clear c4
        try clear c4b0
        try clear c4b1
        try clear c5
        try clear c5b0
        try clear c5b1
        obtain ⟨x8_1, x9_1, rfl, HA, HK1, HO_8, HB⟩ := hrel
        cases gk with
        | zero => exact absurd HA.out (by simp [parapetref01_MulMod.l0])
        | succ k1 =>
          have H := HA.out
          clear HA
          simp only [parapetref01_MulMod.l0] at H
          by_cases c8 : x9_1 < 64
          · rw [if_pos c8] at H
            have c8b0 : decide (x9_1 < 64) = true := decide_eq_true c8
            clear c8
            have H' := Aside0.mk H
            clear H
            go_wp2
            go_loopg [10] k1 (fun kq v10 w' => ∃ (x8_2 : List Bool) (x10_2 : Int), v10 = .int .i64 x10_2 ∧ Aside0 (parapetref01_MulMod.l1 kq a0 a1 a2 x8_2 x9_1 x10_2 = some (r1, r2)) ∧ Aside0 (kq ≤ k1) ∧ Aside0 (Kd.R Kd.bool 4 w' w.heap.size (fun _ => True) v181 x8_2) ∧ Aside0 (Below w.heap.size w w'))
            case atStart => exact ⟨(x8_1), (0), (by first | rfl | (simp; done) | (simp [*]; done)), H', ⟨Nat.le_refl _⟩, ⟨by (with_reducible repeat (first | apply Kd.R_alloc | apply Kd.R_drewN | apply Kd.R_drew)); exact HO_8.out⟩, ⟨by repeat (first | (with_reducible first | exact HB.out | apply below_alloc | apply pw_below_drewN | apply below_drew1) | exact HB.out)⟩⟩
            case round =>
              clear H'
              try clear p2
              try clear c4
              try clear c4b0
              try clear c4b1
              try clear c5
              try clear c5b0
              try clear c5b1
              try clear c8
              try clear c8b0
              try clear p2
              obtain ⟨x8_2, x10_2, rfl, HA, HK2, HO_8, HB⟩ := hrel
              cases gk with
              | zero => exact absurd HA.out (by simp [parapetref01_MulMod.l1])
              | succ k2 =>
                have H := HA.out
                clear HA
                simp only [parapetref01_MulMod.l1] at H
                by_cases c9 : x10_2 < 64
                · rw [if_pos c9] at H
                  have c9b0 : decide (x10_2 < 64) = true := decide_eq_true c9
                  clear c9
                  by_cases c10 : 0 ≤ x9_1
                  · rw [if_pos c10] at H
                    have c10b0 := eq_true c10
                    have c10b1 : decide (0 ≤ x9_1) = true := decide_eq_true c10
                    clear c10
                    obtain ⟨ji11, hji11⟩ : ∃ j_ : Int, (shr .u64 a0 x9_1) = j_ := ⟨_, rfl⟩
                    replace H : (if (Go.bits .and .u64 (ji11) 1) = 0 then (parapetref01_MulMod.l1 k2 a0 a1 a2 x8_2 x9_1 (wrap64 (x10_2 + 1))) else (if 0 ≤ x10_2 then (if (Go.bits .and .u64 (shr .u64 a1 x10_2) 1) = 0 then (parapetref01_MulMod.l1 k2 a0 a1 a2 x8_2 x9_1 (wrap64 (x10_2 + 1))) else (if 0 ≤ (wrap64 ((wrap64 (126 - x9_1)) - x10_2)) then (if (wrap64 ((wrap64 (126 - x9_1)) - x10_2)) < (x8_2.length : Int) then (parapetref01_MulMod.l1 k2 a0 a1 a2 (x8_2.set ((wrap64 ((wrap64 (126 - x9_1)) - x10_2)) : Int).toNat (!(rdOf false x8_2 (wrap64 ((wrap64 (126 - x9_1)) - x10_2))))) x9_1 (wrap64 (x10_2 + 1))) else (none)) else (none))) else (none))) = some (r1, r2) := by first | (rw [hji11] at H; exact H) | (simp only [hji11] at H ⊢; exact H)
                    have hji11_ : (a0 / 2 ^ min x9_1.toNat 64) = ji11 := hji11
                    have hji11z : x9_1 ≤ 64 → (a0 / 2 ^ x9_1.toNat) = ji11 := shr_small hji11
                    by_cases c12 : (Go.bits .and .u64 (ji11) 1) = 0
                    · rw [if_pos c12] at H
                      have c12b0 : ((Go.bits .and .u64 (ji11) 1) == 0) = true := beq_iff_eq.mpr c12
                      have c12b1 : ((Go.bits .and .u64 (ji11) 1) != 0) = false := bne_eq_false_iff_eq.mpr c12
                      clear c12
                      have H' := Aside0.mk H
                      clear H
                      go_wp2
                      go_roundg k2
                      case measure => have := HK1.out; have := HK2.out; omega
                      case rel => exact ⟨(x8_2), (wrap64 (x10_2 + 1)), (by first | rfl | (simp; done) | (simp [*]; done)), H', ⟨by have := HK1.out; have := HK2.out; omega⟩, ⟨by (with_reducible repeat (first | apply Kd.R_alloc | apply Kd.R_drewN | apply Kd.R_drew)); exact HO_8.out⟩, ⟨by repeat (first | (with_reducible first | exact HB.out | apply below_alloc | apply pw_below_drewN | apply below_drew1) | exact HB.out)⟩⟩
                    · rw [if_neg c12] at H
                      have c12b0 : ((Go.bits .and .u64 (ji11) 1) == 0) = false := beq_eq_false_iff_ne.mpr c12
                      have c12b1 : ((Go.bits .and .u64 (ji11) 1) != 0) = true := bne_iff_ne.mpr c12
                      by_cases c13 : 0 ≤ x10_2
                      · rw [if_pos c13] at H
                        have c13b0 := eq_true c13
                        have c13b1 : decide (0 ≤ x10_2) = true := decide_eq_true c13
                        clear c13
                        obtain ⟨ji14, hji14⟩ : ∃ j_ : Int, (shr .u64 a1 x10_2) = j_ := ⟨_, rfl⟩
                        replace H : (if (Go.bits .and .u64 (ji14) 1) = 0 then (parapetref01_MulMod.l1 k2 a0 a1 a2 x8_2 x9_1 (wrap64 (x10_2 + 1))) else (if 0 ≤ (wrap64 ((wrap64 (126 - x9_1)) - x10_2)) then (if (wrap64 ((wrap64 (126 - x9_1)) - x10_2)) < (x8_2.length : Int) then (parapetref01_MulMod.l1 k2 a0 a1 a2 (x8_2.set ((wrap64 ((wrap64 (126 - x9_1)) - x10_2)) : Int).toNat (!(rdOf false x8_2 (wrap64 ((wrap64 (126 - x9_1)) - x10_2))))) x9_1 (wrap64 (x10_2 + 1))) else (none)) else (none))) = some (r1, r2) := by first | (rw [hji14] at H; exact H) | (simp only [hji14] at H ⊢; exact H)
                        have hji14_ : (a1 / 2 ^ min x10_2.toNat 64) = ji14 := hji14
                        have hji14z : x10_2 ≤ 64 → (a1 / 2 ^ x10_2.toNat) = ji14 := shr_small hji14
                        by_cases c15 : (Go.bits .and .u64 (ji14) 1) = 0
                        · rw [if_pos c15] at H
                          have c15b0 : ((Go.bits .and .u64 (ji14) 1) == 0) = true := beq_iff_eq.mpr c15
                          have c15b1 : ((Go.bits .and .u64 (ji14) 1) != 0) = false := bne_eq_false_iff_eq.mpr c15
                          clear c15
                          have H' := Aside0.mk H
                          clear H
                          go_wp2
                          go_roundg k2
                          case measure => have := HK1.out; have := HK2.out; omega
                          case rel => exact ⟨(x8_2), (wrap64 (x10_2 + 1)), (by first | rfl | (simp; done) | (simp [*]; done)), H', ⟨by have := HK1.out; have := HK2.out; omega⟩, ⟨by (with_reducible repeat (first | apply Kd.R_alloc | apply Kd.R_drewN | apply Kd.R_drew)); exact HO_8.out⟩, ⟨by repeat (first | (with_reducible first | exact HB.out | apply below_alloc | apply pw_below_drewN | apply below_drew1) | exact HB.out)⟩⟩
                        · rw [if_neg c15] at H
                          have c15b0 : ((Go.bits .and .u64 (ji14) 1) == 0) = false := beq_eq_false_iff_ne.mpr c15
                          have c15b1 : ((Go.bits .and .u64 (ji14) 1) != 0) = true := bne_iff_ne.mpr c15
                          obtain ⟨ji16, hji16⟩ : ∃ j_ : Int, (wrap64 ((wrap64 (126 - x9_1)) - x10_2)) = j_ := ⟨_, rfl⟩
                          replace H : (if 0 ≤ (ji16) then (if (ji16) < (x8_2.length : Int) then (parapetref01_MulMod.l1 k2 a0 a1 a2 (x8_2.set ((ji16) : Int).toNat (!(rdOf false x8_2 (ji16)))) x9_1 (wrap64 (x10_2 + 1))) else (none)) else (none)) = some (r1, r2) := by first | (rw [hji16] at H; exact H) | (simp only [hji16] at H ⊢; exact H)
                          have hji16w : (IntKind.i64.wrap ((wrap64 (126 - x9_1)) - x10_2)) = ji16 := (i64_w _).trans hji16
                          by_cases c17 : 0 ≤ (ji16)
                          · rw [if_pos c17] at H
                            have c17b0 : decide (0 ≤ (ji16)) = true := decide_eq_true c17
                            clear c17
                            by_cases c18 : (ji16) < (x8_2.length : Int)
                            · rw [if_pos c18] at H
                              have c18b0 : decide ((ji16) < (x8_2.length : Int)) = true := decide_eq_true c18
                              clear c18
                              obtain ⟨y185, hy185⟩ : ∃ y_ : List Bool, y_ = (x8_2.set ((ji16) : Int).toNat (!(rdOf false x8_2 (ji16)))) := ⟨_, rfl⟩
                              replace H : (parapetref01_MulMod.l1 k2 a0 a1 a2 y185 x9_1 (wrap64 (x10_2 + 1))) = some (r1, r2) := by first | (rw [hy185]; with_reducible exact H) | (have H2_ := (Option.bind_some _ _).symm.trans H; rw [hy185]; with_reducible exact H2_) | (have H2_ := (Option.bind_some _ _).symm.trans H; with_reducible exact H2_) | with_reducible exact H | (rw [hy185]; exact H) | exact H
                              have Ny185 := Aside0.mk hy185
                              clear hy185
                              have H' := Aside0.mk H
                              clear H
                              obtain ⟨Ao20, co20, eo20⟩ := Kd.R_slice HO_8.out
                              subst eo20
                              have p184 : 0 ≤ ((ji16) : Int) := of_decide_eq_true (by first | (with_reducible assumption) | assumption)
                              have q184 : (ji16) < (x8_2.length : Int) := of_decide_eq_true (by first | (with_reducible assumption) | assumption)
                              obtain ⟨ad184, e184, hx184_0⟩ := Kd.at_bool (Kd.R_reads' HO_8.out).2.2 (ji16) p184 q184
                              cases e184
                              replace p184 := eq_true p184
                              replace q184 := eq_true q184
                              have p19 : 0 ≤ ((ji16) : Int) := of_decide_eq_true (by first | (with_reducible assumption) | assumption)
                              have q19 : ((ji16) : Int) < ((x8_2.length : Int) : Int) := of_decide_eq_true (by first | (with_reducible assumption) | assumption)
                              obtain ⟨go19, co19, eo19, gb19, gl19, cl19, HG19⟩ := Kd.R_form HO_8.out (by omega)
                              (first | cases eo19 | (injection eo19 with ea_ en_ ec_; (first | subst ea_ | (injection ea_ with ea_; subst ea_)); subst ec_; clear en_))
                              have GB19 := Aside0.mk gb19
                              have GG19 := Aside0.mk HG19
                              clear gb19 gl19 HG19
                              (first | simp only [add_plain] at hx184_0 | skip)
                              obtain ⟨hx19_0, hf19_0⟩ := Kd.R_celln false HO_8.out ((ji16) : Int) p19 q19
                              replace p19 := eq_true p19
                              replace q19 := eq_true q19
                              have HP21 := Kd.R_putg HO_8.out ((ji16) : Int) (!(rdOf false x8_2 (ji16)))
                              go_wp2_with (first | ((with_reducible refine gate_store (t := 4) (p := 47) rfl ?_); refine store_event (t := 4) (p := 47) (v := ?vo_w22) (w1 := (wr.setCell ⟨go19, ((ji16) : Int).toNat, none⟩ (.bool (!(rdOf false x8_2 (ji16)))))) ?hg ?ho ?hn ?hr ?_; (case ho => rfl); (case hg => rfl); (case hn => rfl); (case hr => first | (go_simp; done) | (go_simp; rfl)); intro w22 hw; have hg : wr.grownBy w22 (some go19) := (by rw [hw]; exact HP21.2); have hp_ : Kd.R Kd.bool 4 w22 w.heap.size (fun _ => True) (.slice (some ⟨go19, 0, none⟩) x8_2.length co20) y185 := (by rw [hw, Ny185.out]; exact HP21.1); clear HP21; have n0_ := Aside0.mk (hp_); have n1_ := Aside0.mk ((by rw [hw]; exact below_set (HB.out) GB19.out : Below w.heap.size w w22)); clear HO_8; clear HB; have HO_8 := n0_; have HB := n1_; clear n0_ n1_; clear hg hw hp_))
                              go_roundg k2
                              case measure => have := HK1.out; have := HK2.out; omega
                              case rel => exact ⟨(y185), (wrap64 (x10_2 + 1)), (by first | rfl | (simp; done) | (simp [*]; done)), H', ⟨by have := HK1.out; have := HK2.out; omega⟩, ⟨by (with_reducible repeat (first | apply Kd.R_alloc | apply Kd.R_drewN | apply Kd.R_drew)); exact HO_8.out⟩, ⟨by repeat (first | (with_reducible first | exact HB.out | apply below_alloc | apply pw_below_drewN | apply below_drew1) | exact HB.out)⟩⟩
                            · rw [if_neg c18] at H
                              exact absurd H (by simp)
                          · rw [if_neg c17] at H
                            exact absurd H (by simp)
                      · rw [if_neg c13] at H
                        exact absurd H (by simp)
                  · rw [if_neg c10] at H
                    exact absurd H (by simp)
                · rw [if_neg c9] at H
                  have c9b0 : decide (x10_2 < 64) = false := decide_eq_false c9
                  clear c9
                  have H' := Aside0.mk H
                  clear H
                  go_wp2
                  go_roundg k2
                  case measure => have := HK1.out; have := HK2.out; omega
                  case rel => exact ⟨(x8_2), (wrap64 (x9_1 + 1)), (by first | rfl | (simp; done) | (simp [*]; done)), H', ⟨by have := HK1.out; have := HK2.out; omega⟩, ⟨by (with_reducible repeat (first | apply Kd.R_alloc | apply Kd.R_drewN | apply Kd.R_drew)); exact HO_8.out⟩, ⟨by repeat (first | (with_reducible first | exact HB.out | apply below_alloc | apply pw_below_drewN | apply below_drew1) | exact HB.out)⟩⟩
          · rw [if_neg c8] at H
            have c8b0 : decide (x9_1 < 64) = false := decide_eq_false c8
            clear c8
            replace H := Option.bind_eq_some_iff.mp H
            obtain ⟨t183, A230, H⟩ := H
            replace H : (some (t183, 0)) = some (r1, r2) := H
            have A23 := Aside0.mk A230
            clear A230
            simp only [Option.some.injEq, Prod.mk.injEq] at H
            obtain ⟨rfl, rfl⟩ := H
            obtain ⟨Ao24, co24, eo24⟩ := Kd.R_slice HO_8.out
            subst eo24
            go_wp2_with (first | ((with_reducible refine gate_callee (f := 51) rfl ?_); refine goesL_ (some 50) rfl rfl Try.func51 (by kernel_rfl) rfl #[.slice Ao24 x8_1.length co24, .int .u64 a2] rfl (by (try simp only [List.map_toArray, List.map_cons, List.map_nil]); first | done | rfl | (simp only [List.length_drop, List.length_take]; rfl)) ?_; (with_reducible refine (parapetref01_Bits.calls k1 _ _ x8_1 a2 t183 _ ?side1 ?side2 A23.out).mono ?_); (case side1 => repeat (first | exact (Kd.R_reads' HO_8.out).2.2 | (with_reducible refine Kd.C_alloc ?_ _) | (with_reducible refine Kd.C_drewN ?_ _) | (with_reducible refine Kd.C_drew ?_))); (case side2 => exact (Kd.R_reads' HO_8.out).2.1); rintro e w' ⟨rfl, ⟨nd, rfl⟩⟩; refine ⟨_, rfl, ?_⟩))
            go_ret2
            exact ⟨by first | rfl | (simp [errW_none, errW_some] <;> rfl) | (simp [*, errW_none, errW_some] <;> rfl), by repeat (first | (with_reducible first | exact HB.out | apply below_alloc | apply pw_below_drewN | apply below_drew1) | exact HB.out)⟩
    · rw [if_neg c5] at H
      exact absurd H (by simp)

/-! ### parapetref01_PowMod: function 43 -/
def parapetref01_PowMod.f : Nat → Int → Int → Option (Int × Int)
  | 0, _, _ => none
  | k + 1, a0, a1 => if a1 = 0 then (some (0, 10)) else (if a0 = 0 then ((parapetref01_Bits.f k (([true] : List Bool)) a1).bind fun t189 => (some (t189, 0))) else ((parapetref01_PowMod.f k (IntKind.u64.wrap (Int.tdiv a0 2)) a1).bind fun bt190 => ((parapetref01_MulMod.f k bt190.1 bt190.1 a1).bind fun bt192 => (if (Int.tmod a0 2) = 0 then (some (bt192.1, 0)) else ((parapetref01_MulMod.f k bt192.1 2 a1).bind fun bt194 => (some (bt194.1, 0)))))))
theorem parapetref01_PowMod.mono_l : ∀ k, (∀ y0 y1, LeO (parapetref01_PowMod.f k y0 y1) (parapetref01_PowMod.f (k + 1) y0 y1))
  | 0 => fun _ _ r h => by simp [parapetref01_PowMod.f] at h
  | k + 1 => by
    have ih0 := parapetref01_PowMod.mono_l k
    · intro y0 y1
      unfold parapetref01_PowMod.f
      repeat' first
      | (with_reducible exact ih0 _ _)
      | (with_reducible exact parapetref01_Bits.mono _ _ _)
      | (with_reducible exact parapetref01_MulMod.mono _ _ _ _)
      | (with_reducible exact LeO.refl _)
      | (with_reducible exact LeO.none _)
      | (with_reducible refine LeO.ite ?_ ?_)
      | (with_reducible refine LeO.bind ?_ (fun _ => ?_))
      | exact ih0 _ _
      | exact parapetref01_Bits.mono _ _ _
      | exact parapetref01_MulMod.mono _ _ _ _
      | exact LeO.none _
      | refine LeO.ite ?_ ?_
      | refine LeO.bind ?_ (fun _ => ?_)
theorem parapetref01_PowMod.mono : ∀ a0 a1 k, LeO (parapetref01_PowMod.f k a0 a1) (parapetref01_PowMod.f (k + 1) a0 a1) := by
  intro a0 a1 k
  have ih0 := parapetref01_PowMod.mono_l k
  exact ih0 a0 a1
set_option maxHeartbeats 8000000 in
set_option maxRecDepth 100000 in
theorem parapetref01_PowMod.calls (k : Nat) : ∀ (a0 : Int) (a1 : Int) (r1 : Int) (r2 : Int) (w : World) (h : parapetref01_PowMod.f k a0 a1 = some (r1, r2)),
    Calls Try.prog 43 #[.int .u64 a0, .int .u64 a1] w fun e w' => e = .returned (.tuple #[.int .u64 r1, .int .i64 r2]) ∧ Below w.heap.size w w' := by
  induction k using Nat.strongRecOn with
  | _ k ih =>
  intro a0 a1 r1 r2 w h
  cases k with
  | zero => exact absurd h (by simp [parapetref01_PowMod.f])
  | succ k =>
  simp only [parapetref01_PowMod.f] at h
  have HB := Aside0.mk (Below.refl w.heap.size w)
  have H : (if a1 = 0 then (some (0, 10)) else (if a0 = 0 then ((parapetref01_Bits.f k (([true] : List Bool)) a1).bind fun t189 => (some (t189, 0))) else ((parapetref01_PowMod.f k (IntKind.u64.wrap (Int.tdiv a0 2)) a1).bind fun bt190 => ((parapetref01_MulMod.f k bt190.1 bt190.1 a1).bind fun bt192 => (if (Int.tmod a0 2) = 0 then (some (bt192.1, 0)) else ((parapetref01_MulMod.f k bt192.1 2 a1).bind fun bt194 => (some (bt194.1, 0)))))))) = some (r1, r2) := h
  clear h
  by_cases c3 : a1 = 0
  · rw [if_pos c3] at H
    have c3b0 : (a1 == 0) = true := beq_iff_eq.mpr c3
    have c3b1 : (a1 != 0) = false := bne_eq_false_iff_eq.mpr c3
    clear c3
    simp only [Option.some.injEq, Prod.mk.injEq] at H
    obtain ⟨rfl, rfl⟩ := H
    go_enter Try.func43, Try.ntmps43
    go_wp2
    go_ret2
    exact ⟨by first | rfl | (simp [errW_none, errW_some] <;> rfl) | (simp [*, errW_none, errW_some] <;> rfl), by repeat (first | (with_reducible first | exact HB.out | apply below_alloc | apply pw_below_drewN | apply below_drew1) | exact HB.out)⟩
  · rw [if_neg c3] at H
    have c3b0 : (a1 == 0) = false := beq_eq_false_iff_ne.mpr c3
    have c3b1 : (a1 != 0) = true := bne_iff_ne.mpr c3
    by_cases c4 : a0 = 0
    · rw [if_pos c4] at H
      have c4b0 : (a0 == 0) = true := beq_iff_eq.mpr c4
      have c4b1 : (a0 != 0) = false := bne_eq_false_iff_eq.mpr c4
      clear c4
      obtain ⟨y186, hy186⟩ : ∃ y_ : List Bool, y_ = (([true] : List Bool)) := ⟨_, rfl⟩
      replace H : ((parapetref01_Bits.f k y186 a1).bind fun t189 => (some (t189, 0))) = some (r1, r2) := by first | (rw [hy186]; with_reducible exact H) | (have H2_ := (Option.bind_some _ _).symm.trans H; rw [hy186]; with_reducible exact H2_) | (have H2_ := (Option.bind_some _ _).symm.trans H; with_reducible exact H2_) | with_reducible exact H | (rw [hy186]; exact H) | exact H
      have Ny186 := Aside0.mk hy186
      clear hy186
      replace H := Option.bind_eq_some_iff.mp H
      obtain ⟨t189, A50, H⟩ := H
      replace H : (some (t189, 0)) = some (r1, r2) := H
      have A5 := Aside0.mk A50
      clear A50
      simp only [Option.some.injEq, Prod.mk.injEq] at H
      obtain ⟨rfl, rfl⟩ := H
      go_enter Try.func43, Try.ntmps43
      go_wp2_with (first | ((with_reducible refine gate_dst (N := 14) rfl ?_); refine Kd.R_lit Kd.bool _ 4 ?hg (N := 14) ?hd (xs := ([true] : List Bool)) (inner := [.bool true]) (ok := fun _ => True) (okp := fun _ => True) ?hr ?hp (fun _ hk => hk) trivial (Below.refl _ _) (Nat.le_refl _) (by simp) ?_; (case hd => rfl); (case hg => rfl); (case hr => first | (go_simp; done) | (go_simp; rfl)); (case hp => exact (Reps.one (show Kd.M Kd.bool _ _ _ true [.bool true] from rfl) (Reps.none _ _))); intro v187 w6 ho7 hb hg_ hnew_; clear hg_ hnew_; (first | rw [← Ny186.out] at ho7 | (simp only [Int.reduceToNat] at ho7; rw [← Ny186.out] at ho7)); have n0_ := Aside0.mk (Kd.R_lower ho7 (below_size (by repeat (first | (with_reducible first | exact HB.out | apply below_alloc | apply pw_below_drewN | apply below_drew1) | exact HB.out)))); have n1_ := Aside0.mk (below_step (by repeat (first | (with_reducible first | exact HB.out | apply below_alloc | apply pw_below_drewN | apply below_drew1) | exact HB.out)) hb); clear HB; have HO188 := n0_; have HB := n1_; clear n0_ n1_; clear hb ho7; obtain ⟨Ao8, co8, eo8⟩ := Kd.R_slice HO188.out; subst eo8) | ((with_reducible refine gate_callee (f := 51) rfl ?_); refine goesL_ (some 16) rfl rfl Try.func51 (by kernel_rfl) rfl #[.slice Ao8 y186.length co8, .int .u64 a1] rfl (by (try simp only [List.map_toArray, List.map_cons, List.map_nil]); first | done | rfl | (simp only [List.length_drop, List.length_take]; rfl)) ?_; (with_reducible refine (parapetref01_Bits.calls k _ _ y186 a1 t189 _ ?side1 ?side2 A5.out).mono ?_); (case side1 => repeat (first | exact (Kd.R_reads' HO188.out).2.2 | (with_reducible refine Kd.C_alloc ?_ _) | (with_reducible refine Kd.C_drewN ?_ _) | (with_reducible refine Kd.C_drew ?_))); (case side2 => exact (Kd.R_reads' HO188.out).2.1); rintro e w' ⟨rfl, ⟨nd, rfl⟩⟩; refine ⟨_, rfl, ?_⟩))
      go_ret2
      exact ⟨by first | rfl | (simp [errW_none, errW_some] <;> rfl) | (simp [*, errW_none, errW_some] <;> rfl), by repeat (first | (with_reducible first | exact HB.out | apply below_alloc | apply pw_below_drewN | apply below_drew1) | exact HB.out)⟩
    · rw [if_neg c4] at H
      have c4b0 : (a0 == 0) = false := beq_eq_false_iff_ne.mpr c4
      have c4b1 : (a0 != 0) = true := bne_iff_ne.mpr c4
      replace H := Option.bind_eq_some_iff.mp H
      obtain ⟨⟨t190, t191⟩, A90, H⟩ := H
      replace H : ((parapetref01_MulMod.f k t190 t190 a1).bind fun bt192 => (if (Int.tmod a0 2) = 0 then (some (bt192.1, 0)) else ((parapetref01_MulMod.f k bt192.1 2 a1).bind fun bt194 => (some (bt194.1, 0))))) = some (r1, r2) := H
      have A9 := Aside0.mk A90
      clear A90
      replace H := Option.bind_eq_some_iff.mp H
      obtain ⟨⟨t192, t193⟩, A100, H⟩ := H
      replace H : (if (Int.tmod a0 2) = 0 then (some (t192, 0)) else ((parapetref01_MulMod.f k t192 2 a1).bind fun bt194 => (some (bt194.1, 0)))) = some (r1, r2) := H
      have A10 := Aside0.mk A100
      clear A100
      by_cases c11 : (Int.tmod a0 2) = 0
      · rw [if_pos c11] at H
        have c11b0 : ((Int.tmod a0 2) == 0) = true := beq_iff_eq.mpr c11
        have c11b1 : ((Int.tmod a0 2) != 0) = false := bne_eq_false_iff_eq.mpr c11
        clear c11
        simp only [Option.some.injEq, Prod.mk.injEq] at H
        obtain ⟨rfl, rfl⟩ := H
        go_enter Try.func43, Try.ntmps43
        go_wp2_with (first | ((with_reducible refine gate_callee (f := 43) rfl ?_); refine goesL_ (some 21) rfl rfl Try.func43 (by kernel_rfl) rfl #[.int .u64 (IntKind.u64.wrap (Int.tdiv a0 2)), .int .u64 a1] rfl (by (try simp only [List.map_toArray, List.map_cons, List.map_nil]); first | done | rfl | (simp only [List.length_drop, List.length_take]; rfl)) ?_; (with_reducible refine (ih k (by omega) (IntKind.u64.wrap (Int.tdiv a0 2)) a1 t190 t191 _ A9.out).mono ?_); rintro e w12 ⟨rfl, hb⟩; refine ⟨_, rfl, ?_⟩; have n0_ := Aside0.mk (below_step (by repeat (first | (with_reducible first | exact HB.out | apply below_alloc | apply pw_below_drewN | apply below_drew1) | exact HB.out)) hb); clear HB; have HB := n0_; clear n0_; (try clear hb); (try clear hb2); (try clear hk); (try clear hi)) | ((with_reducible refine gate_callee (f := 44) rfl ?_); refine goesL_ (some 28) rfl rfl Try.func44 (by kernel_rfl) rfl #[.int .u64 t190, .int .u64 t190, .int .u64 a1] rfl (by (try simp only [List.map_toArray, List.map_cons, List.map_nil]); first | done | rfl | (simp only [List.length_drop, List.length_take]; rfl)) ?_; (with_reducible refine (parapetref01_MulMod.calls k t190 t190 a1 t192 t193 _ A10.out).mono ?_); rintro e w13 ⟨rfl, hb⟩; refine ⟨_, rfl, ?_⟩; have n0_ := Aside0.mk (below_step (by repeat (first | (with_reducible first | exact HB.out | apply below_alloc | apply pw_below_drewN | apply below_drew1) | exact HB.out)) hb); clear HB; have HB := n0_; clear n0_; (try clear hb); (try clear hb2); (try clear hk); (try clear hi)))
        go_ret2
        exact ⟨by first | rfl | (simp [errW_none, errW_some] <;> rfl) | (simp [*, errW_none, errW_some] <;> rfl), by repeat (first | (with_reducible first | exact HB.out | apply below_alloc | apply pw_below_drewN | apply below_drew1) | exact HB.out)⟩
      · rw [if_neg c11] at H
        have c11b0 : ((Int.tmod a0 2) == 0) = false := beq_eq_false_iff_ne.mpr c11
        have c11b1 : ((Int.tmod a0 2) != 0) = true := bne_iff_ne.mpr c11
        replace H := Option.bind_eq_some_iff.mp H
        obtain ⟨⟨t194, t195⟩, A140, H⟩ := H
        replace H : (some (t194, 0)) = some (r1, r2) := H
        have A14 := Aside0.mk A140
        clear A140
        simp only [Option.some.injEq, Prod.mk.injEq] at H
        obtain ⟨rfl, rfl⟩ := H
        go_enter Try.func43, Try.ntmps43
        go_wp2_with (first | ((with_reducible refine gate_callee (f := 43) rfl ?_); refine goesL_ (some 21) rfl rfl Try.func43 (by kernel_rfl) rfl #[.int .u64 (IntKind.u64.wrap (Int.tdiv a0 2)), .int .u64 a1] rfl (by (try simp only [List.map_toArray, List.map_cons, List.map_nil]); first | done | rfl | (simp only [List.length_drop, List.length_take]; rfl)) ?_; (with_reducible refine (ih k (by omega) (IntKind.u64.wrap (Int.tdiv a0 2)) a1 t190 t191 _ A9.out).mono ?_); rintro e w15 ⟨rfl, hb⟩; refine ⟨_, rfl, ?_⟩; have n0_ := Aside0.mk (below_step (by repeat (first | (with_reducible first | exact HB.out | apply below_alloc | apply pw_below_drewN | apply below_drew1) | exact HB.out)) hb); clear HB; have HB := n0_; clear n0_; (try clear hb); (try clear hb2); (try clear hk); (try clear hi)) | ((with_reducible refine gate_callee (f := 44) rfl ?_); refine goesL_ (some 28) rfl rfl Try.func44 (by kernel_rfl) rfl #[.int .u64 t190, .int .u64 t190, .int .u64 a1] rfl (by (try simp only [List.map_toArray, List.map_cons, List.map_nil]); first | done | rfl | (simp only [List.length_drop, List.length_take]; rfl)) ?_; (with_reducible refine (parapetref01_MulMod.calls k t190 t190 a1 t192 t193 _ A10.out).mono ?_); rintro e w16 ⟨rfl, hb⟩; refine ⟨_, rfl, ?_⟩; have n0_ := Aside0.mk (below_step (by repeat (first | (with_reducible first | exact HB.out | apply below_alloc | apply pw_below_drewN | apply below_drew1) | exact HB.out)) hb); clear HB; have HB := n0_; clear n0_; (try clear hb); (try clear hb2); (try clear hk); (try clear hi)) | ((with_reducible refine gate_callee (f := 44) rfl ?_); refine goesL_ (some 37) rfl rfl Try.func44 (by kernel_rfl) rfl #[.int .u64 t192, .int .u64 2, .int .u64 a1] rfl (by (try simp only [List.map_toArray, List.map_cons, List.map_nil]); first | done | rfl | (simp only [List.length_drop, List.length_take]; rfl)) ?_; (with_reducible refine (parapetref01_MulMod.calls k t192 2 a1 t194 t195 _ A14.out).mono ?_); rintro e w17 ⟨rfl, hb⟩; refine ⟨_, rfl, ?_⟩; have n0_ := Aside0.mk (below_step (by repeat (first | (with_reducible first | exact HB.out | apply below_alloc | apply pw_below_drewN | apply below_drew1) | exact HB.out)) hb); clear HB; have HB := n0_; clear n0_; (try clear hb); (try clear hb2); (try clear hk); (try clear hi)))
        go_ret2
        exact ⟨by first | rfl | (simp [errW_none, errW_some] <;> rfl) | (simp [*, errW_none, errW_some] <;> rfl), by repeat (first | (with_reducible first | exact HB.out | apply below_alloc | apply pw_below_drewN | apply below_drew1) | exact HB.out)⟩

end Go.Proofs.Ytcnlomknmhgpbaa.PA
