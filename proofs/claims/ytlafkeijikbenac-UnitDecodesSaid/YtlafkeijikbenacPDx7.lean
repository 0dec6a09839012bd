-- Written by a program of this session (wip/pr.sh): the functions' plain forms and their walks.
import Derived.Test.YtlafkeijikbenacPDx0
import Derived.Test.YtlafkeijikbenacPDx6
namespace Go.Proofs.Ytlafkeijikbenac.PD
open Go.RowKit Go.Proofs.YtlafkeijikbenacW.PrintWords Go.Proofs.YtlafkeijikbenacW.PrintLast Go.Proofs.YtlafkeijikbenacW.PrintMore
attribute [local go_sem] max2_int min2_int max_two min_two max_three min_three max_four min_four   -- for this text's walks alone
set_option linter.unusedVariables false
set_option linter.unusedSimpArgs false

/-! ### parapetref04_Lawful: function 37 -/
mutual
def parapetref04_Lawful.j0 : Nat → Int → Bool → Int → Int → Int → Int → Int → List Int → Option (Int)
  | 0, _, _, _, _, _, _, _, _ => none
  | k + 1, x3, x4, x257000, x257001, x257002, x257003, x257004, x257005 => if x4 = true then (parapetref04_Lawful.j1 k x3 x4 true x257000 x257001 x257002 x257003 x257004 x257005) else (if x3 = 5 then (parapetref04_Lawful.j1 k x3 x4 true x257000 x257001 x257002 x257003 x257004 x257005) else (parapetref04_Lawful.j1 k x3 x4 (x3 == 21) x257000 x257001 x257002 x257003 x257004 x257005))
def parapetref04_Lawful.j1 : Nat → Int → Bool → Bool → Int → Int → Int → Int → Int → List Int → Option (Int)
  | 0, _, _, _, _, _, _, _, _, _ => none
  | k + 1, x3, x4, x5, x257000, x257001, x257002, x257003, x257004, x257005 => (parapetref04_Host.f x3).bind fun t257 => (if t257 = true then (parapetref04_Lawful.j2 k x3 x4 x5 false x257000 x257001 x257002 x257003 x257004 x257005) else ((parapetref04_Device.f x3).bind fun t258 => (parapetref04_Lawful.j2 k x3 x4 x5 (!t258) x257000 x257001 x257002 x257003 x257004 x257005)))
def parapetref04_Lawful.j2 : Nat → Int → Bool → Bool → Bool → Int → Int → Int → Int → Int → List Int → Option (Int)
  | 0, _, _, _, _, _, _, _, _, _, _ => none
  | k + 1, x3, x4, x5, x23, x257000, x257001, x257002, x257003, x257004, x257005 => if x23 = true then (some 43) else (if x257001 = 0 then (some 44) else ((parapetref04_data.f k x3 (x257005.length : Int)).bind fun t259 => (if t259 = true then (if x3 = 1 then (parapetref04_Lawful.j3 k x3 x4 x5 (x257002 != 0) x257000 x257001 x257002 x257003 x257004 x257005) else (parapetref04_Lawful.j3 k x3 x4 x5 false x257000 x257001 x257002 x257003 x257004 x257005)) else (some 45))))
def parapetref04_Lawful.j3 : Nat → Int → Bool → Bool → Bool → Int → Int → Int → Int → Int → List Int → Option (Int)
  | 0, _, _, _, _, _, _, _, _, _, _ => none
  | k + 1, x3, x4, x5, x43, x257000, x257001, x257002, x257003, x257004, x257005 => if x43 = true then (parapetref04_Lawful.j4 k x4 x5 x43 x257000 x257001 x257002 x257003 x257004 x257005) else (if x3 = 1 then (parapetref04_Lawful.j4 k x4 x5 false x257000 x257001 x257002 x257003 x257004 x257005) else (if x3 = 22 then (parapetref04_Lawful.j4 k x4 x5 false x257000 x257001 x257002 x257003 x257004 x257005) else (parapetref04_Lawful.j4 k x4 x5 (x257002 == 0) x257000 x257001 x257002 x257003 x257004 x257005)))
def parapetref04_Lawful.j4 : Nat → Bool → Bool → Bool → Int → Int → Int → Int → Int → List Int → Option (Int)
  | 0, _, _, _, _, _, _, _, _, _ => none
  | k + 1, x4, x5, x43, x257000, x257001, x257002, x257003, x257004, x257005 => if x43 = true then (some 46) else (if (x5 != (x257003 != 0)) = true then (some 47) else (if x257004 < 0 then (some 48) else (if x257004 > 15 then (some 48) else (if x4 = true then (some 0) else (if x257004 = 0 then (some 0) else (some 48))))))
end
def parapetref04_Lawful.f (k : Nat) (a0_0 : Int) (a0_1 : Int) (a0_2 : Int) (a0_3 : Int) (a0_4 : Int) (l0_5 : List Int) : Option (Int) := if a0_0 = 4 then (parapetref04_Lawful.j0 k a0_0 true a0_0 a0_1 a0_2 a0_3 a0_4 l0_5) else (parapetref04_Lawful.j0 k a0_0 (a0_0 == 20) a0_0 a0_1 a0_2 a0_3 a0_4 l0_5)
theorem parapetref04_Lawful.mono_l : ∀ k, (∀ y0 y1 y2 y3 y4 y5 y6 y7, LeO (parapetref04_Lawful.j0 k y0 y1 y2 y3 y4 y5 y6 y7) (parapetref04_Lawful.j0 (k + 1) y0 y1 y2 y3 y4 y5 y6 y7)) ∧ (∀ y0 y1 y2 y3 y4 y5 y6 y7 y8, LeO (parapetref04_Lawful.j1 k y0 y1 y2 y3 y4 y5 y6 y7 y8) (parapetref04_Lawful.j1 (k + 1) y0 y1 y2 y3 y4 y5 y6 y7 y8)) ∧ (∀ y0 y1 y2 y3 y4 y5 y6 y7 y8 y9, LeO (parapetref04_Lawful.j2 k y0 y1 y2 y3 y4 y5 y6 y7 y8 y9) (parapetref04_Lawful.j2 (k + 1) y0 y1 y2 y3 y4 y5 y6 y7 y8 y9)) ∧ (∀ y0 y1 y2 y3 y4 y5 y6 y7 y8 y9, LeO (parapetref04_Lawful.j3 k y0 y1 y2 y3 y4 y5 y6 y7 y8 y9) (parapetref04_Lawful.j3 (k + 1) y0 y1 y2 y3 y4 y5 y6 y7 y8 y9)) ∧ (∀ y0 y1 y2 y3 y4 y5 y6 y7 y8, LeO (parapetref04_Lawful.j4 k y0 y1 y2 y3 y4 y5 y6 y7 y8) (parapetref04_Lawful.j4 (k + 1) y0 y1 y2 y3 y4 y5 y6 y7 y8))
  | 0 => ⟨fun _ _ _ _ _ _ _ _ r h => by simp [parapetref04_Lawful.j0] at h, fun _ _ _ _ _ _ _ _ _ r h => by simp [parapetref04_Lawful.j1] at h, fun _ _ _ _ _ _ _ _ _ _ r h => by simp [parapetref04_Lawful.j2] at h, fun _ _ _ _ _ _ _ _ _ _ r h => by simp [parapetref04_Lawful.j3] at h, fun _ _ _ _ _ _ _ _ _ r h => by simp [parapetref04_Lawful.j4] at h⟩
  | k + 1 => by
    obtain ⟨ih0, ih1, ih2, ih3, ih4⟩ := parapetref04_Lawful.mono_l k
    refine ⟨?_, ?_, ?_, ?_, ?_⟩
    · intro y0 y1 y2 y3 y4 y5 y6 y7
      unfold parapetref04_Lawful.j0
      repeat' first
      | (with_reducible exact ih0 _ _ _ _ _ _ _ _)
      | (with_reducible exact ih1 _ _ _ _ _ _ _ _ _)
      | (with_reducible exact ih2 _ _ _ _ _ _ _ _ _ _)
      | (with_reducible exact ih3 _ _ _ _ _ _ _ _ _ _)
      | (with_reducible exact ih4 _ _ _ _ _ _ _ _ _)
      | (with_reducible exact parapetref04_data.mono _ _ _)
      | (with_reducible exact LeO.refl _)
      | (with_reducible exact LeO.none _)
      | (with_reducible refine LeO.ite ?_ ?_)
      | (with_reducible refine LeO.bind ?_ (fun _ => ?_))
      | exact ih0 _ _ _ _ _ _ _ _
      | exact ih1 _ _ _ _ _ _ _ _ _
      | exact ih2 _ _ _ _ _ _ _ _ _ _
      | exact ih3 _ _ _ _ _ _ _ _ _ _
      | exact ih4 _ _ _ _ _ _ _ _ _
      | exact parapetref04_data.mono _ _ _
      | exact LeO.none _
      | refine LeO.ite ?_ ?_
      | refine LeO.bind ?_ (fun _ => ?_)
    · intro y0 y1 y2 y3 y4 y5 y6 y7 y8
      unfold parapetref04_Lawful.j1
      repeat' first
      | (with_reducible exact ih0 _ _ _ _ _ _ _ _)
      | (with_reducible exact ih1 _ _ _ _ _ _ _ _ _)
      | (with_reducible exact ih2 _ _ _ _ _ _ _ _ _ _)
      | (with_reducible exact ih3 _ _ _ _ _ _ _ _ _ _)
      | (with_reducible exact ih4 _ _ _ _ _ _ _ _ _)
      | (with_reducible exact parapetref04_data.mono _ _ _)
      | (with_reducible exact LeO.refl _)
      | (with_reducible exact LeO.none _)
      | (with_reducible refine LeO.ite ?_ ?_)
      | (with_reducible refine LeO.bind ?_ (fun _ => ?_))
      | exact ih0 _ _ _ _ _ _ _ _
      | exact ih1 _ _ _ _ _ _ _ _ _
      | exact ih2 _ _ _ _ _ _ _ _ _ _
      | exact ih3 _ _ _ _ _ _ _ _ _ _
      | exact ih4 _ _ _ _ _ _ _ _ _
      | exact parapetref04_data.mono _ _ _
      | exact LeO.none _
      | refine LeO.ite ?_ ?_
      | refine LeO.bind ?_ (fun _ => ?_)
    · intro y0 y1 y2 y3 y4 y5 y6 y7 y8 y9
      unfold parapetref04_Lawful.j2
      repeat' first
      | (with_reducible exact ih0 _ _ _ _ _ _ _ _)
      | (with_reducible exact ih1 _ _ _ _ _ _ _ _ _)
      | (with_reducible exact ih2 _ _ _ _ _ _ _ _ _ _)
      | (with_reducible exact ih3 _ _ _ _ _ _ _ _ _ _)
      | (with_reducible exact ih4 _ _ _ _ _ _ _ _ _)
      | (with_reducible exact parapetref04_data.mono _ _ _)
      | (with_reducible exact LeO.refl _)
      | (with_reducible exact LeO.none _)
      | (with_reducible refine LeO.ite ?_ ?_)
      | (with_reducible refine LeO.bind ?_ (fun _ => ?_))
      | exact ih0 _ _ _ _ _ _ _ _
      | exact ih1 _ _ _ _ _ _ _ _ _
      | exact ih2 _ _ _ _ _ _ _ _ _ _
      | exact ih3 _ _ _ _ _ _ _ _ _ _
      | exact ih4 _ _ _ _ _ _ _ _ _
      | exact parapetref04_data.mono _ _ _
      | exact LeO.none _
      | refine LeO.ite ?_ ?_
      | refine LeO.bind ?_ (fun _ => ?_)
    · intro y0 y1 y2 y3 y4 y5 y6 y7 y8 y9
      unfold parapetref04_Lawful.j3
      repeat' first
      | (with_reducible exact ih0 _ _ _ _ _ _ _ _)
      | (with_reducible exact ih1 _ _ _ _ _ _ _ _ _)
      | (with_reducible exact ih2 _ _ _ _ _ _ _ _ _ _)
      | (with_reducible exact ih3 _ _ _ _ _ _ _ _ _ _)
      | (with_reducible exact ih4 _ _ _ _ _ _ _ _ _)
      | (with_reducible exact parapetref04_data.mono _ _ _)
      | (with_reducible exact LeO.refl _)
      | (with_reducible exact LeO.none _)
      | (with_reducible refine LeO.ite ?_ ?_)
      | (with_reducible refine LeO.bind ?_ (fun _ => ?_))
      | exact ih0 _ _ _ _ _ _ _ _
      | exact ih1 _ _ _ _ _ _ _ _ _
      | exact ih2 _ _ _ _ _ _ _ _ _ _
      | exact ih3 _ _ _ _ _ _ _ _ _ _
      | exact ih4 _ _ _ _ _ _ _ _ _
      | exact parapetref04_data.mono _ _ _
      | exact LeO.none _
      | refine LeO.ite ?_ ?_
      | refine LeO.bind ?_ (fun _ => ?_)
    · intro y0 y1 y2 y3 y4 y5 y6 y7 y8
      unfold parapetref04_Lawful.j4
      repeat' first
      | (with_reducible exact ih0 _ _ _ _ _ _ _ _)
      | (with_reducible exact ih1 _ _ _ _ _ _ _ _ _)
      | (with_reducible exact ih2 _ _ _ _ _ _ _ _ _ _)
      | (with_reducible exact ih3 _ _ _ _ _ _ _ _ _ _)
      | (with_reducible exact ih4 _ _ _ _ _ _ _ _ _)
      | (with_reducible exact parapetref04_data.mono _ _ _)
      | (with_reducible exact LeO.refl _)
      | (with_reducible exact LeO.none _)
      | (with_reducible refine LeO.ite ?_ ?_)
      | (with_reducible refine LeO.bind ?_ (fun _ => ?_))
      | exact ih0 _ _ _ _ _ _ _ _
      | exact ih1 _ _ _ _ _ _ _ _ _
      | exact ih2 _ _ _ _ _ _ _ _ _ _
      | exact ih3 _ _ _ _ _ _ _ _ _ _
      | exact ih4 _ _ _ _ _ _ _ _ _
      | exact parapetref04_data.mono _ _ _
      | exact LeO.none _
      | refine LeO.ite ?_ ?_
      | refine LeO.bind ?_ (fun _ => ?_)
theorem parapetref04_Lawful.mono : ∀ a0 a1 a2 a3 a4 a5 k, LeO (parapetref04_Lawful.f k a0 a1 a2 a3 a4 a5) (parapetref04_Lawful.f (k + 1) a0 a1 a2 a3 a4 a5) := by
  intro a0 a1 a2 a3 a4 a5 k
  obtain ⟨ih0, ih1, ih2, ih3, ih4⟩ := parapetref04_Lawful.mono_l k
  unfold parapetref04_Lawful.f
  repeat' first
      | (with_reducible exact ih0 _ _ _ _ _ _ _ _)
      | (with_reducible exact ih1 _ _ _ _ _ _ _ _ _)
      | (with_reducible exact ih2 _ _ _ _ _ _ _ _ _ _)
      | (with_reducible exact ih3 _ _ _ _ _ _ _ _ _ _)
      | (with_reducible exact ih4 _ _ _ _ _ _ _ _ _)
      | (with_reducible exact parapetref04_data.mono _ _ _)
      | (with_reducible exact LeO.refl _)
      | (with_reducible exact LeO.none _)
      | (with_reducible refine LeO.ite ?_ ?_)
      | (with_reducible refine LeO.bind ?_ (fun _ => ?_))
      | exact ih0 _ _ _ _ _ _ _ _
      | exact ih1 _ _ _ _ _ _ _ _ _
      | exact ih2 _ _ _ _ _ _ _ _ _ _
      | exact ih3 _ _ _ _ _ _ _ _ _ _
      | exact ih4 _ _ _ _ _ _ _ _ _
      | exact parapetref04_data.mono _ _ _
      | exact LeO.none _
      | refine LeO.ite ?_ ?_
      | refine LeO.bind ?_ (fun _ => ?_)
set_option maxHeartbeats 8000000 in
set_option maxRecDepth 100000 in
theorem parapetref04_Lawful.calls (k : Nat) (a0_0 : Int) (a0_1 : Int) (a0_2 : Int) (a0_3 : Int) (a0_4 : Int) (A0_5 : Option Addr) (c0_5 : Nat) (l0_5 : List Int) (r : Int) (w : World) (hr0_5 : Kd.C (Kd.int .u8) w A0_5 l0_5.length l0_5) (hc0_5 : l0_5.length ≤ c0_5) (h : parapetref04_Lawful.f k a0_0 a0_1 a0_2 a0_3 a0_4 l0_5 = some r) :
    Calls Try.prog 37 #[.agg #[.int .i64 a0_0, .int .u32 a0_1, .int .u32 a0_2, .int .u32 a0_3, .int .i64 a0_4, .slice A0_5 l0_5.length c0_5]] w fun e w' => e = .returned (.int .i64 r) ∧ Below w.heap.size w w' := by
  have hu29 := Try.underlying29
  have HR0_5 := Aside0.mk hr0_5
  have HC0_5 := Aside0.mk hc0_5
  clear hr0_5 hc0_5
  have HB := Aside0.mk (Below.refl w.heap.size w)
  have H : (if a0_0 = 4 then (parapetref04_Lawful.j0 k a0_0 true a0_0 a0_1 a0_2 a0_3 a0_4 l0_5) else (parapetref04_Lawful.j0 k a0_0 (a0_0 == 20) a0_0 a0_1 a0_2 a0_3 a0_4 l0_5)) = some r := h
  clear h
  have HC2 := Aside0.mk H
  clear H
  go_enter Try.func37, Try.ntmps37
  go_upto_region 2 with (first | ((with_reducible refine gate_dst (N := 1) rfl ?_); refine box_event ?hg (N := 1) ?hd (cs := #[.int .i64 a0_0, .int .u32 a0_1, .int .u32 a0_2, .int .u32 a0_3, .int .i64 a0_4, .slice A0_5 l0_5.length c0_5]) (t := 29) ?hr ?_; (case hd => rfl); (case hg => rfl); (case hr => first | (go_simp; done) | (go_simp; rfl)); intro gb256 hg w3 hbox hb; have n0_ := Aside0.mk (below_step (by repeat (first | (with_reducible first | exact HB.out | apply below_alloc | apply pw_below_drewN | apply below_drew1) | exact HB.out)) hb); have n1_ := Aside0.mk (hbox); have n2_ := Aside0.mk ((by rw [hg]; exact (below_size (by repeat (first | (with_reducible first | exact HB.out | apply below_alloc | apply pw_below_drewN | apply below_drew1) | exact HB.out))) : w.heap.size ≤ gb256)); have n3_ := Aside0.mk ((by rw [hg]; exact (below_size (by repeat (first | (with_reducible first | exact HB.out | apply below_alloc | apply pw_below_drewN | apply below_drew1) | exact HB.out))) : w.heap.size ≤ gb256)); clear HB; have HB := n0_; have BK256 := n1_; have GW256 := n2_; have GE256 := n3_; clear n0_ n1_ n2_ n3_; clear hb hbox hg; have hcz4_0 : w3.cell? ⟨gb256, 0, none⟩ = some (.int .i64 a0_0) := (blk_cell BK256.out 0).trans rfl; have hcz4_1 : w3.cell? ⟨gb256, 1, none⟩ = some (.int .u32 a0_1) := (blk_cell BK256.out 1).trans rfl; have hcz4_2 : w3.cell? ⟨gb256, 2, none⟩ = some (.int .u32 a0_2) := (blk_cell BK256.out 2).trans rfl; have hcz4_3 : w3.cell? ⟨gb256, 3, none⟩ = some (.int .u32 a0_3) := (blk_cell BK256.out 3).trans rfl; have hcz4_4 : w3.cell? ⟨gb256, 4, none⟩ = some (.int .i64 a0_4) := (blk_cell BK256.out 4).trans rfl; have hcz4_5 : w3.cell? ⟨gb256, 5, none⟩ = some (.slice A0_5 l0_5.length c0_5) := (blk_cell BK256.out 5).trans rfl; have hfz4_0 := blk_frozen BK256.out 0; have hfz4_1 := blk_frozen BK256.out 1; have hfz4_2 := blk_frozen BK256.out 2; have hfz4_3 := blk_frozen BK256.out 3; have hfz4_4 := blk_frozen BK256.out 4; have hfz4_5 := blk_frozen BK256.out 5))
  (try simp only [Act.put, List.setIfInBounds_toArray, List.set_cons_zero, List.set_cons_succ])
  go_cut [4] (fun v4 wc => ∃ (kq : Nat) (x4_1 : Bool), v4 = .bool x4_1 ∧ Aside0 (parapetref04_Lawful.j0 kq a0_0 x4_1 a0_0 a0_1 a0_2 a0_3 a0_4 l0_5 = some r) ∧ Aside0 (kq ≤ k) ∧ Aside0 (wc.heap[gb256]? = some (.cells #[.int .i64 a0_0, .int .u32 a0_1, .int .u32 a0_2, .int .u32 a0_3, .int .i64 a0_4, (.slice A0_5 l0_5.length c0_5)] 29 (0, 0))) ∧ Aside0 (Below w.heap.size w wc))
  case first =>
    have H := HC2.out
    clear HC2
    by_cases c5 : a0_0 = 4
    · rw [if_pos c5] at H
      have c5b0 : (a0_0 == 4) = true := beq_iff_eq.mpr c5
      have c5b1 : (a0_0 != 4) = false := bne_eq_false_iff_eq.mpr c5
      clear c5
      (first | rw [c5b0] | (simp only [i64_w, i32_w]; rw [c5b0]) | skip)
      have H' := Aside0.mk H
      clear H
      go_wp2
      go_meet
      case rel => exact ⟨_, (true), (by first | rfl | (simp; done) | (simp [*]; done)), H', ⟨by first | omega | exact Nat.le_refl _⟩, ⟨by (with_reducible repeat (first | refine blk_drewN ?_ _ | refine blk_drew ?_ | refine blk_alloc ?_ _)); exact BK256.out⟩, ⟨by repeat (first | (with_reducible first | exact HB.out | apply below_alloc | apply pw_below_drewN | apply below_drew1 | refine below_set ?_ GE256.out) | exact HB.out)⟩⟩
    · rw [if_neg c5] at H
      have c5b0 : (a0_0 == 4) = false := beq_eq_false_iff_ne.mpr c5
      have c5b1 : (a0_0 != 4) = true := bne_iff_ne.mpr c5
      (first | rw [c5b0] | (simp only [i64_w, i32_w]; rw [c5b0]) | skip)
      have H' := Aside0.mk H
      clear H
      go_wp2
      go_meet
      case rel => exact ⟨_, ((a0_0 == 20)), (by first | rfl | (simp; done) | (simp [*]; done)), H', ⟨by first | omega | exact Nat.le_refl _⟩, ⟨by (with_reducible repeat (first | refine blk_drewN ?_ _ | refine blk_drew ?_ | refine blk_alloc ?_ _)); exact BK256.out⟩, ⟨by repeat (first | (with_reducible first | exact HB.out | apply below_alloc | apply pw_below_drewN | apply below_drew1 | refine below_set ?_ GE256.out) | exact HB.out)⟩⟩
  case rest =>
    clear HC2
    try clear p2
    try clear c3
    try clear c5
    try clear c5b0
    try clear c5b1
    try clear hcz4_0
    try clear hcz4_1
    try clear hcz4_2
    try clear hcz4_3
    try clear hcz4_4
    try clear hcz4_5
    try clear hfz4_0
    try clear hfz4_1
    try clear hfz4_2
    try clear hfz4_3
    try clear hfz4_4
    try clear hfz4_5
    obtain ⟨kq, x4_1, rfl, HA, HJ1, BK256, HB⟩ := hcut
    cases kq with
    | zero => exact absurd HA.out (by simp [parapetref04_Lawful.j0])
    | succ kj1 =>
      have H := HA.out
      clear HA
      simp only [parapetref04_Lawful.j0] at H
      have HC6 := Aside0.mk H
      clear H
      go_upto_region 3 with (fail)
      go_cut [5] (fun v5 wc => ∃ (kq : Nat) (x5_5 : Bool), v5 = .bool x5_5 ∧ Aside0 (parapetref04_Lawful.j1 kq a0_0 x4_1 x5_5 a0_0 a0_1 a0_2 a0_3 a0_4 l0_5 = some r) ∧ Aside0 (kq ≤ kj1) ∧ Aside0 (wc.heap[gb256]? = some (.cells #[.int .i64 a0_0, .int .u32 a0_1, .int .u32 a0_2, .int .u32 a0_3, .int .i64 a0_4, (.slice A0_5 l0_5.length c0_5)] 29 (0, 0))) ∧ Aside0 (Below w.heap.size w wc))
      case first =>
        have H := HC6.out
        clear HC6
        by_cases c7 : x4_1 = true
        · subst c7
          have H1 : (parapetref04_Lawful.j1 kj1 a0_0 true true a0_0 a0_1 a0_2 a0_3 a0_4 l0_5) = some r := by rw [if_pos rfl] at H; exact H
          clear H
          have H := H1
          clear H1
          have H' := Aside0.mk H
          clear H
          go_wp2
          go_meet
          case rel => exact ⟨_, (true), (by first | rfl | (simp; done) | (simp [*]; done)), H', ⟨by have := HJ1.out; first | omega | exact Nat.le_refl _⟩, ⟨by (with_reducible repeat (first | refine blk_drewN ?_ _ | refine blk_drew ?_ | refine blk_alloc ?_ _)); exact BK256.out⟩, ⟨by repeat (first | (with_reducible first | exact HB.out | apply below_alloc | apply pw_below_drewN | apply below_drew1 | refine below_set ?_ GE256.out) | exact HB.out)⟩⟩
        · replace c7 := Bool.eq_false_iff.mpr c7
          subst c7
          have H1 : (if a0_0 = 5 then (parapetref04_Lawful.j1 kj1 a0_0 false true a0_0 a0_1 a0_2 a0_3 a0_4 l0_5) else (parapetref04_Lawful.j1 kj1 a0_0 false (a0_0 == 21) a0_0 a0_1 a0_2 a0_3 a0_4 l0_5)) = some r := by rw [if_neg (show ¬ (false = true) by decide)] at H; exact H
          clear H
          have H := H1
          clear H1
          by_cases c8 : a0_0 = 5
          · rw [if_pos c8] at H
            have c8b0 : (a0_0 == 5) = true := beq_iff_eq.mpr c8
            have c8b1 : (a0_0 != 5) = false := bne_eq_false_iff_eq.mpr c8
            clear c8
            (first | rw [c8b0] | (simp only [i64_w, i32_w]; rw [c8b0]) | skip)
            have H' := Aside0.mk H
            clear H
            go_wp2
            go_meet
            case rel => exact ⟨_, (true), (by first | rfl | (simp; done) | (simp [*]; done)), H', ⟨by have := HJ1.out; first | omega | exact Nat.le_refl _⟩, ⟨by (with_reducible repeat (first | refine blk_drewN ?_ _ | refine blk_drew ?_ | refine blk_alloc ?_ _)); exact BK256.out⟩, ⟨by repeat (first | (with_reducible first | exact HB.out | apply below_alloc | apply pw_below_drewN | apply below_drew1 | refine below_set ?_ GE256.out) | exact HB.out)⟩⟩
          · rw [if_neg c8] at H
            have c8b0 : (a0_0 == 5) = false := beq_eq_false_iff_ne.mpr c8
            have c8b1 : (a0_0 != 5) = true := bne_iff_ne.mpr c8
            (first | rw [c8b0] | (simp only [i64_w, i32_w]; rw [c8b0]) | skip)
            have H' := Aside0.mk H
            clear H
            go_wp2
            go_meet
            case rel => exact ⟨_, ((a0_0 == 21)), (by first | rfl | (simp; done) | (simp [*]; done)), H', ⟨by have := HJ1.out; first | omega | exact Nat.le_refl _⟩, ⟨by (with_reducible repeat (first | refine blk_drewN ?_ _ | refine blk_drew ?_ | refine blk_alloc ?_ _)); exact BK256.out⟩, ⟨by repeat (first | (with_reducible first | exact HB.out | apply below_alloc | apply pw_below_drewN | apply below_drew1 | refine below_set ?_ GE256.out) | exact HB.out)⟩⟩
      case rest =>
        clear HC6
        try clear p2
        try clear c3
        try clear c5
        try clear c5b0
        try clear c5b1
        try clear c7
        try clear c8
        try clear c8b0
        try clear c8b1
        try clear hcz4_0
        try clear hcz4_1
        try clear hcz4_2
        try clear hcz4_3
        try clear hcz4_4
        try clear hcz4_5
        try clear hfz4_0
        try clear hfz4_1
        try clear hfz4_2
        try clear hfz4_3
        try clear hfz4_4
        try clear hfz4_5
        try clear p2
        obtain ⟨kq, x5_5, rfl, HA, HJ5, BK256, HB⟩ := hcut
        cases kq with
        | zero => exact absurd HA.out (by simp [parapetref04_Lawful.j1])
        | succ kj5 =>
          have H := HA.out
          clear HA
          simp only [parapetref04_Lawful.j1] at H
          have HC9 := Aside0.mk H
          clear H
          go_upto_region 4 with (fail)
          go_cut [23] (fun v23 wc => ∃ (kq : Nat) (x23_8 : Bool), v23 = .bool x23_8 ∧ Aside0 (parapetref04_Lawful.j2 kq a0_0 x4_1 x5_5 x23_8 a0_0 a0_1 a0_2 a0_3 a0_4 l0_5 = some r) ∧ Aside0 (kq ≤ kj5) ∧ Aside0 (wc.heap[gb256]? = some (.cells #[.int .i64 a0_0, .int .u32 a0_1, .int .u32 a0_2, .int .u32 a0_3, .int .i64 a0_4, (.slice A0_5 l0_5.length c0_5)] 29 (0, 0))) ∧ Aside0 (Below w.heap.size w wc))
          case first =>
            have H := HC9.out
            clear HC9
            replace H := Option.bind_eq_some_iff.mp H
            obtain ⟨t257, A100, H⟩ := H
            replace H : (if t257 = true then (parapetref04_Lawful.j2 kj5 a0_0 x4_1 x5_5 false a0_0 a0_1 a0_2 a0_3 a0_4 l0_5) else ((parapetref04_Device.f a0_0).bind fun t258 => (parapetref04_Lawful.j2 kj5 a0_0 x4_1 x5_5 (!t258) a0_0 a0_1 a0_2 a0_3 a0_4 l0_5))) = some r := H
            have A10 := Aside0.mk A100
            clear A100
            by_cases c11 : t257 = true
            · subst c11
              have H1 : (parapetref04_Lawful.j2 kj5 a0_0 x4_1 x5_5 false a0_0 a0_1 a0_2 a0_3 a0_4 l0_5) = some r := by rw [if_pos rfl] at H; exact H
              clear H
              have H := H1
              clear H1
              have H' := Aside0.mk H
              clear H
              go_wp2_with (first | ((with_reducible refine gate_callee (f := 26) rfl ?_); refine goesL_ (some 25) rfl rfl Try.func26 (by kernel_rfl) rfl #[.int .i64 a0_0] rfl (by (try simp only [List.map_toArray, List.map_cons, List.map_nil]); first | done | rfl | (simp only [List.length_drop, List.length_take]; rfl)) ?_; (with_reducible refine (parapetref04_Host.calls a0_0 true _ A10.out).mono ?_); rintro e w' ⟨rfl, ⟨nd, rfl⟩⟩; refine ⟨_, rfl, ?_⟩))
              go_meet
              case rel => exact ⟨_, (false), (by first | rfl | (simp; done) | (simp [*]; done)), H', ⟨by have := HJ1.out; have := HJ5.out; first | omega | exact Nat.le_refl _⟩, ⟨by (with_reducible repeat (first | refine blk_drewN ?_ _ | refine blk_drew ?_ | refine blk_alloc ?_ _)); exact BK256.out⟩, ⟨by repeat (first | (with_reducible first | exact HB.out | apply below_alloc | apply pw_below_drewN | apply below_drew1 | refine below_set ?_ GE256.out) | exact HB.out)⟩⟩
            · replace c11 := Bool.eq_false_iff.mpr c11
              subst c11
              have H1 : ((parapetref04_Device.f a0_0).bind fun t258 => (parapetref04_Lawful.j2 kj5 a0_0 x4_1 x5_5 (!t258) a0_0 a0_1 a0_2 a0_3 a0_4 l0_5)) = some r := by rw [if_neg (show ¬ (false = true) by decide)] at H; exact H
              clear H
              have H := H1
              clear H1
              replace H := Option.bind_eq_some_iff.mp H
              obtain ⟨t258, A120, H⟩ := H
              replace H : (parapetref04_Lawful.j2 kj5 a0_0 x4_1 x5_5 (!t258) a0_0 a0_1 a0_2 a0_3 a0_4 l0_5) = some r := H
              have A12 := Aside0.mk A120
              clear A120
              have H' := Aside0.mk H
              clear H
              go_wp2_with (first | ((with_reducible refine gate_callee (f := 26) rfl ?_); refine goesL_ (some 25) rfl rfl Try.func26 (by kernel_rfl) rfl #[.int .i64 a0_0] rfl (by (try simp only [List.map_toArray, List.map_cons, List.map_nil]); first | done | rfl | (simp only [List.length_drop, List.length_take]; rfl)) ?_; (with_reducible refine (parapetref04_Host.calls a0_0 false _ A10.out).mono ?_); rintro e w' ⟨rfl, ⟨nd, rfl⟩⟩; refine ⟨_, rfl, ?_⟩) | (go_at_call 28; (with_reducible refine (parapetref04_Device.calls a0_0 t258 _ A12.out).mono ?_); rintro e w' ⟨rfl, ⟨nd, rfl⟩⟩))
              go_meet
              case rel => exact ⟨_, (!t258), (by first | rfl | (simp; done) | (simp [*]; done)), H', ⟨by have := HJ1.out; have := HJ5.out; first | omega | exact Nat.le_refl _⟩, ⟨by (with_reducible repeat (first | refine blk_drewN ?_ _ | refine blk_drew ?_ | refine blk_alloc ?_ _)); exact BK256.out⟩, ⟨by repeat (first | (with_reducible first | exact HB.out | apply below_alloc | apply pw_below_drewN | apply below_drew1 | refine below_set ?_ GE256.out) | exact HB.out)⟩⟩
          case rest =>
            clear HC9
            try clear c1
            try clear c2
            try clear p2
            try clear c3
            try clear c5
            try clear c5b0
            try clear c5b1
            try clear c7
            try clear c8
            try clear c8b0
            try clear c8b1
            try clear c11
            try clear hcz4_0
            try clear hcz4_1
            try clear hcz4_2
            try clear hcz4_3
            try clear hcz4_4
            try clear hcz4_5
            try clear hfz4_0
            try clear hfz4_1
            try clear hfz4_2
            try clear hfz4_3
            try clear hfz4_4
            try clear hfz4_5
            try clear p2
            obtain ⟨kq, x23_8, rfl, HA, HJ8, BK256, HB⟩ := hcut
            cases kq with
            | zero => exact absurd HA.out (by simp [parapetref04_Lawful.j2])
            | succ kj8 =>
              have H := HA.out
              clear HA
              simp only [parapetref04_Lawful.j2] at H
              by_cases c13 : x23_8 = true
              · subst c13
                have H1 : (some 43) = some r := by rw [if_pos rfl] at H; exact H
                clear H
                have H := H1
                clear H1
                obtain rfl := Option.some.inj H
                go_wp2
                go_ret
                exact ⟨by first | rfl | (simp [errW_none, errW_some] <;> rfl) | (simp [*, errW_none, errW_some] <;> rfl), by repeat (first | (with_reducible first | exact HB.out | apply below_alloc | apply pw_below_drewN | apply below_drew1 | refine below_set ?_ GE256.out) | exact HB.out)⟩
              · replace c13 := Bool.eq_false_iff.mpr c13
                subst c13
                have H1 : (if a0_1 = 0 then (some 44) else ((parapetref04_data.f kj8 a0_0 (l0_5.length : Int)).bind fun t259 => (if t259 = true then (if a0_0 = 1 then (parapetref04_Lawful.j3 kj8 a0_0 x4_1 x5_5 (a0_2 != 0) a0_0 a0_1 a0_2 a0_3 a0_4 l0_5) else (parapetref04_Lawful.j3 kj8 a0_0 x4_1 x5_5 false a0_0 a0_1 a0_2 a0_3 a0_4 l0_5)) else (some 45)))) = some r := by rw [if_neg (show ¬ (false = true) by decide)] at H; exact H
                clear H
                have H := H1
                clear H1
                by_cases c14 : a0_1 = 0
                · rw [if_pos c14] at H
                  have c14b0 : (a0_1 == 0) = true := beq_iff_eq.mpr c14
                  have c14b1 : (a0_1 != 0) = false := bne_eq_false_iff_eq.mpr c14
                  clear c14
                  obtain rfl := Option.some.inj H
                  have hcz15_0 : wc.cell? ⟨gb256, 0, none⟩ = some (.int .i64 a0_0) := (blk_cell BK256.out 0).trans rfl
                  have hcz15_1 : wc.cell? ⟨gb256, 1, none⟩ = some (.int .u32 a0_1) := (blk_cell BK256.out 1).trans rfl
                  have hcz15_2 : wc.cell? ⟨gb256, 2, none⟩ = some (.int .u32 a0_2) := (blk_cell BK256.out 2).trans rfl
                  have hcz15_3 : wc.cell? ⟨gb256, 3, none⟩ = some (.int .u32 a0_3) := (blk_cell BK256.out 3).trans rfl
                  have hcz15_4 : wc.cell? ⟨gb256, 4, none⟩ = some (.int .i64 a0_4) := (blk_cell BK256.out 4).trans rfl
                  have hcz15_5 : wc.cell? ⟨gb256, 5, none⟩ = some (.slice A0_5 l0_5.length c0_5) := (blk_cell BK256.out 5).trans rfl
                  have hfz15_0 := blk_frozen BK256.out 0
                  have hfz15_1 := blk_frozen BK256.out 1
                  have hfz15_2 := blk_frozen BK256.out 2
                  have hfz15_3 := blk_frozen BK256.out 3
                  have hfz15_4 := blk_frozen BK256.out 4
                  have hfz15_5 := blk_frozen BK256.out 5
                  go_wp2
                  go_ret
                  exact ⟨by first | rfl | (simp [errW_none, errW_some] <;> rfl) | (simp [*, errW_none, errW_some] <;> rfl), by repeat (first | (with_reducible first | exact HB.out | apply below_alloc | apply pw_below_drewN | apply below_drew1 | refine below_set ?_ GE256.out) | exact HB.out)⟩
                · rw [if_neg c14] at H
                  have c14b0 : (a0_1 == 0) = false := beq_eq_false_iff_ne.mpr c14
                  have c14b1 : (a0_1 != 0) = true := bne_iff_ne.mpr c14
                  replace H := Option.bind_eq_some_iff.mp H
                  obtain ⟨t259, A160, H⟩ := H
                  replace H : (if t259 = true then (if a0_0 = 1 then (parapetref04_Lawful.j3 kj8 a0_0 x4_1 x5_5 (a0_2 != 0) a0_0 a0_1 a0_2 a0_3 a0_4 l0_5) else (parapetref04_Lawful.j3 kj8 a0_0 x4_1 x5_5 false a0_0 a0_1 a0_2 a0_3 a0_4 l0_5)) else (some 45)) = some r := H
                  have A16 := Aside0.mk A160
                  clear A160
                  by_cases c17 : t259 = true
                  · subst c17
                    have H1 : (if a0_0 = 1 then (parapetref04_Lawful.j3 kj8 a0_0 x4_1 x5_5 (a0_2 != 0) a0_0 a0_1 a0_2 a0_3 a0_4 l0_5) else (parapetref04_Lawful.j3 kj8 a0_0 x4_1 x5_5 false a0_0 a0_1 a0_2 a0_3 a0_4 l0_5)) = some r := by rw [if_pos rfl] at H; exact H
                    clear H
                    have H := H1
                    clear H1
                    have HC18 := Aside0.mk H
                    clear H
                    have hcz19_0 : wc.cell? ⟨gb256, 0, none⟩ = some (.int .i64 a0_0) := (blk_cell BK256.out 0).trans rfl
                    have hcz19_1 : wc.cell? ⟨gb256, 1, none⟩ = some (.int .u32 a0_1) := (blk_cell BK256.out 1).trans rfl
                    have hcz19_2 : wc.cell? ⟨gb256, 2, none⟩ = some (.int .u32 a0_2) := (blk_cell BK256.out 2).trans rfl
                    have hcz19_3 : wc.cell? ⟨gb256, 3, none⟩ = some (.int .u32 a0_3) := (blk_cell BK256.out 3).trans rfl
                    have hcz19_4 : wc.cell? ⟨gb256, 4, none⟩ = some (.int .i64 a0_4) := (blk_cell BK256.out 4).trans rfl
                    have hcz19_5 : wc.cell? ⟨gb256, 5, none⟩ = some (.slice A0_5 l0_5.length c0_5) := (blk_cell BK256.out 5).trans rfl
                    have hfz19_0 := blk_frozen BK256.out 0
                    have hfz19_1 := blk_frozen BK256.out 1
                    have hfz19_2 := blk_frozen BK256.out 2
                    have hfz19_3 := blk_frozen BK256.out 3
                    have hfz19_4 := blk_frozen BK256.out 4
                    have hfz19_5 := blk_frozen BK256.out 5
                    go_upto_region 10 with (first | ((with_reducible refine gate_callee (f := 46) rfl ?_); refine goesL_ (some 41) rfl rfl Try.func46 (by kernel_rfl) rfl #[.int .i64 a0_0, .int .i64 (l0_5.length : Int)] rfl (by (try simp only [List.map_toArray, List.map_cons, List.map_nil]); first | done | rfl | (simp only [List.length_drop, List.length_take]; rfl)) ?_; (with_reducible refine (parapetref04_data.calls kj8 a0_0 (l0_5.length : Int) true _ A16.out).mono ?_); rintro e w' ⟨rfl, ⟨nd, rfl⟩⟩; refine ⟨_, rfl, ?_⟩))
                    (try simp only [Act.put, List.setIfInBounds_toArray, List.set_cons_zero, List.set_cons_succ])
                    go_cut [43] (fun v43 wc => ∃ (kq : Nat) (x43_17 : Bool), v43 = .bool x43_17 ∧ Aside0 (parapetref04_Lawful.j3 kq a0_0 x4_1 x5_5 x43_17 a0_0 a0_1 a0_2 a0_3 a0_4 l0_5 = some r) ∧ Aside0 (kq ≤ kj8) ∧ Aside0 (wc.heap[gb256]? = some (.cells #[.int .i64 a0_0, .int .u32 a0_1, .int .u32 a0_2, .int .u32 a0_3, .int .i64 a0_4, (.slice A0_5 l0_5.length c0_5)] 29 (0, 0))) ∧ Aside0 (Below w.heap.size w wc))
                    case first =>
                      have H := HC18.out
                      clear HC18
                      by_cases c20 : a0_0 = 1
                      · rw [if_pos c20] at H
                        have c20b0 : (a0_0 == 1) = true := beq_iff_eq.mpr c20
                        have c20b1 : (a0_0 != 1) = false := bne_eq_false_iff_eq.mpr c20
                        clear c20
                        (first | rw [c20b0] | (simp only [i64_w, i32_w]; rw [c20b0]) | skip)
                        have H' := Aside0.mk H
                        clear H
                        have hcz21_0 : wc.cell? ⟨gb256, 0, none⟩ = some (.int .i64 a0_0) := (blk_cell BK256.out 0).trans rfl
                        have hcz21_1 : wc.cell? ⟨gb256, 1, none⟩ = some (.int .u32 a0_1) := (blk_cell BK256.out 1).trans rfl
                        have hcz21_2 : wc.cell? ⟨gb256, 2, none⟩ = some (.int .u32 a0_2) := (blk_cell BK256.out 2).trans rfl
                        have hcz21_3 : wc.cell? ⟨gb256, 3, none⟩ = some (.int .u32 a0_3) := (blk_cell BK256.out 3).trans rfl
                        have hcz21_4 : wc.cell? ⟨gb256, 4, none⟩ = some (.int .i64 a0_4) := (blk_cell BK256.out 4).trans rfl
                        have hcz21_5 : wc.cell? ⟨gb256, 5, none⟩ = some (.slice A0_5 l0_5.length c0_5) := (blk_cell BK256.out 5).trans rfl
                        have hfz21_0 := blk_frozen BK256.out 0
                        have hfz21_1 := blk_frozen BK256.out 1
                        have hfz21_2 := blk_frozen BK256.out 2
                        have hfz21_3 := blk_frozen BK256.out 3
                        have hfz21_4 := blk_frozen BK256.out 4
                        have hfz21_5 := blk_frozen BK256.out 5
                        go_wp2
                        go_meet
                        case rel => exact ⟨_, ((a0_2 != 0)), (by first | rfl | (simp; done) | (simp [*]; done)), H', ⟨by have := HJ1.out; have := HJ5.out; have := HJ8.out; first | omega | exact Nat.le_refl _⟩, ⟨by (with_reducible repeat (first | refine blk_drewN ?_ _ | refine blk_drew ?_ | refine blk_alloc ?_ _)); exact BK256.out⟩, ⟨by repeat (first | (with_reducible first | exact HB.out | apply below_alloc | apply pw_below_drewN | apply below_drew1 | refine below_set ?_ GE256.out) | exact HB.out)⟩⟩
                      · rw [if_neg c20] at H
                        have c20b0 : (a0_0 == 1) = false := beq_eq_false_iff_ne.mpr c20
                        have c20b1 : (a0_0 != 1) = true := bne_iff_ne.mpr c20
                        (first | rw [c20b0] | (simp only [i64_w, i32_w]; rw [c20b0]) | skip)
                        have H' := Aside0.mk H
                        clear H
                        go_wp2
                        go_meet
                        case rel => exact ⟨_, (false), (by first | rfl | (simp; done) | (simp [*]; done)), H', ⟨by have := HJ1.out; have := HJ5.out; have := HJ8.out; first | omega | exact Nat.le_refl _⟩, ⟨by (with_reducible repeat (first | refine blk_drewN ?_ _ | refine blk_drew ?_ | refine blk_alloc ?_ _)); exact BK256.out⟩, ⟨by repeat (first | (with_reducible first | exact HB.out | apply below_alloc | apply pw_below_drewN | apply below_drew1 | refine below_set ?_ GE256.out) | exact HB.out)⟩⟩
                    case rest =>
                      clear HC18
                      try clear c1
                      try clear c2
                      try clear p2
                      try clear c3
                      try clear c4
                      try clear c5
                      try clear c5b0
                      try clear c5b1
                      try clear c7
                      try clear c8
                      try clear c8b0
                      try clear c8b1
                      try clear c11
                      try clear c13
                      try clear c14
                      try clear c14b0
                      try clear c14b1
                      try clear c17
                      try clear c20
                      try clear c20b0
                      try clear c20b1
                      try clear hcz15_0
                      try clear hcz15_1
                      try clear hcz15_2
                      try clear hcz15_3
                      try clear hcz15_4
                      try clear hcz15_5
                      try clear hcz19_0
                      try clear hcz19_1
                      try clear hcz19_2
                      try clear hcz19_3
                      try clear hcz19_4
                      try clear hcz19_5
                      try clear hcz21_0
                      try clear hcz21_1
                      try clear hcz21_2
                      try clear hcz21_3
                      try clear hcz21_4
                      try clear hcz21_5
                      try clear hcz4_0
                      try clear hcz4_1
                      try clear hcz4_2
                      try clear hcz4_3
                      try clear hcz4_4
                      try clear hcz4_5
                      try clear hfz15_0
                      try clear hfz15_1
                      try clear hfz15_2
                      try clear hfz15_3
                      try clear hfz15_4
                      try clear hfz15_5
                      try clear hfz19_0
                      try clear hfz19_1
                      try clear hfz19_2
                      try clear hfz19_3
                      try clear hfz19_4
                      try clear hfz19_5
                      try clear hfz21_0
                      try clear hfz21_1
                      try clear hfz21_2
                      try clear hfz21_3
                      try clear hfz21_4
                      try clear hfz21_5
                      try clear hfz4_0
                      try clear hfz4_1
                      try clear hfz4_2
                      try clear hfz4_3
                      try clear hfz4_4
                      try clear hfz4_5
                      try clear p2
                      obtain ⟨kq, x43_17, rfl, HA, HJ17, BK256, HB⟩ := hcut
                      cases kq with
                      | zero => exact absurd HA.out (by simp [parapetref04_Lawful.j3])
                      | succ kj17 =>
                        have H := HA.out
                        clear HA
                        simp only [parapetref04_Lawful.j3] at H
                        have HC22 := Aside0.mk H
                        clear H
                        go_upto_if 43 with (fail)
                        go_cut [43] (fun v43 wc => ∃ (kq : Nat) (x43_21 : Bool), v43 = .bool x43_21 ∧ Aside0 (parapetref04_Lawful.j4 kq x4_1 x5_5 x43_21 a0_0 a0_1 a0_2 a0_3 a0_4 l0_5 = some r) ∧ Aside0 (kq ≤ kj17) ∧ Aside0 (wc.heap[gb256]? = some (.cells #[.int .i64 a0_0, .int .u32 a0_1, .int .u32 a0_2, .int .u32 a0_3, .int .i64 a0_4, (.slice A0_5 l0_5.length c0_5)] 29 (0, 0))) ∧ Aside0 (Below w.heap.size w wc))
                        case first =>
                          have H := HC22.out
                          clear HC22
                          by_cases c23 : x43_17 = true
                          · subst c23
                            have H1 : (parapetref04_Lawful.j4 kj17 x4_1 x5_5 true a0_0 a0_1 a0_2 a0_3 a0_4 l0_5) = some r := by rw [if_pos rfl] at H; exact H
                            clear H
                            have H := H1
                            clear H1
                            have H' := Aside0.mk H
                            clear H
                            go_wp2
                            go_meet
                            case rel => exact ⟨_, (true), (by first | rfl | (simp; done) | (simp [*]; done)), H', ⟨by have := HJ1.out; have := HJ5.out; have := HJ8.out; have := HJ17.out; first | omega | exact Nat.le_refl _⟩, ⟨by (with_reducible repeat (first | refine blk_drewN ?_ _ | refine blk_drew ?_ | refine blk_alloc ?_ _)); exact BK256.out⟩, ⟨by repeat (first | (with_reducible first | exact HB.out | apply below_alloc | apply pw_below_drewN | apply below_drew1 | refine below_set ?_ GE256.out) | exact HB.out)⟩⟩
                          · replace c23 := Bool.eq_false_iff.mpr c23
                            subst c23
                            have H1 : (if a0_0 = 1 then (parapetref04_Lawful.j4 kj17 x4_1 x5_5 false a0_0 a0_1 a0_2 a0_3 a0_4 l0_5) else (if a0_0 = 22 then (parapetref04_Lawful.j4 kj17 x4_1 x5_5 false a0_0 a0_1 a0_2 a0_3 a0_4 l0_5) else (parapetref04_Lawful.j4 kj17 x4_1 x5_5 (a0_2 == 0) a0_0 a0_1 a0_2 a0_3 a0_4 l0_5))) = some r := by rw [if_neg (show ¬ (false = true) by decide)] at H; exact H
                            clear H
                            have H := H1
                            clear H1
                            by_cases c24 : a0_0 = 1
                            · rw [if_pos c24] at H
                              have c24b0 : (a0_0 == 1) = true := beq_iff_eq.mpr c24
                              have c24b1 : (a0_0 != 1) = false := bne_eq_false_iff_eq.mpr c24
                              clear c24
                              (first | rw [c24b0] | (simp only [i64_w, i32_w]; rw [c24b0]) | skip)
                              have H' := Aside0.mk H
                              clear H
                              go_wp2
                              go_meet
                              case rel => exact ⟨_, (false), (by first | rfl | (simp; done) | (simp [*]; done)), H', ⟨by have := HJ1.out; have := HJ5.out; have := HJ8.out; have := HJ17.out; first | omega | exact Nat.le_refl _⟩, ⟨by (with_reducible repeat (first | refine blk_drewN ?_ _ | refine blk_drew ?_ | refine blk_alloc ?_ _)); exact BK256.out⟩, ⟨by repeat (first | (with_reducible first | exact HB.out | apply below_alloc | apply pw_below_drewN | apply below_drew1 | refine below_set ?_ GE256.out) | exact HB.out)⟩⟩
                            · rw [if_neg c24] at H
                              have c24b0 : (a0_0 == 1) = false := beq_eq_false_iff_ne.mpr c24
                              have c24b1 : (a0_0 != 1) = true := bne_iff_ne.mpr c24
                              (first | rw [c24b0] | (simp only [i64_w, i32_w]; rw [c24b0]) | skip)
                              by_cases c25 : a0_0 = 22
                              · rw [if_pos c25] at H
                                have c25b0 : (a0_0 == 22) = true := beq_iff_eq.mpr c25
                                have c25b1 : (a0_0 != 22) = false := bne_eq_false_iff_eq.mpr c25
                                clear c25
                                have H' := Aside0.mk H
                                clear H
                                go_wp2
                                go_meet
                                case rel => exact ⟨_, (false), (by first | rfl | (simp; done) | (simp [*]; done)), H', ⟨by have := HJ1.out; have := HJ5.out; have := HJ8.out; have := HJ17.out; first | omega | exact Nat.le_refl _⟩, ⟨by (with_reducible repeat (first | refine blk_drewN ?_ _ | refine blk_drew ?_ | refine blk_alloc ?_ _)); exact BK256.out⟩, ⟨by repeat (first | (with_reducible first | exact HB.out | apply below_alloc | apply pw_below_drewN | apply below_drew1 | refine below_set ?_ GE256.out) | exact HB.out)⟩⟩
                              · rw [if_neg c25] at H
                                have c25b0 : (a0_0 == 22) = false := beq_eq_false_iff_ne.mpr c25
                                have c25b1 : (a0_0 != 22) = true := bne_iff_ne.mpr c25
                                have H' := Aside0.mk H
                                clear H
                                have hcz26_0 : wc.cell? ⟨gb256, 0, none⟩ = some (.int .i64 a0_0) := (blk_cell BK256.out 0).trans rfl
                                have hcz26_1 : wc.cell? ⟨gb256, 1, none⟩ = some (.int .u32 a0_1) := (blk_cell BK256.out 1).trans rfl
                                have hcz26_2 : wc.cell? ⟨gb256, 2, none⟩ = some (.int .u32 a0_2) := (blk_cell BK256.out 2).trans rfl
                                have hcz26_3 : wc.cell? ⟨gb256, 3, none⟩ = some (.int .u32 a0_3) := (blk_cell BK256.out 3).trans rfl
                                have hcz26_4 : wc.cell? ⟨gb256, 4, none⟩ = some (.int .i64 a0_4) := (blk_cell BK256.out 4).trans rfl
                                have hcz26_5 : wc.cell? ⟨gb256, 5, none⟩ = some (.slice A0_5 l0_5.length c0_5) := (blk_cell BK256.out 5).trans rfl
                                have hfz26_0 := blk_frozen BK256.out 0
                                have hfz26_1 := blk_frozen BK256.out 1
                                have hfz26_2 := blk_frozen BK256.out 2
                                have hfz26_3 := blk_frozen BK256.out 3
                                have hfz26_4 := blk_frozen BK256.out 4
                                have hfz26_5 := blk_frozen BK256.out 5
                                go_wp2
                                go_meet
                                case rel => exact ⟨_, ((a0_2 == 0)), (by first | rfl | (simp; done) | (simp [*]; done)), H', ⟨by have := HJ1.out; have := HJ5.out; have := HJ8.out; have := HJ17.out; first | omega | exact Nat.le_refl _⟩, ⟨by (with_reducible repeat (first | refine blk_drewN ?_ _ | refine blk_drew ?_ | refine blk_alloc ?_ _)); exact BK256.out⟩, ⟨by repeat (first | (with_reducible first | exact HB.out | apply below_alloc | apply pw_below_drewN | apply below_drew1 | refine below_set ?_ GE256.out) | exact HB.out)⟩⟩
                        case rest =>
                          clear HC22
                          try clear c1
                          try clear c2
                          try clear p2
                          try clear c3
                          try clear c4
                          try clear c5
                          try clear c5b0
                          try clear c5b1
                          try clear c7
                          try clear c8
                          try clear c8b0
                          try clear c8b1
                          try clear c11
                          try clear c13
                          try clear c14
                          try clear c14b0
                          try clear c14b1
                          try clear c17
                          try clear c20
                          try clear c20b0
                          try clear c20b1
                          try clear c23
                          try clear c24
                          try clear c24b0
                          try clear c24b1
                          try clear c25
                          try clear c25b0
                          try clear c25b1
                          try clear c26
                          try clear hcz15_0
                          try clear hcz15_1
                          try clear hcz15_2
                          try clear hcz15_3
                          try clear hcz15_4
                          try clear hcz15_5
                          try clear hcz19_0
                          try clear hcz19_1
                          try clear hcz19_2
                          try clear hcz19_3
                          try clear hcz19_4
                          try clear hcz19_5
                          try clear hcz21_0
                          try clear hcz21_1
                          try clear hcz21_2
                          try clear hcz21_3
                          try clear hcz21_4
                          try clear hcz21_5
                          try clear hcz26_0
                          try clear hcz26_1
                          try clear hcz26_2
                          try clear hcz26_3
                          try clear hcz26_4
                          try clear hcz26_5
                          try clear hcz4_0
                          try clear hcz4_1
                          try clear hcz4_2
                          try clear hcz4_3
                          try clear hcz4_4
                          try clear hcz4_5
                          try clear hfz15_0
                          try clear hfz15_1
                          try clear hfz15_2
                          try clear hfz15_3
                          try clear hfz15_4
                          try clear hfz15_5
                          try clear hfz19_0
                          try clear hfz19_1
                          try clear hfz19_2
                          try clear hfz19_3
                          try clear hfz19_4
                          try clear hfz19_5
                          try clear hfz21_0
                          try clear hfz21_1
                          try clear hfz21_2
                          try clear hfz21_3
                          try clear hfz21_4
                          try clear hfz21_5
                          try clear hfz26_0
                          try clear hfz26_1
                          try clear hfz26_2
                          try clear hfz26_3
                          try clear hfz26_4
                          try clear hfz26_5
                          try clear hfz4_0
                          try clear hfz4_1
                          try clear hfz4_2
                          try clear hfz4_3
                          try clear hfz4_4
                          try clear hfz4_5
                          try clear p2
                          obtain ⟨kq, x43_21, rfl, HA, HJ21, BK256, HB⟩ := hcut
                          cases kq with
                          | zero => exact absurd HA.out (by simp [parapetref04_Lawful.j4])
                          | succ kj21 =>
                            have H := HA.out
                            clear HA
                            simp only [parapetref04_Lawful.j4] at H
                            by_cases c27 : x43_21 = true
                            · subst c27
                              have H1 : (some 46) = some r := by rw [if_pos rfl] at H; exact H
                              clear H
                              have H := H1
                              clear H1
                              obtain rfl := Option.some.inj H
                              go_wp2
                              go_ret
                              exact ⟨by first | rfl | (simp [errW_none, errW_some] <;> rfl) | (simp [*, errW_none, errW_some] <;> rfl), by repeat (first | (with_reducible first | exact HB.out | apply below_alloc | apply pw_below_drewN | apply below_drew1 | refine below_set ?_ GE256.out) | exact HB.out)⟩
                            · replace c27 := Bool.eq_false_iff.mpr c27
                              subst c27
                              have H1 : (if (x5_5 != (a0_3 != 0)) = true then (some 47) else (if a0_4 < 0 then (some 48) else (if a0_4 > 15 then (some 48) else (if x4_1 = true then (some 0) else (if a0_4 = 0 then (some 0) else (some 48)))))) = some r := by rw [if_neg (show ¬ (false = true) by decide)] at H; exact H
                              clear H
                              have H := H1
                              clear H1
                              by_cases c28 : (x5_5 != (a0_3 != 0)) = true
                              · rw [if_pos c28] at H
                                have c28b0 : (x5_5 != (a0_3 != 0)) = true := c28
                                (try (have c28b1 : decide (x5_5 = (a0_3 != 0)) = false := by simpa using c28))
                                (try (have c28b2 : (x5_5 == (a0_3 != 0)) = false := by simpa using c28))
                                (try (have c28b3 : ¬ (x5_5 = (a0_3 != 0)) := by simpa using c28))
                                clear c28
                                obtain rfl := Option.some.inj H
                                have hcz29_0 : wc.cell? ⟨gb256, 0, none⟩ = some (.int .i64 a0_0) := (blk_cell BK256.out 0).trans rfl
                                have hcz29_1 : wc.cell? ⟨gb256, 1, none⟩ = some (.int .u32 a0_1) := (blk_cell BK256.out 1).trans rfl
                                have hcz29_2 : wc.cell? ⟨gb256, 2, none⟩ = some (.int .u32 a0_2) := (blk_cell BK256.out 2).trans rfl
                                have hcz29_3 : wc.cell? ⟨gb256, 3, none⟩ = some (.int .u32 a0_3) := (blk_cell BK256.out 3).trans rfl
                                have hcz29_4 : wc.cell? ⟨gb256, 4, none⟩ = some (.int .i64 a0_4) := (blk_cell BK256.out 4).trans rfl
                                have hcz29_5 : wc.cell? ⟨gb256, 5, none⟩ = some (.slice A0_5 l0_5.length c0_5) := (blk_cell BK256.out 5).trans rfl
                                have hfz29_0 := blk_frozen BK256.out 0
                                have hfz29_1 := blk_frozen BK256.out 1
                                have hfz29_2 := blk_frozen BK256.out 2
                                have hfz29_3 := blk_frozen BK256.out 3
                                have hfz29_4 := blk_frozen BK256.out 4
                                have hfz29_5 := blk_frozen BK256.out 5
                                go_wp2
                                go_ret
                                exact ⟨by first | rfl | (simp [errW_none, errW_some] <;> rfl) | (simp [*, errW_none, errW_some] <;> rfl), by repeat (first | (with_reducible first | exact HB.out | apply below_alloc | apply pw_below_drewN | apply below_drew1 | refine below_set ?_ GE256.out) | exact HB.out)⟩
                              · rw [if_neg c28] at H
                                have c28b0 : (x5_5 != (a0_3 != 0)) = false := by simpa using c28
                                (try (have c28b1 : decide (x5_5 = (a0_3 != 0)) = true := by simpa using c28))
                                (try (have c28b2 : (x5_5 == (a0_3 != 0)) = true := by simpa using c28))
                                clear c28
                                by_cases c30 : a0_4 < 0
                                · rw [if_pos c30] at H
                                  have c30b0 : decide (a0_4 < 0) = true := decide_eq_true c30
                                  clear c30
                                  obtain rfl := Option.some.inj H
                                  have hcz31_0 : wc.cell? ⟨gb256, 0, none⟩ = some (.int .i64 a0_0) := (blk_cell BK256.out 0).trans rfl
                                  have hcz31_1 : wc.cell? ⟨gb256, 1, none⟩ = some (.int .u32 a0_1) := (blk_cell BK256.out 1).trans rfl
                                  have hcz31_2 : wc.cell? ⟨gb256, 2, none⟩ = some (.int .u32 a0_2) := (blk_cell BK256.out 2).trans rfl
                                  have hcz31_3 : wc.cell? ⟨gb256, 3, none⟩ = some (.int .u32 a0_3) := (blk_cell BK256.out 3).trans rfl
                                  have hcz31_4 : wc.cell? ⟨gb256, 4, none⟩ = some (.int .i64 a0_4) := (blk_cell BK256.out 4).trans rfl
                                  have hcz31_5 : wc.cell? ⟨gb256, 5, none⟩ = some (.slice A0_5 l0_5.length c0_5) := (blk_cell BK256.out 5).trans rfl
                                  have hfz31_0 := blk_frozen BK256.out 0
                                  have hfz31_1 := blk_frozen BK256.out 1
                                  have hfz31_2 := blk_frozen BK256.out 2
                                  have hfz31_3 := blk_frozen BK256.out 3
                                  have hfz31_4 := blk_frozen BK256.out 4
                                  have hfz31_5 := blk_frozen BK256.out 5
                                  go_wp2
                                  go_ret
                                  exact ⟨by first | rfl | (simp [errW_none, errW_some] <;> rfl) | (simp [*, errW_none, errW_some] <;> rfl), by repeat (first | (with_reducible first | exact HB.out | apply below_alloc | apply pw_below_drewN | apply below_drew1 | refine below_set ?_ GE256.out) | exact HB.out)⟩
                                · rw [if_neg c30] at H
                                  have c30b0 : decide (a0_4 < 0) = false := decide_eq_false c30
                                  clear c30
                                  by_cases c32 : a0_4 > 15
                                  · rw [if_pos c32] at H
                                    have c32b0 : decide (15 < a0_4) = true := decide_eq_true c32
                                    clear c32
                                    obtain rfl := Option.some.inj H
                                    have hcz33_0 : wc.cell? ⟨gb256, 0, none⟩ = some (.int .i64 a0_0) := (blk_cell BK256.out 0).trans rfl
                                    have hcz33_1 : wc.cell? ⟨gb256, 1, none⟩ = some (.int .u32 a0_1) := (blk_cell BK256.out 1).trans rfl
                                    have hcz33_2 : wc.cell? ⟨gb256, 2, none⟩ = some (.int .u32 a0_2) := (blk_cell BK256.out 2).trans rfl
                                    have hcz33_3 : wc.cell? ⟨gb256, 3, none⟩ = some (.int .u32 a0_3) := (blk_cell BK256.out 3).trans rfl
                                    have hcz33_4 : wc.cell? ⟨gb256, 4, none⟩ = some (.int .i64 a0_4) := (blk_cell BK256.out 4).trans rfl
                                    have hcz33_5 : wc.cell? ⟨gb256, 5, none⟩ = some (.slice A0_5 l0_5.length c0_5) := (blk_cell BK256.out 5).trans rfl
                                    have hfz33_0 := blk_frozen BK256.out 0
                                    have hfz33_1 := blk_frozen BK256.out 1
                                    have hfz33_2 := blk_frozen BK256.out 2
                                    have hfz33_3 := blk_frozen BK256.out 3
                                    have hfz33_4 := blk_frozen BK256.out 4
                                    have hfz33_5 := blk_frozen BK256.out 5
                                    go_wp2
                                    go_ret
                                    exact ⟨by first | rfl | (simp [errW_none, errW_some] <;> rfl) | (simp [*, errW_none, errW_some] <;> rfl), by repeat (first | (with_reducible first | exact HB.out | apply below_alloc | apply pw_below_drewN | apply below_drew1 | refine below_set ?_ GE256.out) | exact HB.out)⟩
                                  · rw [if_neg c32] at H
                                    have c32b0 : decide (15 < a0_4) = false := decide_eq_false c32
                                    clear c32
                                    by_cases c34 : x4_1 = true
                                    · subst c34
                                      have H1 : (some 0) = some r := by rw [if_pos rfl] at H; exact H
                                      clear H
                                      have H := H1
                                      clear H1
                                      obtain rfl := Option.some.inj H
                                      have hcz35_0 : wc.cell? ⟨gb256, 0, none⟩ = some (.int .i64 a0_0) := (blk_cell BK256.out 0).trans rfl
                                      have hcz35_1 : wc.cell? ⟨gb256, 1, none⟩ = some (.int .u32 a0_1) := (blk_cell BK256.out 1).trans rfl
                                      have hcz35_2 : wc.cell? ⟨gb256, 2, none⟩ = some (.int .u32 a0_2) := (blk_cell BK256.out 2).trans rfl
                                      have hcz35_3 : wc.cell? ⟨gb256, 3, none⟩ = some (.int .u32 a0_3) := (blk_cell BK256.out 3).trans rfl
                                      have hcz35_4 : wc.cell? ⟨gb256, 4, none⟩ = some (.int .i64 a0_4) := (blk_cell BK256.out 4).trans rfl
                                      have hcz35_5 : wc.cell? ⟨gb256, 5, none⟩ = some (.slice A0_5 l0_5.length c0_5) := (blk_cell BK256.out 5).trans rfl
                                      have hfz35_0 := blk_frozen BK256.out 0
                                      have hfz35_1 := blk_frozen BK256.out 1
                                      have hfz35_2 := blk_frozen BK256.out 2
                                      have hfz35_3 := blk_frozen BK256.out 3
                                      have hfz35_4 := blk_frozen BK256.out 4
                                      have hfz35_5 := blk_frozen BK256.out 5
                                      go_wp2
                                      go_ret
                                      exact ⟨by first | rfl | (simp [errW_none, errW_some] <;> rfl) | (simp [*, errW_none, errW_some] <;> rfl), by repeat (first | (with_reducible first | exact HB.out | apply below_alloc | apply pw_below_drewN | apply below_drew1 | refine below_set ?_ GE256.out) | exact HB.out)⟩
                                    · replace c34 := Bool.eq_false_iff.mpr c34
                                      subst c34
                                      have H1 : (if a0_4 = 0 then (some 0) else (some 48)) = some r := by rw [if_neg (show ¬ (false = true) by decide)] at H; exact H
                                      clear H
                                      have H := H1
                                      clear H1
                                      by_cases c36 : a0_4 = 0
                                      · rw [if_pos c36] at H
                                        have c36b0 : (a0_4 == 0) = true := beq_iff_eq.mpr c36
                                        have c36b1 : (a0_4 != 0) = false := bne_eq_false_iff_eq.mpr c36
                                        clear c36
                                        obtain rfl := Option.some.inj H
                                        have hcz37_0 : wc.cell? ⟨gb256, 0, none⟩ = some (.int .i64 a0_0) := (blk_cell BK256.out 0).trans rfl
                                        have hcz37_1 : wc.cell? ⟨gb256, 1, none⟩ = some (.int .u32 a0_1) := (blk_cell BK256.out 1).trans rfl
                                        have hcz37_2 : wc.cell? ⟨gb256, 2, none⟩ = some (.int .u32 a0_2) := (blk_cell BK256.out 2).trans rfl
                                        have hcz37_3 : wc.cell? ⟨gb256, 3, none⟩ = some (.int .u32 a0_3) := (blk_cell BK256.out 3).trans rfl
                                        have hcz37_4 : wc.cell? ⟨gb256, 4, none⟩ = some (.int .i64 a0_4) := (blk_cell BK256.out 4).trans rfl
                                        have hcz37_5 : wc.cell? ⟨gb256, 5, none⟩ = some (.slice A0_5 l0_5.length c0_5) := (blk_cell BK256.out 5).trans rfl
                                        have hfz37_0 := blk_frozen BK256.out 0
                                        have hfz37_1 := blk_frozen BK256.out 1
                                        have hfz37_2 := blk_frozen BK256.out 2
                                        have hfz37_3 := blk_frozen BK256.out 3
                                        have hfz37_4 := blk_frozen BK256.out 4
                                        have hfz37_5 := blk_frozen BK256.out 5
                                        go_wp2
                                        go_ret
                                        exact ⟨by first | rfl | (simp [errW_none, errW_some] <;> rfl) | (simp [*, errW_none, errW_some] <;> rfl), by repeat (first | (with_reducible first | exact HB.out | apply below_alloc | apply pw_below_drewN | apply below_drew1 | refine below_set ?_ GE256.out) | exact HB.out)⟩
                                      · rw [if_neg c36] at H
                                        have c36b0 : (a0_4 == 0) = false := beq_eq_false_iff_ne.mpr c36
                                        have c36b1 : (a0_4 != 0) = true := bne_iff_ne.mpr c36
                                        obtain rfl := Option.some.inj H
                                        have hcz38_0 : wc.cell? ⟨gb256, 0, none⟩ = some (.int .i64 a0_0) := (blk_cell BK256.out 0).trans rfl
                                        have hcz38_1 : wc.cell? ⟨gb256, 1, none⟩ = some (.int .u32 a0_1) := (blk_cell BK256.out 1).trans rfl
                                        have hcz38_2 : wc.cell? ⟨gb256, 2, none⟩ = some (.int .u32 a0_2) := (blk_cell BK256.out 2).trans rfl
                                        have hcz38_3 : wc.cell? ⟨gb256, 3, none⟩ = some (.int .u32 a0_3) := (blk_cell BK256.out 3).trans rfl
                                        have hcz38_4 : wc.cell? ⟨gb256, 4, none⟩ = some (.int .i64 a0_4) := (blk_cell BK256.out 4).trans rfl
                                        have hcz38_5 : wc.cell? ⟨gb256, 5, none⟩ = some (.slice A0_5 l0_5.length c0_5) := (blk_cell BK256.out 5).trans rfl
                                        have hfz38_0 := blk_frozen BK256.out 0
                                        have hfz38_1 := blk_frozen BK256.out 1
                                        have hfz38_2 := blk_frozen BK256.out 2
                                        have hfz38_3 := blk_frozen BK256.out 3
                                        have hfz38_4 := blk_frozen BK256.out 4
                                        have hfz38_5 := blk_frozen BK256.out 5
                                        go_wp2
                                        go_ret
                                        exact ⟨by first | rfl | (simp [errW_none, errW_some] <;> rfl) | (simp [*, errW_none, errW_some] <;> rfl), by repeat (first | (with_reducible first | exact HB.out | apply below_alloc | apply pw_below_drewN | apply below_drew1 | refine below_set ?_ GE256.out) | exact HB.out)⟩
                  · replace c17 := Bool.eq_false_iff.mpr c17
                    subst c17
                    have H1 : (some 45) = some r := by rw [if_neg (show ¬ (false = true) by decide)] at H; exact H
                    clear H
                    have H := H1
                    clear H1
                    obtain rfl := Option.some.inj H
                    have hcz39_0 : wc.cell? ⟨gb256, 0, none⟩ = some (.int .i64 a0_0) := (blk_cell BK256.out 0).trans rfl
                    have hcz39_1 : wc.cell? ⟨gb256, 1, none⟩ = some (.int .u32 a0_1) := (blk_cell BK256.out 1).trans rfl
                    have hcz39_2 : wc.cell? ⟨gb256, 2, none⟩ = some (.int .u32 a0_2) := (blk_cell BK256.out 2).trans rfl
                    have hcz39_3 : wc.cell? ⟨gb256, 3, none⟩ = some (.int .u32 a0_3) := (blk_cell BK256.out 3).trans rfl
                    have hcz39_4 : wc.cell? ⟨gb256, 4, none⟩ = some (.int .i64 a0_4) := (blk_cell BK256.out 4).trans rfl
                    have hcz39_5 : wc.cell? ⟨gb256, 5, none⟩ = some (.slice A0_5 l0_5.length c0_5) := (blk_cell BK256.out 5).trans rfl
                    have hfz39_0 := blk_frozen BK256.out 0
                    have hfz39_1 := blk_frozen BK256.out 1
                    have hfz39_2 := blk_frozen BK256.out 2
                    have hfz39_3 := blk_frozen BK256.out 3
                    have hfz39_4 := blk_frozen BK256.out 4
                    have hfz39_5 := blk_frozen BK256.out 5
                    go_wp2_with (first | ((with_reducible refine gate_callee (f := 46) rfl ?_); refine goesL_ (some 41) rfl rfl Try.func46 (by kernel_rfl) rfl #[.int .i64 a0_0, .int .i64 (l0_5.length : Int)] rfl (by (try simp only [List.map_toArray, List.map_cons, List.map_nil]); first | done | rfl | (simp only [List.length_drop, List.length_take]; rfl)) ?_; (with_reducible refine (parapetref04_data.calls kj8 a0_0 (l0_5.length : Int) false _ A16.out).mono ?_); rintro e w' ⟨rfl, ⟨nd, rfl⟩⟩; refine ⟨_, rfl, ?_⟩))
                    go_ret
                    exact ⟨by first | rfl | (simp [errW_none, errW_some] <;> rfl) | (simp [*, errW_none, errW_some] <;> rfl), by repeat (first | (with_reducible first | exact HB.out | apply below_alloc | apply pw_below_drewN | apply below_drew1 | refine below_set ?_ GE256.out) | exact HB.out)⟩

end Go.Proofs.Ytlafkeijikbenac.PD
