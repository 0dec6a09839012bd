-- Written by a program of this session (wip/pr.sh): the functions' plain forms and their walks.
import Derived.Test.YtlafkeijikbenacPVx0
import Derived.Test.YtlafkeijikbenacPVx4
import Derived.Test.YtlafkeijikbenacPVx5
import Derived.Test.YtlafkeijikbenacPVx6
namespace Go.Proofs.Ytlafkeijikbenac.PV
open Go.RowKit Go.Proofs.YtlafkeijikbenacW.PrintWords Go.Proofs.YtlafkeijikbenacW.PrintLast Go.Proofs.YtlafkeijikbenacW.PrintMore
attribute [local go_sem] max2_int min2_int max_two min_two max_three min_three max_four min_four   -- for this text's walks alone
set_option linter.unusedVariables false
set_option linter.unusedSimpArgs false

def parapetref04_Encode.f (k : Nat) (a0_0 : Int) (a0_1 : Int) (a0_2 : Int) (a0_3 : Int) (a0_4 : Int) (l0_5 : List Int) : Option (List Int × Int) := (parapetref04_Lawful.f k a0_0 a0_1 a0_2 a0_3 a0_4 l0_5).bind fun t253 => (if t253 = 0 then ((some (([(a0_0) % 256] : List Int) : List Int)).bind fun y254 => ((parapetref02_Word.f a0_1).bind fun t257 => (if y254.length + t257.length < 140737488355328 then ((some (y254 ++ t257 : List Int)).bind fun y260 => ((parapetref02_Word.f a0_2).bind fun t263 => (if y260.length + t263.length < 140737488355328 then ((some (y260 ++ t263 : List Int)).bind fun y266 => ((parapetref02_Word.f a0_3).bind fun t269 => (if y266.length + t269.length < 140737488355328 then ((some (y266 ++ t269 : List Int)).bind fun y272 => ((some (([(a0_4) % 256, ((l0_5.length : Int)) % 256] : List Int) : List Int)).bind fun y275 => (if y272.length + y275.length < 140737488355328 then ((some (y272 ++ y275 : List Int)).bind fun y278 => (if y278.length + l0_5.length < 140737488355328 then ((parapetref02_Seal.f k (y278 ++ l0_5)).bind fun t284 => (some (t284, 0))) else (none))) else (none)))) else (none)))) else (none)))) else (none)))) else (some (([] : List Int), t253)))
theorem parapetref04_Encode.mono : ∀ a0 a1 a2 a3 a4 a5 k, LeO (parapetref04_Encode.f k a0 a1 a2 a3 a4 a5) (parapetref04_Encode.f (k + 1) a0 a1 a2 a3 a4 a5) := by
  intro a0 a1 a2 a3 a4 a5 k
  unfold parapetref04_Encode.f
  repeat' first
      | (with_reducible exact parapetref02_Seal.mono _ _)
      | (with_reducible exact parapetref04_Lawful.mono _ _ _ _ _ _ _)
      | (with_reducible exact LeO.refl _)
      | (with_reducible exact LeO.none _)
      | (with_reducible refine LeO.ite ?_ ?_)
      | (with_reducible refine LeO.bind ?_ (fun _ => ?_))
      | exact parapetref02_Seal.mono _ _
      | exact parapetref04_Lawful.mono _ _ _ _ _ _ _
      | exact LeO.none _
      | refine LeO.ite ?_ ?_
      | refine LeO.bind ?_ (fun _ => ?_)
set_option maxHeartbeats 8000000 in
set_option maxRecDepth 100000 in
theorem parapetref04_Encode.calls (k : Nat) (a0_0 : Int) (a0_1 : Int) (a0_2 : Int) (a0_3 : Int) (a0_4 : Int) (A0_5 : Option Addr) (c0_5 : Nat) (l0_5 : List Int) (r1 : List Int) (r2 : Int) (w : World) (hr0_5 : Kd.C (Kd.int .u8) w A0_5 l0_5.length l0_5) (hc0_5 : l0_5.length ≤ c0_5) (h : parapetref04_Encode.f k a0_0 a0_1 a0_2 a0_3 a0_4 l0_5 = some (r1, r2)) :
    Calls Try.prog 18 #[.agg #[.int .i64 a0_0, .int .u32 a0_1, .int .u32 a0_2, .int .u32 a0_3, .int .i64 a0_4, .slice A0_5 l0_5.length c0_5]] w fun e w' => ∃ v0_ : Value, e = .returned (.tuple #[v0_, .int .i64 r2]) ∧ Kd.R (Kd.int .u8) 5 w' w.heap.size (fun _ => True) v0_ r1 ∧ Below w.heap.size w w' := by
  have hu29 := Try.underlying29
  have HR0_5 := Aside0.mk hr0_5
  have HC0_5 := Aside0.mk hc0_5
  clear hr0_5 hc0_5
  have HB := Aside0.mk (Below.refl w.heap.size w)
  have H : ((parapetref04_Lawful.f k a0_0 a0_1 a0_2 a0_3 a0_4 l0_5).bind fun t253 => (if t253 = 0 then ((some (([(a0_0) % 256] : List Int) : List Int)).bind fun y254 => ((parapetref02_Word.f a0_1).bind fun t257 => (if y254.length + t257.length < 140737488355328 then ((some (y254 ++ t257 : List Int)).bind fun y260 => ((parapetref02_Word.f a0_2).bind fun t263 => (if y260.length + t263.length < 140737488355328 then ((some (y260 ++ t263 : List Int)).bind fun y266 => ((parapetref02_Word.f a0_3).bind fun t269 => (if y266.length + t269.length < 140737488355328 then ((some (y266 ++ t269 : List Int)).bind fun y272 => ((some (([(a0_4) % 256, ((l0_5.length : Int)) % 256] : List Int) : List Int)).bind fun y275 => (if y272.length + y275.length < 140737488355328 then ((some (y272 ++ y275 : List Int)).bind fun y278 => (if y278.length + l0_5.length < 140737488355328 then ((parapetref02_Seal.f k (y278 ++ l0_5)).bind fun t284 => (some (t284, 0))) else (none))) else (none)))) else (none)))) else (none)))) else (none)))) else (some (([] : List Int), t253)))) = some (r1, r2) := h
  clear h
  replace H := Option.bind_eq_some_iff.mp H
  obtain ⟨t253, A20, H⟩ := H
  replace H : (if t253 = 0 then ((some (([(a0_0) % 256] : List Int) : List Int)).bind fun y254 => ((parapetref02_Word.f a0_1).bind fun t257 => (if y254.length + t257.length < 140737488355328 then ((some (y254 ++ t257 : List Int)).bind fun y260 => ((parapetref02_Word.f a0_2).bind fun t263 => (if y260.length + t263.length < 140737488355328 then ((some (y260 ++ t263 : List Int)).bind fun y266 => ((parapetref02_Word.f a0_3).bind fun t269 => (if y266.length + t269.length < 140737488355328 then ((some (y266 ++ t269 : List Int)).bind fun y272 => ((some (([(a0_4) % 256, ((l0_5.length : Int)) % 256] : List Int) : List Int)).bind fun y275 => (if y272.length + y275.length < 140737488355328 then ((some (y272 ++ y275 : List Int)).bind fun y278 => (if y278.length + l0_5.length < 140737488355328 then ((parapetref02_Seal.f k (y278 ++ l0_5)).bind fun t284 => (some (t284, 0))) else (none))) else (none)))) else (none)))) else (none)))) else (none)))) else (some (([] : List Int), t253))) = some (r1, r2) := H
  have A2 := Aside0.mk A20
  clear A20
  by_cases c3 : t253 = 0
  · rw [if_pos c3] at H
    have c3b0 : (t253 == 0) = true := beq_iff_eq.mpr c3
    have c3b1 : (t253 != 0) = false := bne_eq_false_iff_eq.mpr c3
    clear c3
    obtain ⟨y254, hy254⟩ : ∃ y_ : List Int, y_ = (([(a0_0) % 256] : List Int)) := ⟨_, rfl⟩
    replace H : ((parapetref02_Word.f a0_1).bind fun t257 => (if y254.length + t257.length < 140737488355328 then ((some (y254 ++ t257 : List Int)).bind fun y260 => ((parapetref02_Word.f a0_2).bind fun t263 => (if y260.length + t263.length < 140737488355328 then ((some (y260 ++ t263 : List Int)).bind fun y266 => ((parapetref02_Word.f a0_3).bind fun t269 => (if y266.length + t269.length < 140737488355328 then ((some (y266 ++ t269 : List Int)).bind fun y272 => ((some (([(a0_4) % 256, ((l0_5.length : Int)) % 256] : List Int) : List Int)).bind fun y275 => (if y272.length + y275.length < 140737488355328 then ((some (y272 ++ y275 : List Int)).bind fun y278 => (if y278.length + l0_5.length < 140737488355328 then ((parapetref02_Seal.f k (y278 ++ l0_5)).bind fun t284 => (some (t284, 0))) else (none))) else (none)))) else (none)))) else (none)))) else (none))) = some (r1, r2) := by first | (rw [hy254]; with_reducible exact H) | (have H2_ := (Option.bind_some _ _).symm.trans H; rw [hy254]; with_reducible exact H2_) | (have H2_ := (Option.bind_some _ _).symm.trans H; with_reducible exact H2_) | with_reducible exact H | (rw [hy254]; exact H) | exact H
    have Ny254 := Aside0.mk hy254
    clear hy254
    replace H := Option.bind_eq_some_iff.mp H
    obtain ⟨t257, A40, H⟩ := H
    replace H : (if y254.length + t257.length < 140737488355328 then ((some (y254 ++ t257 : List Int)).bind fun y260 => ((parapetref02_Word.f a0_2).bind fun t263 => (if y260.length + t263.length < 140737488355328 then ((some (y260 ++ t263 : List Int)).bind fun y266 => ((parapetref02_Word.f a0_3).bind fun t269 => (if y266.length + t269.length < 140737488355328 then ((some (y266 ++ t269 : List Int)).bind fun y272 => ((some (([(a0_4) % 256, ((l0_5.length : Int)) % 256] : List Int) : List Int)).bind fun y275 => (if y272.length + y275.length < 140737488355328 then ((some (y272 ++ y275 : List Int)).bind fun y278 => (if y278.length + l0_5.length < 140737488355328 then ((parapetref02_Seal.f k (y278 ++ l0_5)).bind fun t284 => (some (t284, 0))) else (none))) else (none)))) else (none)))) else (none)))) else (none)) = some (r1, r2) := H
    have A4 := Aside0.mk A40
    clear A40
    by_cases c5 : y254.length + t257.length < 140737488355328
    · rw [if_pos c5] at H
      have LMc5 := Aside0.mk c5
      clear c5
      obtain ⟨y260, hy260⟩ : ∃ y_ : List Int, y_ = (y254 ++ t257) := ⟨_, rfl⟩
      replace H : ((parapetref02_Word.f a0_2).bind fun t263 => (if y260.length + t263.length < 140737488355328 then ((some (y260 ++ t263 : List Int)).bind fun y266 => ((parapetref02_Word.f a0_3).bind fun t269 => (if y266.length + t269.length < 140737488355328 then ((some (y266 ++ t269 : List Int)).bind fun y272 => ((some (([(a0_4) % 256, ((l0_5.length : Int)) % 256] : List Int) : List Int)).bind fun y275 => (if y272.length + y275.length < 140737488355328 then ((some (y272 ++ y275 : List Int)).bind fun y278 => (if y278.length + l0_5.length < 140737488355328 then ((parapetref02_Seal.f k (y278 ++ l0_5)).bind fun t284 => (some (t284, 0))) else (none))) else (none)))) else (none)))) else (none))) = some (r1, r2) := by first | (rw [hy260]; with_reducible exact H) | (have H2_ := (Option.bind_some _ _).symm.trans H; rw [hy260]; with_reducible exact H2_) | (have H2_ := (Option.bind_some _ _).symm.trans H; with_reducible exact H2_) | with_reducible exact H | (rw [hy260]; exact H) | exact H
      have Ny260 := Aside0.mk hy260
      clear hy260
      replace H := Option.bind_eq_some_iff.mp H
      obtain ⟨t263, A60, H⟩ := H
      replace H : (if y260.length + t263.length < 140737488355328 then ((some (y260 ++ t263 : List Int)).bind fun y266 => ((parapetref02_Word.f a0_3).bind fun t269 => (if y266.length + t269.length < 140737488355328 then ((some (y266 ++ t269 : List Int)).bind fun y272 => ((some (([(a0_4) % 256, ((l0_5.length : Int)) % 256] : List Int) : List Int)).bind fun y275 => (if y272.length + y275.length < 140737488355328 then ((some (y272 ++ y275 : List Int)).bind fun y278 => (if y278.length + l0_5.length < 140737488355328 then ((parapetref02_Seal.f k (y278 ++ l0_5)).bind fun t284 => (some (t284, 0))) else (none))) else (none)))) else (none)))) else (none)) = some (r1, r2) := H
      have A6 := Aside0.mk A60
      clear A60
      by_cases c7 : y260.length + t263.length < 140737488355328
      · rw [if_pos c7] at H
        have LMc7 := Aside0.mk c7
        clear c7
        obtain ⟨y266, hy266⟩ : ∃ y_ : List Int, y_ = (y260 ++ t263) := ⟨_, rfl⟩
        replace H : ((parapetref02_Word.f a0_3).bind fun t269 => (if y266.length + t269.length < 140737488355328 then ((some (y266 ++ t269 : List Int)).bind fun y272 => ((some (([(a0_4) % 256, ((l0_5.length : Int)) % 256] : List Int) : List Int)).bind fun y275 => (if y272.length + y275.length < 140737488355328 then ((some (y272 ++ y275 : List Int)).bind fun y278 => (if y278.length + l0_5.length < 140737488355328 then ((parapetref02_Seal.f k (y278 ++ l0_5)).bind fun t284 => (some (t284, 0))) else (none))) else (none)))) else (none))) = some (r1, r2) := by first | (rw [hy266]; with_reducible exact H) | (have H2_ := (Option.bind_some _ _).symm.trans H; rw [hy266]; with_reducible exact H2_) | (have H2_ := (Option.bind_some _ _).symm.trans H; with_reducible exact H2_) | with_reducible exact H | (rw [hy266]; exact H) | exact H
        have Ny266 := Aside0.mk hy266
        clear hy266
        replace H := Option.bind_eq_some_iff.mp H
        obtain ⟨t269, A80, H⟩ := H
        replace H : (if y266.length + t269.length < 140737488355328 then ((some (y266 ++ t269 : List Int)).bind fun y272 => ((some (([(a0_4) % 256, ((l0_5.length : Int)) % 256] : List Int) : List Int)).bind fun y275 => (if y272.length + y275.length < 140737488355328 then ((some (y272 ++ y275 : List Int)).bind fun y278 => (if y278.length + l0_5.length < 140737488355328 then ((parapetref02_Seal.f k (y278 ++ l0_5)).bind fun t284 => (some (t284, 0))) else (none))) else (none)))) else (none)) = some (r1, r2) := H
        have A8 := Aside0.mk A80
        clear A80
        by_cases c9 : y266.length + t269.length < 140737488355328
        · rw [if_pos c9] at H
          have LMc9 := Aside0.mk c9
          clear c9
          obtain ⟨y272, hy272⟩ : ∃ y_ : List Int, y_ = (y266 ++ t269) := ⟨_, rfl⟩
          replace H : ((some (([(a0_4) % 256, ((l0_5.length : Int)) % 256] : List Int) : List Int)).bind fun y275 => (if y272.length + y275.length < 140737488355328 then ((some (y272 ++ y275 : List Int)).bind fun y278 => (if y278.length + l0_5.length < 140737488355328 then ((parapetref02_Seal.f k (y278 ++ l0_5)).bind fun t284 => (some (t284, 0))) else (none))) else (none))) = some (r1, r2) := by first | (rw [hy272]; with_reducible exact H) | (have H2_ := (Option.bind_some _ _).symm.trans H; rw [hy272]; with_reducible exact H2_) | (have H2_ := (Option.bind_some _ _).symm.trans H; with_reducible exact H2_) | with_reducible exact H | (rw [hy272]; exact H) | exact H
          have Ny272 := Aside0.mk hy272
          clear hy272
          obtain ⟨y275, hy275⟩ : ∃ y_ : List Int, y_ = (([(a0_4) % 256, ((l0_5.length : Int)) % 256] : List Int)) := ⟨_, rfl⟩
          replace H : (if y272.length + y275.length < 140737488355328 then ((some (y272 ++ y275 : List Int)).bind fun y278 => (if y278.length + l0_5.length < 140737488355328 then ((parapetref02_Seal.f k (y278 ++ l0_5)).bind fun t284 => (some (t284, 0))) else (none))) else (none)) = some (r1, r2) := by first | (rw [hy275]; with_reducible exact H) | (have H2_ := (Option.bind_some _ _).symm.trans H; rw [hy275]; with_reducible exact H2_) | (have H2_ := (Option.bind_some _ _).symm.trans H; with_reducible exact H2_) | with_reducible exact H | (rw [hy275]; exact H) | exact H
          have Ny275 := Aside0.mk hy275
          clear hy275
          by_cases c10 : y272.length + y275.length < 140737488355328
          · rw [if_pos c10] at H
            have LMc10 := Aside0.mk c10
            clear c10
            obtain ⟨y278, hy278⟩ : ∃ y_ : List Int, y_ = (y272 ++ y275) := ⟨_, rfl⟩
            replace H : (if y278.length + l0_5.length < 140737488355328 then ((parapetref02_Seal.f k (y278 ++ l0_5)).bind fun t284 => (some (t284, 0))) else (none)) = some (r1, r2) := by first | (rw [hy278]; with_reducible exact H) | (have H2_ := (Option.bind_some _ _).symm.trans H; rw [hy278]; with_reducible exact H2_) | (have H2_ := (Option.bind_some _ _).symm.trans H; with_reducible exact H2_) | with_reducible exact H | (rw [hy278]; exact H) | exact H
            have Ny278 := Aside0.mk hy278
            clear hy278
            by_cases c11 : y278.length + l0_5.length < 140737488355328
            · rw [if_pos c11] at H
              have LMc11 := Aside0.mk c11
              clear c11
              obtain ⟨y281, hy281⟩ : ∃ y_ : List Int, y_ = (y278 ++ l0_5) := ⟨_, rfl⟩
              replace H : ((parapetref02_Seal.f k y281).bind fun t284 => (some (t284, 0))) = some (r1, r2) := by first | (rw [hy281]; with_reducible exact H) | (have H2_ := (Option.bind_some _ _).symm.trans H; rw [hy281]; with_reducible exact H2_) | (have H2_ := (Option.bind_some _ _).symm.trans H; with_reducible exact H2_) | with_reducible exact H | (rw [hy281]; exact H) | exact H
              have Ny281 := Aside0.mk hy281
              clear hy281
              replace H := Option.bind_eq_some_iff.mp H
              obtain ⟨t284, A120, H⟩ := H
              replace H : (some (t284, 0)) = some (r1, r2) := H
              have A12 := Aside0.mk A120
              clear A120
              simp only [Option.some.injEq, Prod.mk.injEq] at H
              obtain ⟨rfl, rfl⟩ := H
              go_enter Try.func18, Try.ntmps18
              go_wp2_with (first | ((with_reducible refine gate_dst (N := 1) rfl ?_); refine box_event ?hg (N := 1) ?hd (cs := #[.int .i64 a0_0, .int .u32 a0_1, .int .u32 a0_2, .int .u32 a0_3, .int .i64 a0_4, .slice A0_5 l0_5.length c0_5]) (t := 29) ?hr ?_; (case hd => rfl); (case hg => rfl); (case hr => first | (go_simp; done) | (go_simp; rfl)); intro gb252 hg w13 hbox hb; have n0_ := Aside0.mk (below_step (by repeat (first | (with_reducible first | exact HB.out | apply below_alloc | apply pw_below_drewN | apply below_drew1) | exact HB.out)) hb); have n1_ := Aside0.mk (hbox); have n2_ := Aside0.mk ((by rw [hg]; exact (below_size (by repeat (first | (with_reducible first | exact HB.out | apply below_alloc | apply pw_below_drewN | apply below_drew1) | exact HB.out))) : w.heap.size ≤ gb252)); have n3_ := Aside0.mk ((by rw [hg]; exact (below_size (by repeat (first | (with_reducible first | exact HB.out | apply below_alloc | apply pw_below_drewN | apply below_drew1) | exact HB.out))) : w.heap.size ≤ gb252)); clear HB; have HB := n0_; have BK252 := n1_; have GW252 := n2_; have GE252 := n3_; clear n0_ n1_ n2_ n3_; clear hb hbox hg; have hcz14_0 : w13.cell? ⟨gb252, 0, none⟩ = some (.int .i64 a0_0) := (blk_cell BK252.out 0).trans rfl; have hcz14_1 : w13.cell? ⟨gb252, 1, none⟩ = some (.int .u32 a0_1) := (blk_cell BK252.out 1).trans rfl; have hcz14_2 : w13.cell? ⟨gb252, 2, none⟩ = some (.int .u32 a0_2) := (blk_cell BK252.out 2).trans rfl; have hcz14_3 : w13.cell? ⟨gb252, 3, none⟩ = some (.int .u32 a0_3) := (blk_cell BK252.out 3).trans rfl; have hcz14_4 : w13.cell? ⟨gb252, 4, none⟩ = some (.int .i64 a0_4) := (blk_cell BK252.out 4).trans rfl; have hcz14_5 : w13.cell? ⟨gb252, 5, none⟩ = some (.slice A0_5 l0_5.length c0_5) := (blk_cell BK252.out 5).trans rfl; have hfz14_0 := blk_frozen BK252.out 0; have hfz14_1 := blk_frozen BK252.out 1; have hfz14_2 := blk_frozen BK252.out 2; have hfz14_3 := blk_frozen BK252.out 3; have hfz14_4 := blk_frozen BK252.out 4; have hfz14_5 := blk_frozen BK252.out 5) | ((with_reducible refine gate_callee (f := 37) rfl ?_); refine goesL_ (some 7) rfl rfl Try.func37 (by kernel_rfl) rfl #[.agg #[.int .i64 a0_0, .int .u32 a0_1, .int .u32 a0_2, .int .u32 a0_3, .int .i64 a0_4, .slice A0_5 l0_5.length c0_5]] rfl (by (try simp only [List.map_toArray, List.map_cons, List.map_nil]); first | done | rfl | (simp only [List.length_drop, List.length_take]; rfl)) ?_; (with_reducible refine (parapetref04_Lawful.calls k a0_0 a0_1 a0_2 a0_3 a0_4 _ _ l0_5 t253 _ ?side1 ?side2 A2.out).mono ?_); (case side1 => repeat (first | exact (Kd.C_below HR0_5.out HB.out) | (with_reducible refine Kd.C_alloc ?_ _) | (with_reducible refine Kd.C_drewN ?_ _) | (with_reducible refine Kd.C_drew ?_))); (case side2 => exact HC0_5.out); rintro e w15 ⟨rfl, hb⟩; refine ⟨_, rfl, ?_⟩; have n0_ := Aside0.mk (blk_below (g := gb252) (o := .cells #[.int .i64 a0_0, .int .u32 a0_1, .int .u32 a0_2, .int .u32 a0_3, .int .i64 a0_4, .slice A0_5 l0_5.length c0_5] 29 (0, 0)) (by (with_reducible repeat (first | refine blk_drewN ?_ _ | refine blk_drew ?_ | refine blk_alloc ?_ _)); exact BK252.out) hb); have n1_ := Aside0.mk (below_step (by repeat (first | (with_reducible first | exact HB.out | apply below_alloc | apply pw_below_drewN | apply below_drew1 | refine below_set ?_ GE252.out) | exact HB.out)) hb); clear BK252; clear HB; have BK252 := n0_; have HB := n1_; clear n0_ n1_; (try clear hb); (try clear hb2); (try clear hk); (try clear hi); have hcz16_0 : w15.cell? ⟨gb252, 0, none⟩ = some (.int .i64 a0_0) := (blk_cell BK252.out 0).trans rfl; have hcz16_1 : w15.cell? ⟨gb252, 1, none⟩ = some (.int .u32 a0_1) := (blk_cell BK252.out 1).trans rfl; have hcz16_2 : w15.cell? ⟨gb252, 2, none⟩ = some (.int .u32 a0_2) := (blk_cell BK252.out 2).trans rfl; have hcz16_3 : w15.cell? ⟨gb252, 3, none⟩ = some (.int .u32 a0_3) := (blk_cell BK252.out 3).trans rfl; have hcz16_4 : w15.cell? ⟨gb252, 4, none⟩ = some (.int .i64 a0_4) := (blk_cell BK252.out 4).trans rfl; have hcz16_5 : w15.cell? ⟨gb252, 5, none⟩ = some (.slice A0_5 l0_5.length c0_5) := (blk_cell BK252.out 5).trans rfl; have hfz16_0 := blk_frozen BK252.out 0; have hfz16_1 := blk_frozen BK252.out 1; have hfz16_2 := blk_frozen BK252.out 2; have hfz16_3 := blk_frozen BK252.out 3; have hfz16_4 := blk_frozen BK252.out 4; have hfz16_5 := blk_frozen BK252.out 5) | ((with_reducible refine gate_dst (N := 14) rfl ?_); refine Kd.R_lit (Kd.int .u8) _ 5 ?hg (N := 14) ?hd (xs := ([(a0_0) % 256] : List Int)) (inner := [.int .u8 ((a0_0) % 256)]) (ok := fun _ => True) (okp := fun _ => True) ?hr ?hp (fun _ hk => hk) trivial (Below.refl _ _) (Nat.le_refl _) (by simp) ?_; (case hd => rfl); (case hg => rfl); (case hr => first | (go_simp; done) | (go_simp; rfl)); (case hp => exact (Reps.one (show Kd.M (Kd.int .u8) _ _ _ ((a0_0) % 256) [.int .u8 ((a0_0) % 256)] from rfl) (Reps.none _ _))); intro v255 w17 ho18 hb hg_ hnew_; clear hg_ hnew_; (first | rw [← Ny254.out] at ho18 | (simp only [Int.reduceToNat] at ho18; rw [← Ny254.out] at ho18)); have n0_ := Aside0.mk (Kd.R_lower ho18 (below_size (by repeat (first | (with_reducible first | exact HB.out | apply below_alloc | apply pw_below_drewN | apply below_drew1 | refine below_set ?_ GE252.out) | exact HB.out)))); have n1_ := Aside0.mk (blk_below (g := gb252) (o := .cells #[.int .i64 a0_0, .int .u32 a0_1, .int .u32 a0_2, .int .u32 a0_3, .int .i64 a0_4, .slice A0_5 l0_5.length c0_5] 29 (0, 0)) (by (with_reducible repeat (first | refine blk_drewN ?_ _ | refine blk_drew ?_ | refine blk_alloc ?_ _)); exact BK252.out) hb); have n2_ := Aside0.mk (below_step (by repeat (first | (with_reducible first | exact HB.out | apply below_alloc | apply pw_below_drewN | apply below_drew1 | refine below_set ?_ GE252.out) | exact HB.out)) hb); clear BK252; clear HB; have HO256 := n0_; have BK252 := n1_; have HB := n2_; clear n0_ n1_ n2_; clear hb ho18; have hcz19_0 : w17.cell? ⟨gb252, 0, none⟩ = some (.int .i64 a0_0) := (blk_cell BK252.out 0).trans rfl; have hcz19_1 : w17.cell? ⟨gb252, 1, none⟩ = some (.int .u32 a0_1) := (blk_cell BK252.out 1).trans rfl; have hcz19_2 : w17.cell? ⟨gb252, 2, none⟩ = some (.int .u32 a0_2) := (blk_cell BK252.out 2).trans rfl; have hcz19_3 : w17.cell? ⟨gb252, 3, none⟩ = some (.int .u32 a0_3) := (blk_cell BK252.out 3).trans rfl; have hcz19_4 : w17.cell? ⟨gb252, 4, none⟩ = some (.int .i64 a0_4) := (blk_cell BK252.out 4).trans rfl; have hcz19_5 : w17.cell? ⟨gb252, 5, none⟩ = some (.slice A0_5 l0_5.length c0_5) := (blk_cell BK252.out 5).trans rfl; have hfz19_0 := blk_frozen BK252.out 0; have hfz19_1 := blk_frozen BK252.out 1; have hfz19_2 := blk_frozen BK252.out 2; have hfz19_3 := blk_frozen BK252.out 3; have hfz19_4 := blk_frozen BK252.out 4; have hfz19_5 := blk_frozen BK252.out 5) | ((with_reducible refine gate_callee (f := 30) rfl ?_); refine goesL_ (some 18) rfl rfl Try.func30 (by kernel_rfl) rfl #[.int .u32 a0_1] rfl (by (try simp only [List.map_toArray, List.map_cons, List.map_nil]); first | done | rfl | (simp only [List.length_drop, List.length_take]; rfl)) ?_; (with_reducible refine (parapetref02_Word.calls a0_1 t257 _ A4.out).mono ?_); rintro e w20 ⟨v258, rfl, ho0, hb⟩; refine ⟨_, rfl, ?_⟩; have n0_ := Aside0.mk (Kd.R_elder' (by (with_reducible repeat (first | apply Kd.R_alloc | apply Kd.R_drewN | apply Kd.R_drew)); exact HO256.out) (Kd.R_base ho0) hb); have n1_ := Aside0.mk (Kd.R_lower (Kd.R_new' ho0 (Kd.R_lt (by (with_reducible repeat (first | apply Kd.R_alloc | apply Kd.R_drewN | apply Kd.R_drew)); exact HO256.out))) (below_size (by repeat (first | (with_reducible first | exact HB.out | apply below_alloc | apply pw_below_drewN | apply below_drew1 | refine below_set ?_ GE252.out) | exact HB.out)))); have n2_ := Aside0.mk (blk_below (g := gb252) (o := .cells #[.int .i64 a0_0, .int .u32 a0_1, .int .u32 a0_2, .int .u32 a0_3, .int .i64 a0_4, .slice A0_5 l0_5.length c0_5] 29 (0, 0)) (by (with_reducible repeat (first | refine blk_drewN ?_ _ | refine blk_drew ?_ | refine blk_alloc ?_ _)); exact BK252.out) hb); have n3_ := Aside0.mk (below_step (by repeat (first | (with_reducible first | exact HB.out | apply below_alloc | apply pw_below_drewN | apply below_drew1 | refine below_set ?_ GE252.out) | exact HB.out)) hb); clear HO256; clear BK252; clear HB; have HO256 := n0_; have HO259 := n1_; have BK252 := n2_; have HB := n3_; clear n0_ n1_ n2_ n3_; (try clear hb); (try clear hb2); (try clear hk); (try clear hi); (try clear ho0); obtain ⟨Ao22, co22, eo22⟩ := Kd.R_slice HO259.out; subst eo22) | ((with_reducible refine gate_builtin (b := .append) (xs := #[.tmp 15, .tmp 18]) rfl ?_); at_builtin; refine Kd.R_append_rows (Kd.int .u8) (w0 := w) w.heap.size rfl (.tmp 15) (.tmp 18) 22 5 (.int .u8 0) 1 rfl Try.underlying22 info5 rfl (by decide) (by omega) v255 y254 t257 _ _ _ (fun k_ => some k_ ≠ (.slice Ao22 t257.length co22 : Value).ownBlock) (fun _ => False) rfl rfl ?aO ?aR (fun _ _ h => h) (fun _ h => h.elim) ?aF ?aB ?aS ?aL ?_; (case aR => repeat (first | exact (Kd.R_reads' HO259.out).2.2 | (with_reducible refine Kd.C_alloc ?_ _) | (with_reducible refine Kd.C_drewN ?_ _) | (with_reducible refine Kd.C_drew ?_))); (case aB => exact (by repeat (first | (with_reducible first | exact HB.out | apply below_alloc | apply pw_below_drewN | apply below_drew1 | refine below_set ?_ GE252.out) | exact HB.out))); (case aF => exact (fun k_ hk => Kd.fresh' (Kd.R_lt (by (with_reducible repeat (first | apply Kd.R_alloc | apply Kd.R_drewN | apply Kd.R_drew)); exact HO259.out)) k_ hk)); (case aO => exact (by (with_reducible repeat (first | apply Kd.R_alloc | apply Kd.R_drewN | apply Kd.R_drew)); exact Kd.R_mono HO256.out (fun _ hk => hk.2))); (case aS => exact (below_size (by repeat (first | (with_reducible first | exact HB.out | apply below_alloc | apply pw_below_drewN | apply below_drew1 | refine below_set ?_ GE252.out) | exact HB.out)))); (case aL => have := LMc5.out; omega); intro v261 w21 ho hb hg hat; rw [← Ny260.out] at ho; have n0_ := Aside0.mk (blk_grown (g := gb252) (o := .cells #[.int .i64 a0_0, .int .u32 a0_1, .int .u32 a0_2, .int .u32 a0_3, .int .i64 a0_4, .slice A0_5 l0_5.length c0_5] 29 (0, 0)) (by (with_reducible repeat (first | refine blk_drewN ?_ _ | refine blk_drew ?_ | refine blk_alloc ?_ _)); exact BK252.out) hg (Kd.R_ne HO256.out BK252.out (by decide))); have n1_ := Aside0.mk (Kd.R_after (ok := (fun _ => True)) (by (with_reducible repeat (first | apply Kd.R_alloc | apply Kd.R_drewN | apply Kd.R_drew)); exact HO259.out) hg hat); have n2_ := Aside0.mk (hb); have n3_ := Aside0.mk (ho); clear BK252; clear HO259; clear HB; clear HO256; have BK252 := n0_; have HO259 := n1_; have HB := n2_; have HO262 := n3_; clear n0_ n1_ n2_ n3_; clear ho hb hg hat; have hcz23_0 : w21.cell? ⟨gb252, 0, none⟩ = some (.int .i64 a0_0) := (blk_cell BK252.out 0).trans rfl; have hcz23_1 : w21.cell? ⟨gb252, 1, none⟩ = some (.int .u32 a0_1) := (blk_cell BK252.out 1).trans rfl; have hcz23_2 : w21.cell? ⟨gb252, 2, none⟩ = some (.int .u32 a0_2) := (blk_cell BK252.out 2).trans rfl; have hcz23_3 : w21.cell? ⟨gb252, 3, none⟩ = some (.int .u32 a0_3) := (blk_cell BK252.out 3).trans rfl; have hcz23_4 : w21.cell? ⟨gb252, 4, none⟩ = some (.int .i64 a0_4) := (blk_cell BK252.out 4).trans rfl; have hcz23_5 : w21.cell? ⟨gb252, 5, none⟩ = some (.slice A0_5 l0_5.length c0_5) := (blk_cell BK252.out 5).trans rfl; have hfz23_0 := blk_frozen BK252.out 0; have hfz23_1 := blk_frozen BK252.out 1; have hfz23_2 := blk_frozen BK252.out 2; have hfz23_3 := blk_frozen BK252.out 3; have hfz23_4 := blk_frozen BK252.out 4; have hfz23_5 := blk_frozen BK252.out 5) | ((with_reducible refine gate_callee (f := 30) rfl ?_); refine goesL_ (some 23) rfl rfl Try.func30 (by kernel_rfl) rfl #[.int .u32 a0_2] rfl (by (try simp only [List.map_toArray, List.map_cons, List.map_nil]); first | done | rfl | (simp only [List.length_drop, List.length_take]; rfl)) ?_; (with_reducible refine (parapetref02_Word.calls a0_2 t263 _ A6.out).mono ?_); rintro e w24 ⟨v264, rfl, ho0, hb⟩; refine ⟨_, rfl, ?_⟩; have n0_ := Aside0.mk (Kd.R_elder' (by (with_reducible repeat (first | apply Kd.R_alloc | apply Kd.R_drewN | apply Kd.R_drew)); exact HO259.out) (Kd.R_base ho0) hb); have n1_ := Aside0.mk (Kd.R_elder' (by (with_reducible repeat (first | apply Kd.R_alloc | apply Kd.R_drewN | apply Kd.R_drew)); exact HO262.out) (Kd.R_base ho0) hb); have n2_ := Aside0.mk (Kd.R_lower (Kd.R_new' (Kd.R_new' ho0 (Kd.R_lt (by (with_reducible repeat (first | apply Kd.R_alloc | apply Kd.R_drewN | apply Kd.R_drew)); exact HO259.out))) (Kd.R_lt (by (with_reducible repeat (first | apply Kd.R_alloc | apply Kd.R_drewN | apply Kd.R_drew)); exact HO262.out))) (below_size (by repeat (first | (with_reducible first | exact HB.out | apply below_alloc | apply pw_below_drewN | apply below_drew1 | refine below_set ?_ GE252.out) | exact HB.out)))); have n3_ := Aside0.mk (blk_below (g := gb252) (o := .cells #[.int .i64 a0_0, .int .u32 a0_1, .int .u32 a0_2, .int .u32 a0_3, .int .i64 a0_4, .slice A0_5 l0_5.length c0_5] 29 (0, 0)) (by (with_reducible repeat (first | refine blk_drewN ?_ _ | refine blk_drew ?_ | refine blk_alloc ?_ _)); exact BK252.out) hb); have n4_ := Aside0.mk (below_step (by repeat (first | (with_reducible first | exact HB.out | apply below_alloc | apply pw_below_drewN | apply below_drew1 | refine below_set ?_ GE252.out) | exact HB.out)) hb); clear HO259; clear HO262; clear BK252; clear HB; have HO259 := n0_; have HO262 := n1_; have HO265 := n2_; have BK252 := n3_; have HB := n4_; clear n0_ n1_ n2_ n3_ n4_; (try clear hb); (try clear hb2); (try clear hk); (try clear hi); (try clear ho0); obtain ⟨Ao26, co26, eo26⟩ := Kd.R_slice HO265.out; subst eo26) | ((with_reducible refine gate_builtin (b := .append) (xs := #[.tmp 20, .tmp 23]) rfl ?_); at_builtin; refine Kd.R_append_rows (Kd.int .u8) (w0 := w) w.heap.size rfl (.tmp 20) (.tmp 23) 22 5 (.int .u8 0) 1 rfl Try.underlying22 info5 rfl (by decide) (by omega) v261 y260 t263 _ _ _ (fun k_ => some k_ ≠ (.slice Ao22 t257.length co22 : Value).ownBlock ∧ some k_ ≠ (.slice Ao26 t263.length co26 : Value).ownBlock) (fun _ => False) rfl rfl ?aO ?aR (fun _ _ h => h) (fun _ h => h.elim) ?aF ?aB ?aS ?aL ?_; (case aR => repeat (first | exact (Kd.R_reads' HO265.out).2.2 | (with_reducible refine Kd.C_alloc ?_ _) | (with_reducible refine Kd.C_drewN ?_ _) | (with_reducible refine Kd.C_drew ?_))); (case aB => exact (by repeat (first | (with_reducible first | exact HB.out | apply below_alloc | apply pw_below_drewN | apply below_drew1 | refine below_set ?_ GE252.out) | exact HB.out))); (case aF => exact (fun k_ hk => ⟨Kd.fresh' (Kd.R_lt (by (with_reducible repeat (first | apply Kd.R_alloc | apply Kd.R_drewN | apply Kd.R_drew)); exact HO259.out)) k_ hk, Kd.fresh' (Kd.R_lt (by (with_reducible repeat (first | apply Kd.R_alloc | apply Kd.R_drewN | apply Kd.R_drew)); exact HO265.out)) k_ hk⟩)); (case aO => exact (by (with_reducible repeat (first | apply Kd.R_alloc | apply Kd.R_drewN | apply Kd.R_drew)); exact HO262.out)); (case aS => exact (below_size (by repeat (first | (with_reducible first | exact HB.out | apply below_alloc | apply pw_below_drewN | apply below_drew1 | refine below_set ?_ GE252.out) | exact HB.out)))); (case aL => have := LMc7.out; omega); intro v267 w25 ho hb hg hat; rw [← Ny266.out] at ho; have n0_ := Aside0.mk (blk_grown (g := gb252) (o := .cells #[.int .i64 a0_0, .int .u32 a0_1, .int .u32 a0_2, .int .u32 a0_3, .int .i64 a0_4, .slice A0_5 l0_5.length c0_5] 29 (0, 0)) (by (with_reducible repeat (first | refine blk_drewN ?_ _ | refine blk_drew ?_ | refine blk_alloc ?_ _)); exact BK252.out) hg (Kd.R_ne HO262.out BK252.out (by decide))); have n1_ := Aside0.mk (Kd.R_after (ok := (fun k_ => some k_ ≠ (.slice Ao26 t263.length co26 : Value).ownBlock)) (by (with_reducible repeat (first | apply Kd.R_alloc | apply Kd.R_drewN | apply Kd.R_drew)); exact Kd.R_mono HO259.out (fun _ hk => ⟨hk.2, hk.1.2⟩)) hg hat); have n2_ := Aside0.mk (Kd.R_after (ok := (fun k_ => some k_ ≠ (.slice Ao22 t257.length co22 : Value).ownBlock)) (by (with_reducible repeat (first | apply Kd.R_alloc | apply Kd.R_drewN | apply Kd.R_drew)); exact Kd.R_mono HO265.out (fun _ hk => ⟨hk.1.2, hk.2⟩)) hg hat); have n3_ := Aside0.mk (hb); have n4_ := Aside0.mk (ho); clear BK252; clear HO259; clear HO265; clear HB; clear HO262; have BK252 := n0_; have HO259 := n1_; have HO265 := n2_; have HB := n3_; have HO268 := n4_; clear n0_ n1_ n2_ n3_ n4_; clear ho hb hg hat; have hcz27_0 : w25.cell? ⟨gb252, 0, none⟩ = some (.int .i64 a0_0) := (blk_cell BK252.out 0).trans rfl; have hcz27_1 : w25.cell? ⟨gb252, 1, none⟩ = some (.int .u32 a0_1) := (blk_cell BK252.out 1).trans rfl; have hcz27_2 : w25.cell? ⟨gb252, 2, none⟩ = some (.int .u32 a0_2) := (blk_cell BK252.out 2).trans rfl; have hcz27_3 : w25.cell? ⟨gb252, 3, none⟩ = some (.int .u32 a0_3) := (blk_cell BK252.out 3).trans rfl; have hcz27_4 : w25.cell? ⟨gb252, 4, none⟩ = some (.int .i64 a0_4) := (blk_cell BK252.out 4).trans rfl; have hcz27_5 : w25.cell? ⟨gb252, 5, none⟩ = some (.slice A0_5 l0_5.length c0_5) := (blk_cell BK252.out 5).trans rfl; have hfz27_0 := blk_frozen BK252.out 0; have hfz27_1 := blk_frozen BK252.out 1; have hfz27_2 := blk_frozen BK252.out 2; have hfz27_3 := blk_frozen BK252.out 3; have hfz27_4 := blk_frozen BK252.out 4; have hfz27_5 := blk_frozen BK252.out 5) | ((with_reducible refine gate_callee (f := 30) rfl ?_); refine goesL_ (some 28) rfl rfl Try.func30 (by kernel_rfl) rfl #[.int .u32 a0_3] rfl (by (try simp only [List.map_toArray, List.map_cons, List.map_nil]); first | done | rfl | (simp only [List.length_drop, List.length_take]; rfl)) ?_; (with_reducible refine (parapetref02_Word.calls a0_3 t269 _ A8.out).mono ?_); rintro e w28 ⟨v270, rfl, ho0, hb⟩; refine ⟨_, rfl, ?_⟩; have n0_ := Aside0.mk (Kd.R_elder' (by (with_reducible repeat (first | apply Kd.R_alloc | apply Kd.R_drewN | apply Kd.R_drew)); exact HO259.out) (Kd.R_base ho0) hb); have n1_ := Aside0.mk (Kd.R_elder' (by (with_reducible repeat (first | apply Kd.R_alloc | apply Kd.R_drewN | apply Kd.R_drew)); exact HO265.out) (Kd.R_base ho0) hb); have n2_ := Aside0.mk (Kd.R_elder' (by (with_reducible repeat (first | apply Kd.R_alloc | apply Kd.R_drewN | apply Kd.R_drew)); exact HO268.out) (Kd.R_base ho0) hb); have n3_ := Aside0.mk (Kd.R_lower (Kd.R_new' (Kd.R_new' (Kd.R_new' ho0 (Kd.R_lt (by (with_reducible repeat (first | apply Kd.R_alloc | apply Kd.R_drewN | apply Kd.R_drew)); exact HO259.out))) (Kd.R_lt (by (with_reducible repeat (first | apply Kd.R_alloc | apply Kd.R_drewN | apply Kd.R_drew)); exact HO265.out))) (Kd.R_lt (by (with_reducible repeat (first | apply Kd.R_alloc | apply Kd.R_drewN | apply Kd.R_drew)); exact HO268.out))) (below_size (by repeat (first | (with_reducible first | exact HB.out | apply below_alloc | apply pw_below_drewN | apply below_drew1 | refine below_set ?_ GE252.out) | exact HB.out)))); have n4_ := Aside0.mk (blk_below (g := gb252) (o := .cells #[.int .i64 a0_0, .int .u32 a0_1, .int .u32 a0_2, .int .u32 a0_3, .int .i64 a0_4, .slice A0_5 l0_5.length c0_5] 29 (0, 0)) (by (with_reducible repeat (first | refine blk_drewN ?_ _ | refine blk_drew ?_ | refine blk_alloc ?_ _)); exact BK252.out) hb); have n5_ := Aside0.mk (below_step (by repeat (first | (with_reducible first | exact HB.out | apply below_alloc | apply pw_below_drewN | apply below_drew1 | refine below_set ?_ GE252.out) | exact HB.out)) hb); clear HO259; clear HO265; clear HO268; clear BK252; clear HB; have HO259 := n0_; have HO265 := n1_; have HO268 := n2_; have HO271 := n3_; have BK252 := n4_; have HB := n5_; clear n0_ n1_ n2_ n3_ n4_ n5_; (try clear hb); (try clear hb2); (try clear hk); (try clear hi); (try clear ho0); obtain ⟨Ao30, co30, eo30⟩ := Kd.R_slice HO271.out; subst eo30) | ((with_reducible refine gate_builtin (b := .append) (xs := #[.tmp 25, .tmp 28]) rfl ?_); at_builtin; refine Kd.R_append_rows (Kd.int .u8) (w0 := w) w.heap.size rfl (.tmp 25) (.tmp 28) 22 5 (.int .u8 0) 1 rfl Try.underlying22 info5 rfl (by decide) (by omega) v267 y266 t269 _ _ _ (fun k_ => some k_ ≠ (.slice Ao22 t257.length co22 : Value).ownBlock ∧ some k_ ≠ (.slice Ao26 t263.length co26 : Value).ownBlock ∧ some k_ ≠ (.slice Ao30 t269.length co30 : Value).ownBlock) (fun _ => False) rfl rfl ?aO ?aR (fun _ _ h => h) (fun _ h => h.elim) ?aF ?aB ?aS ?aL ?_; (case aR => repeat (first | exact (Kd.R_reads' HO271.out).2.2 | (with_reducible refine Kd.C_alloc ?_ _) | (with_reducible refine Kd.C_drewN ?_ _) | (with_reducible refine Kd.C_drew ?_))); (case aB => exact (by repeat (first | (with_reducible first | exact HB.out | apply below_alloc | apply pw_below_drewN | apply below_drew1 | refine below_set ?_ GE252.out) | exact HB.out))); (case aF => exact (fun k_ hk => ⟨Kd.fresh' (Kd.R_lt (by (with_reducible repeat (first | apply Kd.R_alloc | apply Kd.R_drewN | apply Kd.R_drew)); exact HO259.out)) k_ hk, Kd.fresh' (Kd.R_lt (by (with_reducible repeat (first | apply Kd.R_alloc | apply Kd.R_drewN | apply Kd.R_drew)); exact HO265.out)) k_ hk, Kd.fresh' (Kd.R_lt (by (with_reducible repeat (first | apply Kd.R_alloc | apply Kd.R_drewN | apply Kd.R_drew)); exact HO271.out)) k_ hk⟩)); (case aO => exact (by (with_reducible repeat (first | apply Kd.R_alloc | apply Kd.R_drewN | apply Kd.R_drew)); exact Kd.R_mono HO268.out (fun _ hk => ⟨hk.1.1, ⟨hk.1.2, hk.2⟩⟩))); (case aS => exact (below_size (by repeat (first | (with_reducible first | exact HB.out | apply below_alloc | apply pw_below_drewN | apply below_drew1 | refine below_set ?_ GE252.out) | exact HB.out)))); (case aL => have := LMc9.out; omega); intro v273 w29 ho hb hg hat; rw [← Ny272.out] at ho; have n0_ := Aside0.mk (blk_grown (g := gb252) (o := .cells #[.int .i64 a0_0, .int .u32 a0_1, .int .u32 a0_2, .int .u32 a0_3, .int .i64 a0_4, .slice A0_5 l0_5.length c0_5] 29 (0, 0)) (by (with_reducible repeat (first | refine blk_drewN ?_ _ | refine blk_drew ?_ | refine blk_alloc ?_ _)); exact BK252.out) hg (Kd.R_ne HO268.out BK252.out (by decide))); have n1_ := Aside0.mk (Kd.R_after (ok := (fun k_ => some k_ ≠ (.slice Ao26 t263.length co26 : Value).ownBlock ∧ some k_ ≠ (.slice Ao30 t269.length co30 : Value).ownBlock)) (by (with_reducible repeat (first | apply Kd.R_alloc | apply Kd.R_drewN | apply Kd.R_drew)); exact Kd.R_mono HO259.out (fun _ hk => ⟨⟨hk.1.1, hk.2⟩, hk.1.2⟩)) hg hat); have n2_ := Aside0.mk (Kd.R_after (ok := (fun k_ => some k_ ≠ (.slice Ao22 t257.length co22 : Value).ownBlock ∧ some k_ ≠ (.slice Ao30 t269.length co30 : Value).ownBlock)) (by (with_reducible repeat (first | apply Kd.R_alloc | apply Kd.R_drewN | apply Kd.R_drew)); exact Kd.R_mono HO265.out (fun _ hk => ⟨⟨hk.1.1, hk.2⟩, hk.1.2⟩)) hg hat); have n3_ := Aside0.mk (Kd.R_after (ok := (fun k_ => some k_ ≠ (.slice Ao22 t257.length co22 : Value).ownBlock ∧ some k_ ≠ (.slice Ao26 t263.length co26 : Value).ownBlock)) (by (with_reducible repeat (first | apply Kd.R_alloc | apply Kd.R_drewN | apply Kd.R_drew)); exact Kd.R_mono HO271.out (fun _ hk => ⟨⟨hk.1.1.2, hk.1.2⟩, hk.2⟩)) hg hat); have n4_ := Aside0.mk (hb); have n5_ := Aside0.mk (ho); clear BK252; clear HO259; clear HO265; clear HO271; clear HB; clear HO268; have BK252 := n0_; have HO259 := n1_; have HO265 := n2_; have HO271 := n3_; have HB := n4_; have HO274 := n5_; clear n0_ n1_ n2_ n3_ n4_ n5_; clear ho hb hg hat; have hcz31_0 : w29.cell? ⟨gb252, 0, none⟩ = some (.int .i64 a0_0) := (blk_cell BK252.out 0).trans rfl; have hcz31_1 : w29.cell? ⟨gb252, 1, none⟩ = some (.int .u32 a0_1) := (blk_cell BK252.out 1).trans rfl; have hcz31_2 : w29.cell? ⟨gb252, 2, none⟩ = some (.int .u32 a0_2) := (blk_cell BK252.out 2).trans rfl; have hcz31_3 : w29.cell? ⟨gb252, 3, none⟩ = some (.int .u32 a0_3) := (blk_cell BK252.out 3).trans rfl; have hcz31_4 : w29.cell? ⟨gb252, 4, none⟩ = some (.int .i64 a0_4) := (blk_cell BK252.out 4).trans rfl; have hcz31_5 : w29.cell? ⟨gb252, 5, none⟩ = some (.slice A0_5 l0_5.length c0_5) := (blk_cell BK252.out 5).trans rfl; have hfz31_0 := blk_frozen BK252.out 0; have hfz31_1 := blk_frozen BK252.out 1; have hfz31_2 := blk_frozen BK252.out 2; have hfz31_3 := blk_frozen BK252.out 3; have hfz31_4 := blk_frozen BK252.out 4; have hfz31_5 := blk_frozen BK252.out 5) | ((with_reducible refine gate_dst (N := 38) rfl ?_); refine Kd.R_lit (Kd.int .u8) _ 5 ?hg (N := 38) ?hd (xs := ([(a0_4) % 256, ((l0_5.length : Int)) % 256] : List Int)) (inner := [.int .u8 ((a0_4) % 256), .int .u8 (((l0_5.length : Int)) % 256)]) (ok := fun _ => True) (okp := fun _ => True) ?hr ?hp (fun _ hk => hk) trivial (Below.refl _ _) (Nat.le_refl _) (by simp) ?_; (case hd => rfl); (case hg => rfl); (case hr => first | (go_simp; done) | (go_simp; rfl)); (case hp => exact (Reps.one (show Kd.M (Kd.int .u8) _ _ _ ((a0_4) % 256) [.int .u8 ((a0_4) % 256)] from rfl) (Reps.one (show Kd.M (Kd.int .u8) _ _ _ (((l0_5.length : Int)) % 256) [.int .u8 (((l0_5.length : Int)) % 256)] from rfl) (Reps.none _ _)))); intro v276 w32 ho33 hb hg_ hnew_; clear hg_ hnew_; (first | rw [← Ny275.out] at ho33 | (simp only [Int.reduceToNat] at ho33; rw [← Ny275.out] at ho33)); have n0_ := Aside0.mk (Kd.R_elder' (by (with_reducible repeat (first | apply Kd.R_alloc | apply Kd.R_drewN | apply Kd.R_drew)); exact HO259.out) (Kd.R_base ho33) hb); have n1_ := Aside0.mk (Kd.R_elder' (by (with_reducible repeat (first | apply Kd.R_alloc | apply Kd.R_drewN | apply Kd.R_drew)); exact HO265.out) (Kd.R_base ho33) hb); have n2_ := Aside0.mk (Kd.R_elder' (by (with_reducible repeat (first | apply Kd.R_alloc | apply Kd.R_drewN | apply Kd.R_drew)); exact HO271.out) (Kd.R_base ho33) hb); have n3_ := Aside0.mk (Kd.R_elder' (by (with_reducible repeat (first | apply Kd.R_alloc | apply Kd.R_drewN | apply Kd.R_drew)); exact HO274.out) (Kd.R_base ho33) hb); have n4_ := Aside0.mk (Kd.R_lower (Kd.R_new' (Kd.R_new' (Kd.R_new' (Kd.R_new' ho33 (Kd.R_lt (by (with_reducible repeat (first | apply Kd.R_alloc | apply Kd.R_drewN | apply Kd.R_drew)); exact HO259.out))) (Kd.R_lt (by (with_reducible repeat (first | apply Kd.R_alloc | apply Kd.R_drewN | apply Kd.R_drew)); exact HO265.out))) (Kd.R_lt (by (with_reducible repeat (first | apply Kd.R_alloc | apply Kd.R_drewN | apply Kd.R_drew)); exact HO271.out))) (Kd.R_lt (by (with_reducible repeat (first | apply Kd.R_alloc | apply Kd.R_drewN | apply Kd.R_drew)); exact HO274.out))) (below_size (by repeat (first | (with_reducible first | exact HB.out | apply below_alloc | apply pw_below_drewN | apply below_drew1 | refine below_set ?_ GE252.out) | exact HB.out)))); have n5_ := Aside0.mk (blk_below (g := gb252) (o := .cells #[.int .i64 a0_0, .int .u32 a0_1, .int .u32 a0_2, .int .u32 a0_3, .int .i64 a0_4, .slice A0_5 l0_5.length c0_5] 29 (0, 0)) (by (with_reducible repeat (first | refine blk_drewN ?_ _ | refine blk_drew ?_ | refine blk_alloc ?_ _)); exact BK252.out) hb); have n6_ := Aside0.mk (below_step (by repeat (first | (with_reducible first | exact HB.out | apply below_alloc | apply pw_below_drewN | apply below_drew1 | refine below_set ?_ GE252.out) | exact HB.out)) hb); clear HO259; clear HO265; clear HO271; clear HO274; clear BK252; clear HB; have HO259 := n0_; have HO265 := n1_; have HO271 := n2_; have HO274 := n3_; have HO277 := n4_; have BK252 := n5_; have HB := n6_; clear n0_ n1_ n2_ n3_ n4_ n5_ n6_; clear hb ho33; obtain ⟨Ao35, co35, eo35⟩ := Kd.R_slice HO277.out; subst eo35) | ((with_reducible refine gate_builtin (b := .append) (xs := #[.tmp 30, .tmp 38]) rfl ?_); at_builtin; refine Kd.R_append_rows (Kd.int .u8) (w0 := w) w.heap.size rfl (.tmp 30) (.tmp 38) 22 5 (.int .u8 0) 1 rfl Try.underlying22 info5 rfl (by decide) (by omega) v273 y272 y275 _ _ _ (fun k_ => some k_ ≠ (.slice Ao22 t257.length co22 : Value).ownBlock ∧ some k_ ≠ (.slice Ao26 t263.length co26 : Value).ownBlock ∧ some k_ ≠ (.slice Ao30 t269.length co30 : Value).ownBlock ∧ some k_ ≠ (.slice Ao35 y275.length co35 : Value).ownBlock) (fun _ => False) rfl rfl ?aO ?aR (fun _ _ h => h) (fun _ h => h.elim) ?aF ?aB ?aS ?aL ?_; (case aR => repeat (first | exact (Kd.R_reads' HO277.out).2.2 | (with_reducible refine Kd.C_alloc ?_ _) | (with_reducible refine Kd.C_drewN ?_ _) | (with_reducible refine Kd.C_drew ?_))); (case aB => exact (by repeat (first | (with_reducible first | exact HB.out | apply below_alloc | apply pw_below_drewN | apply below_drew1 | refine below_set ?_ GE252.out) | exact HB.out))); (case aF => exact (fun k_ hk => ⟨Kd.fresh' (Kd.R_lt (by (with_reducible repeat (first | apply Kd.R_alloc | apply Kd.R_drewN | apply Kd.R_drew)); exact HO259.out)) k_ hk, Kd.fresh' (Kd.R_lt (by (with_reducible repeat (first | apply Kd.R_alloc | apply Kd.R_drewN | apply Kd.R_drew)); exact HO265.out)) k_ hk, Kd.fresh' (Kd.R_lt (by (with_reducible repeat (first | apply Kd.R_alloc | apply Kd.R_drewN | apply Kd.R_drew)); exact HO271.out)) k_ hk, Kd.fresh' (Kd.R_lt (by (with_reducible repeat (first | apply Kd.R_alloc | apply Kd.R_drewN | apply Kd.R_drew)); exact HO277.out)) k_ hk⟩)); (case aO => exact (by (with_reducible repeat (first | apply Kd.R_alloc | apply Kd.R_drewN | apply Kd.R_drew)); exact Kd.R_mono HO274.out (fun _ hk => ⟨hk.1.1, ⟨hk.1.2.1, ⟨hk.1.2.2, hk.2⟩⟩⟩))); (case aS => exact (below_size (by repeat (first | (with_reducible first | exact HB.out | apply below_alloc | apply pw_below_drewN | apply below_drew1 | refine below_set ?_ GE252.out) | exact HB.out)))); (case aL => have := LMc10.out; omega); intro v279 w34 ho hb hg hat; rw [← Ny278.out] at ho; have n0_ := Aside0.mk (blk_grown (g := gb252) (o := .cells #[.int .i64 a0_0, .int .u32 a0_1, .int .u32 a0_2, .int .u32 a0_3, .int .i64 a0_4, .slice A0_5 l0_5.length c0_5] 29 (0, 0)) (by (with_reducible repeat (first | refine blk_drewN ?_ _ | refine blk_drew ?_ | refine blk_alloc ?_ _)); exact BK252.out) hg (Kd.R_ne HO274.out BK252.out (by decide))); have n1_ := Aside0.mk (Kd.R_after (ok := (fun k_ => some k_ ≠ (.slice Ao26 t263.length co26 : Value).ownBlock ∧ some k_ ≠ (.slice Ao30 t269.length co30 : Value).ownBlock ∧ some k_ ≠ (.slice Ao35 y275.length co35 : Value).ownBlock)) (by (with_reducible repeat (first | apply Kd.R_alloc | apply Kd.R_drewN | apply Kd.R_drew)); exact Kd.R_mono HO259.out (fun _ hk => ⟨⟨hk.1.1.1, ⟨hk.1.1.2, hk.2⟩⟩, hk.1.2⟩)) hg hat); have n2_ := Aside0.mk (Kd.R_after (ok := (fun k_ => some k_ ≠ (.slice Ao22 t257.length co22 : Value).ownBlock ∧ some k_ ≠ (.slice Ao30 t269.length co30 : Value).ownBlock ∧ some k_ ≠ (.slice Ao35 y275.length co35 : Value).ownBlock)) (by (with_reducible repeat (first | apply Kd.R_alloc | apply Kd.R_drewN | apply Kd.R_drew)); exact Kd.R_mono HO265.out (fun _ hk => ⟨⟨hk.1.1.1, ⟨hk.1.1.2, hk.2⟩⟩, hk.1.2⟩)) hg hat); have n3_ := Aside0.mk (Kd.R_after (ok := (fun k_ => some k_ ≠ (.slice Ao22 t257.length co22 : Value).ownBlock ∧ some k_ ≠ (.slice Ao26 t263.length co26 : Value).ownBlock ∧ some k_ ≠ (.slice Ao35 y275.length co35 : Value).ownBlock)) (by (with_reducible repeat (first | apply Kd.R_alloc | apply Kd.R_drewN | apply Kd.R_drew)); exact Kd.R_mono HO271.out (fun _ hk => ⟨⟨hk.1.1.1, ⟨hk.1.1.2, hk.2⟩⟩, hk.1.2⟩)) hg hat); have n4_ := Aside0.mk (Kd.R_after (ok := (fun k_ => some k_ ≠ (.slice Ao22 t257.length co22 : Value).ownBlock ∧ some k_ ≠ (.slice Ao26 t263.length co26 : Value).ownBlock ∧ some k_ ≠ (.slice Ao30 t269.length co30 : Value).ownBlock)) (by (with_reducible repeat (first | apply Kd.R_alloc | apply Kd.R_drewN | apply Kd.R_drew)); exact Kd.R_mono HO277.out (fun _ hk => ⟨⟨hk.1.1.1.2, ⟨hk.1.1.2, hk.1.2⟩⟩, hk.2⟩)) hg hat); have n5_ := Aside0.mk (hb); have n6_ := Aside0.mk (ho); clear BK252; clear HO259; clear HO265; clear HO271; clear HO277; clear HB; clear HO274; have BK252 := n0_; have HO259 := n1_; have HO265 := n2_; have HO271 := n3_; have HO277 := n4_; have HB := n5_; have HO280 := n6_; clear n0_ n1_ n2_ n3_ n4_ n5_ n6_; clear ho hb hg hat; have hcz36_0 : w34.cell? ⟨gb252, 0, none⟩ = some (.int .i64 a0_0) := (blk_cell BK252.out 0).trans rfl; have hcz36_1 : w34.cell? ⟨gb252, 1, none⟩ = some (.int .u32 a0_1) := (blk_cell BK252.out 1).trans rfl; have hcz36_2 : w34.cell? ⟨gb252, 2, none⟩ = some (.int .u32 a0_2) := (blk_cell BK252.out 2).trans rfl; have hcz36_3 : w34.cell? ⟨gb252, 3, none⟩ = some (.int .u32 a0_3) := (blk_cell BK252.out 3).trans rfl; have hcz36_4 : w34.cell? ⟨gb252, 4, none⟩ = some (.int .i64 a0_4) := (blk_cell BK252.out 4).trans rfl; have hcz36_5 : w34.cell? ⟨gb252, 5, none⟩ = some (.slice A0_5 l0_5.length c0_5) := (blk_cell BK252.out 5).trans rfl; have hfz36_0 := blk_frozen BK252.out 0; have hfz36_1 := blk_frozen BK252.out 1; have hfz36_2 := blk_frozen BK252.out 2; have hfz36_3 := blk_frozen BK252.out 3; have hfz36_4 := blk_frozen BK252.out 4; have hfz36_5 := blk_frozen BK252.out 5) | ((with_reducible refine gate_builtin (b := .append) (xs := #[.tmp 40, .tmp 42]) rfl ?_); at_builtin; refine Kd.R_append_rows (Kd.int .u8) (w0 := w) w.heap.size rfl (.tmp 40) (.tmp 42) 22 5 (.int .u8 0) 1 rfl Try.underlying22 info5 rfl (by decide) (by omega) v279 y278 l0_5 _ _ _ (fun k_ => some k_ ≠ (.slice Ao22 t257.length co22 : Value).ownBlock ∧ some k_ ≠ (.slice Ao26 t263.length co26 : Value).ownBlock ∧ some k_ ≠ (.slice Ao30 t269.length co30 : Value).ownBlock ∧ some k_ ≠ (.slice Ao35 y275.length co35 : Value).ownBlock) (fun _ => False) rfl rfl ?aO ?aR (fun _ _ h => h) (fun _ h => h.elim) ?aF ?aB ?aS ?aL ?_; (case aR => repeat (first | exact (Kd.C_below HR0_5.out HB.out) | (with_reducible refine Kd.C_alloc ?_ _) | (with_reducible refine Kd.C_drewN ?_ _) | (with_reducible refine Kd.C_drew ?_))); (case aB => exact (by repeat (first | (with_reducible first | exact HB.out | apply below_alloc | apply pw_below_drewN | apply below_drew1 | refine below_set ?_ GE252.out) | exact HB.out))); (case aF => exact (fun k_ hk => ⟨Kd.fresh' (Kd.R_lt (by (with_reducible repeat (first | apply Kd.R_alloc | apply Kd.R_drewN | apply Kd.R_drew)); exact HO259.out)) k_ hk, Kd.fresh' (Kd.R_lt (by (with_reducible repeat (first | apply Kd.R_alloc | apply Kd.R_drewN | apply Kd.R_drew)); exact HO265.out)) k_ hk, Kd.fresh' (Kd.R_lt (by (with_reducible repeat (first | apply Kd.R_alloc | apply Kd.R_drewN | apply Kd.R_drew)); exact HO271.out)) k_ hk, Kd.fresh' (Kd.R_lt (by (with_reducible repeat (first | apply Kd.R_alloc | apply Kd.R_drewN | apply Kd.R_drew)); exact HO277.out)) k_ hk⟩)); (case aO => exact (by (with_reducible repeat (first | apply Kd.R_alloc | apply Kd.R_drewN | apply Kd.R_drew)); exact HO280.out)); (case aS => exact (below_size (by repeat (first | (with_reducible first | exact HB.out | apply below_alloc | apply pw_below_drewN | apply below_drew1 | refine below_set ?_ GE252.out) | exact HB.out)))); (case aL => have := LMc11.out; omega); intro v282 w37 ho hb hg hat; rw [← Ny281.out] at ho; have n0_ := Aside0.mk (blk_grown (g := gb252) (o := .cells #[.int .i64 a0_0, .int .u32 a0_1, .int .u32 a0_2, .int .u32 a0_3, .int .i64 a0_4, .slice A0_5 l0_5.length c0_5] 29 (0, 0)) (by (with_reducible repeat (first | refine blk_drewN ?_ _ | refine blk_drew ?_ | refine blk_alloc ?_ _)); exact BK252.out) hg (Kd.R_ne HO280.out BK252.out (by decide))); have n1_ := Aside0.mk (Kd.R_after (ok := (fun k_ => some k_ ≠ (.slice Ao26 t263.length co26 : Value).ownBlock ∧ some k_ ≠ (.slice Ao30 t269.length co30 : Value).ownBlock ∧ some k_ ≠ (.slice Ao35 y275.length co35 : Value).ownBlock)) (by (with_reducible repeat (first | apply Kd.R_alloc | apply Kd.R_drewN | apply Kd.R_drew)); exact HO259.out) hg hat); have n2_ := Aside0.mk (Kd.R_after (ok := (fun k_ => some k_ ≠ (.slice Ao22 t257.length co22 : Value).ownBlock ∧ some k_ ≠ (.slice Ao30 t269.length co30 : Value).ownBlock ∧ some k_ ≠ (.slice Ao35 y275.length co35 : Value).ownBlock)) (by (with_reducible repeat (first | apply Kd.R_alloc | apply Kd.R_drewN | apply Kd.R_drew)); exact HO265.out) hg hat); have n3_ := Aside0.mk (Kd.R_after (ok := (fun k_ => some k_ ≠ (.slice Ao22 t257.length co22 : Value).ownBlock ∧ some k_ ≠ (.slice Ao26 t263.length co26 : Value).ownBlock ∧ some k_ ≠ (.slice Ao35 y275.length co35 : Value).ownBlock)) (by (with_reducible repeat (first | apply Kd.R_alloc | apply Kd.R_drewN | apply Kd.R_drew)); exact HO271.out) hg hat); have n4_ := Aside0.mk (Kd.R_after (ok := (fun k_ => some k_ ≠ (.slice Ao22 t257.length co22 : Value).ownBlock ∧ some k_ ≠ (.slice Ao26 t263.length co26 : Value).ownBlock ∧ some k_ ≠ (.slice Ao30 t269.length co30 : Value).ownBlock)) (by (with_reducible repeat (first | apply Kd.R_alloc | apply Kd.R_drewN | apply Kd.R_drew)); exact HO277.out) hg hat); have n5_ := Aside0.mk (hb); have n6_ := Aside0.mk (ho); clear BK252; clear HO259; clear HO265; clear HO271; clear HO277; clear HB; clear HO280; have BK252 := n0_; have HO259 := n1_; have HO265 := n2_; have HO271 := n3_; have HO277 := n4_; have HB := n5_; have HO283 := n6_; clear n0_ n1_ n2_ n3_ n4_ n5_ n6_; clear ho hb hg hat; obtain ⟨Ao38, co38, eo38⟩ := Kd.R_slice HO283.out; subst eo38) | ((with_reducible refine gate_callee (f := 11) rfl ?_); refine goesL_ (some 45) rfl rfl Try.func11 (by kernel_rfl) rfl #[.slice Ao38 y281.length co38] rfl (by (try simp only [List.map_toArray, List.map_cons, List.map_nil]); first | done | rfl | (simp only [List.length_drop, List.length_take]; rfl)) ?_; (with_reducible refine (parapetref02_Seal.calls k _ _ y281 t284 _ ?side1 ?side2 A12.out).mono ?_); (case side1 => repeat (first | exact (Kd.R_reads' HO283.out).2.2 | (with_reducible refine Kd.C_alloc ?_ _) | (with_reducible refine Kd.C_drewN ?_ _) | (with_reducible refine Kd.C_drew ?_))); (case side2 => exact (Kd.R_reads' HO283.out).2.1); rintro e w39 ⟨v285, rfl, ho0, hb⟩; refine ⟨_, rfl, ?_⟩; have n0_ := Aside0.mk (Kd.R_elder' (by (with_reducible repeat (first | apply Kd.R_alloc | apply Kd.R_drewN | apply Kd.R_drew)); exact HO259.out) (Kd.R_base ho0) hb); have n1_ := Aside0.mk (Kd.R_elder' (by (with_reducible repeat (first | apply Kd.R_alloc | apply Kd.R_drewN | apply Kd.R_drew)); exact HO265.out) (Kd.R_base ho0) hb); have n2_ := Aside0.mk (Kd.R_elder' (by (with_reducible repeat (first | apply Kd.R_alloc | apply Kd.R_drewN | apply Kd.R_drew)); exact HO271.out) (Kd.R_base ho0) hb); have n3_ := Aside0.mk (Kd.R_elder' (by (with_reducible repeat (first | apply Kd.R_alloc | apply Kd.R_drewN | apply Kd.R_drew)); exact HO277.out) (Kd.R_base ho0) hb); have n4_ := Aside0.mk (Kd.R_elder' (by (with_reducible repeat (first | apply Kd.R_alloc | apply Kd.R_drewN | apply Kd.R_drew)); exact HO283.out) (Kd.R_base ho0) hb); have n5_ := Aside0.mk (Kd.R_lower (Kd.R_new' (Kd.R_new' (Kd.R_new' (Kd.R_new' (Kd.R_new' ho0 (Kd.R_lt (by (with_reducible repeat (first | apply Kd.R_alloc | apply Kd.R_drewN | apply Kd.R_drew)); exact HO259.out))) (Kd.R_lt (by (with_reducible repeat (first | apply Kd.R_alloc | apply Kd.R_drewN | apply Kd.R_drew)); exact HO265.out))) (Kd.R_lt (by (with_reducible repeat (first | apply Kd.R_alloc | apply Kd.R_drewN | apply Kd.R_drew)); exact HO271.out))) (Kd.R_lt (by (with_reducible repeat (first | apply Kd.R_alloc | apply Kd.R_drewN | apply Kd.R_drew)); exact HO277.out))) (Kd.R_lt (by (with_reducible repeat (first | apply Kd.R_alloc | apply Kd.R_drewN | apply Kd.R_drew)); exact HO283.out))) (below_size (by repeat (first | (with_reducible first | exact HB.out | apply below_alloc | apply pw_below_drewN | apply below_drew1 | refine below_set ?_ GE252.out) | exact HB.out)))); have n6_ := Aside0.mk (blk_below (g := gb252) (o := .cells #[.int .i64 a0_0, .int .u32 a0_1, .int .u32 a0_2, .int .u32 a0_3, .int .i64 a0_4, .slice A0_5 l0_5.length c0_5] 29 (0, 0)) (by (with_reducible repeat (first | refine blk_drewN ?_ _ | refine blk_drew ?_ | refine blk_alloc ?_ _)); exact BK252.out) hb); have n7_ := Aside0.mk (below_step (by repeat (first | (with_reducible first | exact HB.out | apply below_alloc | apply pw_below_drewN | apply below_drew1 | refine below_set ?_ GE252.out) | exact HB.out)) hb); clear HO259; clear HO265; clear HO271; clear HO277; clear HO283; clear BK252; clear HB; have HO259 := n0_; have HO265 := n1_; have HO271 := n2_; have HO277 := n3_; have HO283 := n4_; have HO286 := n5_; have BK252 := n6_; have HB := n7_; clear n0_ n1_ n2_ n3_ n4_ n5_ n6_ n7_; (try clear hb); (try clear hb2); (try clear hk); (try clear hi); (try clear ho0)))
              go_ret2
              exact ⟨_, by first | rfl | (simp [errW_none, errW_some] <;> rfl) | (simp [*, errW_none, errW_some] <;> rfl), by (with_reducible repeat (first | apply Kd.R_alloc | apply Kd.R_drewN | apply Kd.R_drew)); exact Kd.R_mono HO286.out (fun _ hk => trivial), by repeat (first | (with_reducible first | exact HB.out | apply below_alloc | apply pw_below_drewN | apply below_drew1 | refine below_set ?_ GE252.out) | exact HB.out)⟩
            · rw [if_neg c11] at H
              exact absurd H (by simp)
          · rw [if_neg c10] at H
            exact absurd H (by simp)
        · rw [if_neg c9] at H
          exact absurd H (by simp)
      · rw [if_neg c7] at H
        exact absurd H (by simp)
    · rw [if_neg c5] at H
      exact absurd H (by simp)
  · rw [if_neg c3] at H
    have c3b0 : (t253 == 0) = false := beq_eq_false_iff_ne.mpr c3
    have c3b1 : (t253 != 0) = true := bne_iff_ne.mpr c3
    simp only [Option.some.injEq, Prod.mk.injEq] at H
    obtain ⟨rfl, rfl⟩ := H
    go_enter Try.func18, Try.ntmps18
    go_wp2_with (first | ((with_reducible refine gate_dst (N := 1) rfl ?_); refine box_event ?hg (N := 1) ?hd (cs := #[.int .i64 a0_0, .int .u32 a0_1, .int .u32 a0_2, .int .u32 a0_3, .int .i64 a0_4, .slice A0_5 l0_5.length c0_5]) (t := 29) ?hr ?_; (case hd => rfl); (case hg => rfl); (case hr => first | (go_simp; done) | (go_simp; rfl)); intro gb252 hg w40 hbox hb; have n0_ := Aside0.mk (below_step (by repeat (first | (with_reducible first | exact HB.out | apply below_alloc | apply pw_below_drewN | apply below_drew1) | exact HB.out)) hb); have n1_ := Aside0.mk (hbox); have n2_ := Aside0.mk ((by rw [hg]; exact (below_size (by repeat (first | (with_reducible first | exact HB.out | apply below_alloc | apply pw_below_drewN | apply below_drew1) | exact HB.out))) : w.heap.size ≤ gb252)); have n3_ := Aside0.mk ((by rw [hg]; exact (below_size (by repeat (first | (with_reducible first | exact HB.out | apply below_alloc | apply pw_below_drewN | apply below_drew1) | exact HB.out))) : w.heap.size ≤ gb252)); clear HB; have HB := n0_; have BK252 := n1_; have GW252 := n2_; have GE252 := n3_; clear n0_ n1_ n2_ n3_; clear hb hbox hg; have hcz41_0 : w40.cell? ⟨gb252, 0, none⟩ = some (.int .i64 a0_0) := (blk_cell BK252.out 0).trans rfl; have hcz41_1 : w40.cell? ⟨gb252, 1, none⟩ = some (.int .u32 a0_1) := (blk_cell BK252.out 1).trans rfl; have hcz41_2 : w40.cell? ⟨gb252, 2, none⟩ = some (.int .u32 a0_2) := (blk_cell BK252.out 2).trans rfl; have hcz41_3 : w40.cell? ⟨gb252, 3, none⟩ = some (.int .u32 a0_3) := (blk_cell BK252.out 3).trans rfl; have hcz41_4 : w40.cell? ⟨gb252, 4, none⟩ = some (.int .i64 a0_4) := (blk_cell BK252.out 4).trans rfl; have hcz41_5 : w40.cell? ⟨gb252, 5, none⟩ = some (.slice A0_5 l0_5.length c0_5) := (blk_cell BK252.out 5).trans rfl; have hfz41_0 := blk_frozen BK252.out 0; have hfz41_1 := blk_frozen BK252.out 1; have hfz41_2 := blk_frozen BK252.out 2; have hfz41_3 := blk_frozen BK252.out 3; have hfz41_4 := blk_frozen BK252.out 4; have hfz41_5 := blk_frozen BK252.out 5) | ((with_reducible refine gate_callee (f := 37) rfl ?_); refine goesL_ (some 7) rfl rfl Try.func37 (by kernel_rfl) rfl #[.agg #[.int .i64 a0_0, .int .u32 a0_1, .int .u32 a0_2, .int .u32 a0_3, .int .i64 a0_4, .slice A0_5 l0_5.length c0_5]] rfl (by (try simp only [List.map_toArray, List.map_cons, List.map_nil]); first | done | rfl | (simp only [List.length_drop, List.length_take]; rfl)) ?_; (with_reducible refine (parapetref04_Lawful.calls k a0_0 a0_1 a0_2 a0_3 a0_4 _ _ l0_5 t253 _ ?side1 ?side2 A2.out).mono ?_); (case side1 => repeat (first | exact (Kd.C_below HR0_5.out HB.out) | (with_reducible refine Kd.C_alloc ?_ _) | (with_reducible refine Kd.C_drewN ?_ _) | (with_reducible refine Kd.C_drew ?_))); (case side2 => exact HC0_5.out); rintro e w42 ⟨rfl, hb⟩; refine ⟨_, rfl, ?_⟩; have n0_ := Aside0.mk (blk_below (g := gb252) (o := .cells #[.int .i64 a0_0, .int .u32 a0_1, .int .u32 a0_2, .int .u32 a0_3, .int .i64 a0_4, .slice A0_5 l0_5.length c0_5] 29 (0, 0)) (by (with_reducible repeat (first | refine blk_drewN ?_ _ | refine blk_drew ?_ | refine blk_alloc ?_ _)); exact BK252.out) hb); have n1_ := Aside0.mk (below_step (by repeat (first | (with_reducible first | exact HB.out | apply below_alloc | apply pw_below_drewN | apply below_drew1 | refine below_set ?_ GE252.out) | exact HB.out)) hb); clear BK252; clear HB; have BK252 := n0_; have HB := n1_; clear n0_ n1_; (try clear hb); (try clear hb2); (try clear hk); (try clear hi)))
    go_ret2
    exact ⟨_, by first | rfl | (simp [errW_none, errW_some] <;> rfl) | (simp [*, errW_none, errW_some] <;> rfl), by first | exact Kd.R_nil _ _ _ _ _ | exact Kd.N_nil _ _ _ _ _ | exact Kd.V_nil _ _ _ _ _ | exact Kd.Q_nil _ _ _ _ _ | exact Kd.S_nil _ _ _ _ _, by repeat (first | (with_reducible first | exact HB.out | apply below_alloc | apply pw_below_drewN | apply below_drew1 | refine below_set ?_ GE252.out) | exact HB.out)⟩

mutual
def parapethand_Burst.l0 : Nat → List Int → Int → Int → Int → Int → Option (List Int × Bool)
  | 0, _, _, _, _, _ => none
  | k + 1, x0, x1, x2, x8, x9 => if x9 < 32 then (if 0 ≤ x9 then (if (Go.bits .and .u32 (shr .u32 x2 x9) 1) = 0 then (parapethand_Burst.l0 k x0 x1 x2 x8 (wrap64 (x9 + 1))) else (parapethand_Burst.l0 k x0 x1 x2 (wrap64 (x9 + 1)) (wrap64 (x9 + 1)))) else (none)) else (if x8 = 0 then (parapethand_Burst.j1 k x0 x1 x2 x8 (wrap64 ((wrap64 ((wrap64 (8 * (x0.length : Int))) - x8)) + 1)) true) else (parapethand_Burst.j1 k x0 x1 x2 x8 (wrap64 ((wrap64 ((wrap64 (8 * (x0.length : Int))) - x8)) + 1)) (decide ((wrap64 ((wrap64 ((wrap64 (8 * (x0.length : Int))) - x8)) + 1)) < 1))))
def parapethand_Burst.j1 : Nat → List Int → Int → Int → Int → Int → Bool → Option (List Int × Bool)
  | 0, _, _, _, _, _, _ => none
  | k + 1, x0, x1, x2, x8, x10, x37 => if x37 = true then (some (([] : List Int), false)) else (if (IntKind.u64.wrap (x10)) = 0 then (none) else ((some (([] : List Int) : List Int)).bind fun y287 => (if y287.length + x0.length < 140737488355328 then (parapethand_Burst.l1 k x2 x8 (wrap64 (Int.tmod (IntKind.u64.wrap (x1)) (IntKind.u64.wrap (x10)))) (y287 ++ x0) 0) else (none))))
def parapethand_Burst.l1 : Nat → Int → Int → Int → List Int → Int → Option (List Int × Bool)
  | 0, _, _, _, _, _ => none
  | k + 1, x2, x8, x11, x12, x13 => if x13 < x8 then (if 0 ≤ (wrap64 ((wrap64 (x8 - 1)) - x13)) then (if (Go.bits .and .u32 (shr .u32 x2 (wrap64 ((wrap64 (x8 - 1)) - x13))) 1) = 0 then (parapethand_Burst.l1 k x2 x8 x11 x12 (wrap64 (x13 + 1))) else (if 0 ≤ (wrap64 (Int.tdiv (wrap64 (x11 + x13)) 8)) then (if (wrap64 (Int.tdiv (wrap64 (x11 + x13)) 8)) < (x12.length : Int) then (if 0 ≤ (Int.tmod (wrap64 (x11 + x13)) 8) then (parapethand_Burst.l1 k x2 x8 x11 (x12.set ((wrap64 (Int.tdiv (wrap64 (x11 + x13)) 8)) : Int).toNat (Go.bits .xor .u8 (rd x12 (wrap64 (Int.tdiv (wrap64 (x11 + x13)) 8))) (shr .u8 128 (Int.tmod (wrap64 (x11 + x13)) 8)))) (wrap64 (x13 + 1))) else (none)) else (none)) else (none))) else (none)) else (some (x12, true))
end
def parapethand_Burst.f (k : Nat) (l0 : List Int) (a1 : Int) (a2 : Int) : Option (List Int × Bool) := parapethand_Burst.l0 k l0 a1 a2 0 0
theorem parapethand_Burst.mono_l : ∀ k, (∀ y0 y1 y2 y3 y4, LeO (parapethand_Burst.l0 k y0 y1 y2 y3 y4) (parapethand_Burst.l0 (k + 1) y0 y1 y2 y3 y4)) ∧ (∀ y0 y1 y2 y3 y4 y5, LeO (parapethand_Burst.j1 k y0 y1 y2 y3 y4 y5) (parapethand_Burst.j1 (k + 1) y0 y1 y2 y3 y4 y5)) ∧ (∀ y0 y1 y2 y3 y4, LeO (parapethand_Burst.l1 k y0 y1 y2 y3 y4) (parapethand_Burst.l1 (k + 1) y0 y1 y2 y3 y4))
  | 0 => ⟨fun _ _ _ _ _ r h => by simp [parapethand_Burst.l0] at h, fun _ _ _ _ _ _ r h => by simp [parapethand_Burst.j1] at h, fun _ _ _ _ _ r h => by simp [parapethand_Burst.l1] at h⟩
  | k + 1 => by
    obtain ⟨ih0, ih1, ih2⟩ := parapethand_Burst.mono_l k
    refine ⟨?_, ?_, ?_⟩
    · intro y0 y1 y2 y3 y4
      unfold parapethand_Burst.l0
      repeat' first
      | (with_reducible exact ih0 _ _ _ _ _)
      | (with_reducible exact ih1 _ _ _ _ _ _)
      | (with_reducible exact ih2 _ _ _ _ _)
      | (with_reducible exact LeO.refl _)
      | (with_reducible exact LeO.none _)
      | (with_reducible refine LeO.ite ?_ ?_)
      | (with_reducible refine LeO.bind ?_ (fun _ => ?_))
      | exact ih0 _ _ _ _ _
      | exact ih1 _ _ _ _ _ _
      | exact ih2 _ _ _ _ _
      | exact LeO.none _
      | refine LeO.ite ?_ ?_
      | refine LeO.bind ?_ (fun _ => ?_)
    · intro y0 y1 y2 y3 y4 y5
      unfold parapethand_Burst.j1
      repeat' first
      | (with_reducible exact ih0 _ _ _ _ _)
      | (with_reducible exact ih1 _ _ _ _ _ _)
      | (with_reducible exact ih2 _ _ _ _ _)
      | (with_reducible exact LeO.refl _)
      | (with_reducible exact LeO.none _)
      | (with_reducible refine LeO.ite ?_ ?_)
      | (with_reducible refine LeO.bind ?_ (fun _ => ?_))
      | exact ih0 _ _ _ _ _
      | exact ih1 _ _ _ _ _ _
      | exact ih2 _ _ _ _ _
      | exact LeO.none _
      | refine LeO.ite ?_ ?_
      | refine LeO.bind ?_ (fun _ => ?_)
    · intro y0 y1 y2 y3 y4
      unfold parapethand_Burst.l1
      repeat' first
      | (with_reducible exact ih0 _ _ _ _ _)
      | (with_reducible exact ih1 _ _ _ _ _ _)
      | (with_reducible exact ih2 _ _ _ _ _)
      | (with_reducible exact LeO.refl _)
      | (with_reducible exact LeO.none _)
      | (with_reducible refine LeO.ite ?_ ?_)
      | (with_reducible refine LeO.bind ?_ (fun _ => ?_))
      | exact ih0 _ _ _ _ _
      | exact ih1 _ _ _ _ _ _
      | exact ih2 _ _ _ _ _
      | exact LeO.none _
      | refine LeO.ite ?_ ?_
      | refine LeO.bind ?_ (fun _ => ?_)
theorem parapethand_Burst.mono : ∀ a0 a1 a2 k, LeO (parapethand_Burst.f k a0 a1 a2) (parapethand_Burst.f (k + 1) a0 a1 a2) := by
  intro a0 a1 a2 k
  obtain ⟨ih0, ih1, ih2⟩ := parapethand_Burst.mono_l k
  unfold parapethand_Burst.f
  repeat' first
      | (with_reducible exact ih0 _ _ _ _ _)
      | (with_reducible exact ih1 _ _ _ _ _ _)
      | (with_reducible exact ih2 _ _ _ _ _)
      | (with_reducible exact LeO.refl _)
      | (with_reducible exact LeO.none _)
      | (with_reducible refine LeO.ite ?_ ?_)
      | (with_reducible refine LeO.bind ?_ (fun _ => ?_))
      | exact ih0 _ _ _ _ _
      | exact ih1 _ _ _ _ _ _
      | exact ih2 _ _ _ _ _
      | exact LeO.none _
      | refine LeO.ite ?_ ?_
      | refine LeO.bind ?_ (fun _ => ?_)
def parapethand_Burst.T17 : Bool × List (List Nat × List Nat) := (true, [([], []), ([], []), ([1], [1]), ([0, 2], [0, 2]), ([3], [3]), ([], []), ([5], [5]), ([6], [6]), ([4, 7], [4, 7]), ([0, 2, 0, 1, 2, 3, 4, 5, 6, 7, 8], [0, 2]), ([9, 8, 0, 1, 2, 3, 4, 5, 6, 7, 8], [8, 9])])
def parapethand_Burst.B17 : List Nat := [0, 0, 2, 7, 15, 0, 32, 96, 255, 511, 1023]
theorem parapethand_Burst.tab17 : rtab .any (opsOf Try.f19 17) = parapethand_Burst.T17 := by kernel_rfl
theorem parapethand_Burst.bits17 : waitsOk parapethand_Burst.T17.2 parapethand_Burst.B17 = true := by kernel_rfl
set_option maxHeartbeats 8000000 in
set_option maxRecDepth 100000 in
theorem parapethand_Burst.calls (k : Nat) (A0 : Option Addr) (c0 : Nat) (l0 : List Int) (a1 : Int) (a2 : Int) (r1 : List Int) (r2 : Bool) (w : World) (hr0 : Kd.C (Kd.int .u8) w A0 l0.length l0) (hc0 : l0.length ≤ c0) (h : parapethand_Burst.f k l0 a1 a2 = some (r1, r2)) :
    Calls Try.prog 19 #[.slice A0 l0.length c0, .int .i64 a1, .int .u32 a2] w fun e w' => ∃ v0_ : Value, e = .returned (.tuple #[v0_, .bool r2]) ∧ Kd.R (Kd.int .u8) 5 w' w.heap.size (fun _ => True) v0_ r1 ∧ Below w.heap.size w w' := by
  have HR0 := Aside0.mk hr0
  have HC0 := Aside0.mk hc0
  clear hr0 hc0
  have HB := Aside0.mk (Below.refl w.heap.size w)
  have H : (parapethand_Burst.l0 k l0 a1 a2 0 0) = some (r1, r2) := h
  clear h
  have H' := Aside0.mk H
  clear H
  go_enter Try.func19, Try.ntmps19
  go_wp2
  go_loopg [8, 9] k (fun kq v8 v9 w' => ∃ (x8_1 : Int) (x9_1 : Int), v8 = .int .i64 x8_1 ∧ v9 = .int .i64 x9_1 ∧ Aside0 (parapethand_Burst.l0 kq l0 a1 a2 x8_1 x9_1 = some (r1, r2)) ∧ Aside0 (kq ≤ k) ∧ Aside0 (Below w.heap.size w w'))
  case atStart => exact ⟨(0), (0), (by first | rfl | (simp; done) | (simp [*]; done)), (by first | rfl | (simp; done) | (simp [*]; done)), H', ⟨Nat.le_refl _⟩, ⟨by repeat (first | (with_reducible first | exact HB.out | apply below_alloc | apply pw_below_drewN | apply below_drew1) | exact HB.out)⟩⟩
  case round =>
    clear H'
    try clear c1
    try clear p2
    obtain ⟨x8_1, x9_1, rfl, rfl, HA, HK1, HB⟩ := hrel
    cases gk with
    | zero => exact absurd HA.out (by simp [parapethand_Burst.l0])
    | succ k1 =>
      have H := HA.out
      clear HA
      simp only [parapethand_Burst.l0] at H
      by_cases c4 : x9_1 < 32
      · rw [if_pos c4] at H
        have c4b0 : decide (x9_1 < 32) = true := decide_eq_true c4
        clear c4
        by_cases c5 : 0 ≤ x9_1
        · rw [if_pos c5] at H
          have c5b0 := eq_true c5
          have c5b1 : decide (0 ≤ x9_1) = true := decide_eq_true c5
          clear c5
          obtain ⟨ji6, hji6⟩ : ∃ j_ : Int, (shr .u32 a2 x9_1) = j_ := ⟨_, rfl⟩
          replace H : (if (Go.bits .and .u32 (ji6) 1) = 0 then (parapethand_Burst.l0 k1 l0 a1 a2 x8_1 (wrap64 (x9_1 + 1))) else (parapethand_Burst.l0 k1 l0 a1 a2 (wrap64 (x9_1 + 1)) (wrap64 (x9_1 + 1)))) = some (r1, r2) := by first | (rw [hji6] at H; exact H) | (simp only [hji6] at H ⊢; exact H)
          have hji6_ : (a2 / 2 ^ min x9_1.toNat 32) = ji6 := hji6
          have hji6z : x9_1 ≤ 32 → (a2 / 2 ^ x9_1.toNat) = ji6 := shr_small hji6
          by_cases c7 : (Go.bits .and .u32 (ji6) 1) = 0
          · rw [if_pos c7] at H
            have c7b0 : ((Go.bits .and .u32 (ji6) 1) == 0) = true := beq_iff_eq.mpr c7
            have c7b1 : ((Go.bits .and .u32 (ji6) 1) != 0) = false := bne_eq_false_iff_eq.mpr c7
            clear c7
            have H' := Aside0.mk H
            clear H
            go_wp2
            go_roundg k1
            case measure => have := HK1.out; omega
            case rel => exact ⟨(x8_1), (wrap64 (x9_1 + 1)), (by first | rfl | (simp; done) | (simp [*]; done)), (by first | rfl | (simp; done) | (simp [*]; done)), H', ⟨by have := HK1.out; omega⟩, ⟨by repeat (first | (with_reducible first | exact HB.out | apply below_alloc | apply pw_below_drewN | apply below_drew1) | exact HB.out)⟩⟩
          · rw [if_neg c7] at H
            have c7b0 : ((Go.bits .and .u32 (ji6) 1) == 0) = false := beq_eq_false_iff_ne.mpr c7
            have c7b1 : ((Go.bits .and .u32 (ji6) 1) != 0) = true := bne_iff_ne.mpr c7
            have H' := Aside0.mk H
            clear H
            go_wp2
            go_roundg k1
            case measure => have := HK1.out; omega
            case rel => exact ⟨(wrap64 (x9_1 + 1)), (wrap64 (x9_1 + 1)), (by first | rfl | (simp; done) | (simp [*]; done)), (by first | rfl | (simp; done) | (simp [*]; done)), H', ⟨by have := HK1.out; omega⟩, ⟨by repeat (first | (with_reducible first | exact HB.out | apply below_alloc | apply pw_below_drewN | apply below_drew1) | exact HB.out)⟩⟩
        · rw [if_neg c5] at H
          exact absurd H (by simp)
      · rw [if_neg c4] at H
        have c4b0 : decide (x9_1 < 32) = false := decide_eq_false c4
        clear c4
        have HC8 := Aside0.mk H
        clear H
        go_upto_region 8 with (fail)
        go_cut [37] (fun v37 wc => ∃ (kq : Nat) (x37_7 : Bool), v37 = .bool x37_7 ∧ Aside0 (parapethand_Burst.j1 kq l0 a1 a2 x8_1 (wrap64 ((wrap64 ((wrap64 (8 * (l0.length : Int))) - x8_1)) + 1)) x37_7 = some (r1, r2)) ∧ Aside0 (kq ≤ k1) ∧ Aside0 (Below w.heap.size w wc))
        case first =>
          have H := HC8.out
          clear HC8
          by_cases c9 : x8_1 = 0
          · rw [if_pos c9] at H
            have c9b0 : (x8_1 == 0) = true := beq_iff_eq.mpr c9
            have c9b1 : (x8_1 != 0) = false := bne_eq_false_iff_eq.mpr c9
            clear c9
            (first | rw [c9b0] | (simp only [i64_w, i32_w]; rw [c9b0]) | skip)
            have H' := Aside0.mk H
            clear H
            go_wp2
            go_meet
            case rel => exact ⟨_, (true), (by first | rfl | (simp; done) | (simp [*]; done)), H', ⟨by have := HK1.out; first | omega | exact Nat.le_refl _⟩, ⟨by repeat (first | (with_reducible first | exact HB.out | apply below_alloc | apply pw_below_drewN | apply below_drew1) | exact HB.out)⟩⟩
          · rw [if_neg c9] at H
            have c9b0 : (x8_1 == 0) = false := beq_eq_false_iff_ne.mpr c9
            have c9b1 : (x8_1 != 0) = true := bne_iff_ne.mpr c9
            (first | rw [c9b0] | (simp only [i64_w, i32_w]; rw [c9b0]) | skip)
            have H' := Aside0.mk H
            clear H
            go_wp2
            go_meet
            case rel => exact ⟨_, (decide ((wrap64 ((wrap64 ((wrap64 (8 * (l0.length : Int))) - x8_1)) + 1)) < 1)), (by first | rfl | (simp; done) | (simp [*]; done)), H', ⟨by have := HK1.out; first | omega | exact Nat.le_refl _⟩, ⟨by repeat (first | (with_reducible first | exact HB.out | apply below_alloc | apply pw_below_drewN | apply below_drew1) | exact HB.out)⟩⟩
        case rest =>
          clear HC8
          try clear c1
          try clear p2
          try clear c4
          try clear c4b0
          try clear c5
          try clear c5b0
          try clear c5b1
          try clear p6
          try clear c7
          try clear c7b0
          try clear c7b1
          try clear c9
          try clear c9b0
          try clear c9b1
          try clear p2
          obtain ⟨kq, x37_7, rfl, HA, HJ7, HB⟩ := hcut
          cases kq with
          | zero => exact absurd HA.out (by simp [parapethand_Burst.j1])
          | succ kj7 =>
            have H := HA.out
            clear HA
            simp only [parapethand_Burst.j1] at H
            by_cases c10 : x37_7 = true
            · subst c10
              have H1 : (some (([] : List Int), false)) = some (r1, r2) := by rw [if_pos rfl] at H; exact H
              clear H
              have H := H1
              clear H1
              simp only [Option.some.injEq, Prod.mk.injEq] at H
              obtain ⟨rfl, rfl⟩ := H
              go_wp2
              go_ret2
              exact ⟨_, by first | rfl | (simp [errW_none, errW_some] <;> rfl) | (simp [*, errW_none, errW_some] <;> rfl), by first | exact Kd.R_nil _ _ _ _ _ | exact Kd.N_nil _ _ _ _ _ | exact Kd.V_nil _ _ _ _ _ | exact Kd.Q_nil _ _ _ _ _ | exact Kd.S_nil _ _ _ _ _, by repeat (first | (with_reducible first | exact HB.out | apply below_alloc | apply pw_below_drewN | apply below_drew1) | exact HB.out)⟩
            · replace c10 := Bool.eq_false_iff.mpr c10
              subst c10
              have H1 : (if (IntKind.u64.wrap ((wrap64 ((wrap64 ((wrap64 (8 * (l0.length : Int))) - x8_1)) + 1)))) = 0 then (none) else ((some (([] : List Int) : List Int)).bind fun y287 => (if y287.length + l0.length < 140737488355328 then (parapethand_Burst.l1 kj7 a2 x8_1 (wrap64 (Int.tmod (IntKind.u64.wrap (a1)) (IntKind.u64.wrap ((wrap64 ((wrap64 ((wrap64 (8 * (l0.length : Int))) - x8_1)) + 1)))))) (y287 ++ l0) 0) else (none)))) = some (r1, r2) := by rw [if_neg (show ¬ (false = true) by decide)] at H; exact H
              clear H
              have H := H1
              clear H1
              by_cases c11 : (IntKind.u64.wrap ((wrap64 ((wrap64 ((wrap64 (8 * (l0.length : Int))) - x8_1)) + 1)))) = 0
              · rw [if_pos c11] at H
                exact absurd H (by simp)
              · rw [if_neg c11] at H
                have c11b0 : ((IntKind.u64.wrap ((wrap64 ((wrap64 ((wrap64 (8 * (l0.length : Int))) - x8_1)) + 1)))) == 0) = false := beq_eq_false_iff_ne.mpr c11
                have c11b1 : ((IntKind.u64.wrap ((wrap64 ((wrap64 ((wrap64 (8 * (l0.length : Int))) - x8_1)) + 1)))) != 0) = true := bne_iff_ne.mpr c11
                obtain ⟨y287, hy287⟩ : ∃ y_ : List Int, y_ = (([] : List Int)) := ⟨_, rfl⟩
                replace H : (if y287.length + l0.length < 140737488355328 then (parapethand_Burst.l1 kj7 a2 x8_1 (wrap64 (Int.tmod (IntKind.u64.wrap (a1)) (IntKind.u64.wrap ((wrap64 ((wrap64 ((wrap64 (8 * (l0.length : Int))) - x8_1)) + 1)))))) (y287 ++ l0) 0) else (none)) = some (r1, r2) := by first | (rw [hy287]; with_reducible exact H) | (have H2_ := (Option.bind_some _ _).symm.trans H; rw [hy287]; with_reducible exact H2_) | (have H2_ := (Option.bind_some _ _).symm.trans H; with_reducible exact H2_) | with_reducible exact H | (rw [hy287]; exact H) | exact H
                have Ny287 := Aside0.mk hy287
                clear hy287
                by_cases c12 : y287.length + l0.length < 140737488355328
                · rw [if_pos c12] at H
                  have LMc12 := Aside0.mk c12
                  clear c12
                  obtain ⟨y290, hy290⟩ : ∃ y_ : List Int, y_ = (y287 ++ l0) := ⟨_, rfl⟩
                  replace H : (parapethand_Burst.l1 kj7 a2 x8_1 (wrap64 (Int.tmod (IntKind.u64.wrap (a1)) (IntKind.u64.wrap ((wrap64 ((wrap64 ((wrap64 (8 * (l0.length : Int))) - x8_1)) + 1)))))) y290 0) = some (r1, r2) := by first | (rw [hy290]; with_reducible exact H) | (have H2_ := (Option.bind_some _ _).symm.trans H; rw [hy290]; with_reducible exact H2_) | (have H2_ := (Option.bind_some _ _).symm.trans H; with_reducible exact H2_) | with_reducible exact H | (rw [hy290]; exact H) | exact H
                  have Ny290 := Aside0.mk hy290
                  clear hy290
                  have H' := Aside0.mk H
                  clear H
                  go_wp2_with (first | ((with_reducible refine gate_dst (N := 44) rfl ?_); refine Kd.R_lit (Kd.int .u8) _ 5 ?hg (N := 44) ?hd (xs := ([] : List Int)) (inner := []) (ok := fun _ => True) (okp := fun _ => True) ?hr ?hp (fun _ hk => hk) trivial (Below.refl _ _) (Nat.le_refl _) (by simp) ?_; (case hd => rfl); (case hg => rfl); (case hr => first | (go_simp; done) | (go_simp; rfl)); (case hp => exact (Reps.none _ _)); intro v288 w13 ho14 hb hg_ hnew_; clear hg_ hnew_; (first | rw [← Ny287.out] at ho14 | (simp only [Int.reduceToNat] at ho14; rw [← Ny287.out] at ho14)); have n0_ := Aside0.mk (Kd.R_lower ho14 (below_size (by repeat (first | (with_reducible first | exact HB.out | apply below_alloc | apply pw_below_drewN | apply below_drew1) | exact HB.out)))); have n1_ := Aside0.mk (below_step (by repeat (first | (with_reducible first | exact HB.out | apply below_alloc | apply pw_below_drewN | apply below_drew1) | exact HB.out)) hb); clear HB; have HO289 := n0_; have HB := n1_; clear n0_ n1_; clear hb ho14) | ((with_reducible refine gate_builtin (b := .append) (xs := #[.tmp 44, .tmp 45]) rfl ?_); at_builtin; refine Kd.R_append_rows (Kd.int .u8) (w0 := w) w.heap.size rfl (.tmp 44) (.tmp 45) 22 5 (.int .u8 0) 1 rfl Try.underlying22 info5 rfl (by decide) (by omega) v288 y287 l0 _ _ _ (fun _ => True) (fun _ => False) rfl rfl ?aO ?aR (fun _ _ h => h) (fun _ h => h.elim) ?aF ?aB ?aS ?aL ?_; (case aR => repeat (first | exact (Kd.C_below HR0.out HB.out) | (with_reducible refine Kd.C_alloc ?_ _) | (with_reducible refine Kd.C_drewN ?_ _) | (with_reducible refine Kd.C_drew ?_))); (case aB => exact (by repeat (first | (with_reducible first | exact HB.out | apply below_alloc | apply pw_below_drewN | apply below_drew1) | exact HB.out))); (case aF => exact (fun _ _ => trivial)); (case aO => exact (by (with_reducible repeat (first | apply Kd.R_alloc | apply Kd.R_drewN | apply Kd.R_drew)); exact HO289.out)); (case aS => exact (below_size (by repeat (first | (with_reducible first | exact HB.out | apply below_alloc | apply pw_below_drewN | apply below_drew1) | exact HB.out)))); (case aL => have := LMc12.out; omega); intro v291 w15 ho hb hg hat; rw [← Ny290.out] at ho; have n0_ := Aside0.mk (hb); have n1_ := Aside0.mk (ho); clear HB; clear HO289; have HB := n0_; have HO292 := n1_; clear n0_ n1_; clear ho hb hg hat))
                  go_loopg [13] kj7 (fun kq v13 w' => ∃ (x12_3 : List Int) (x13_3 : Int), v13 = .int .i64 x13_3 ∧ Aside0 (parapethand_Burst.l1 kq a2 x8_1 (wrap64 (Int.tmod (IntKind.u64.wrap (a1)) (IntKind.u64.wrap ((wrap64 ((wrap64 ((wrap64 (8 * (l0.length : Int))) - x8_1)) + 1)))))) x12_3 x13_3 = some (r1, r2)) ∧ Aside0 (kq ≤ kj7) ∧ Aside0 (Kd.R (Kd.int .u8) 5 w' w.heap.size (fun _ => True) v291 x12_3) ∧ Aside0 (Below w.heap.size w w'))
                  case atStart => exact ⟨(y290), (0), (by first | rfl | (simp; done) | (simp [*]; done)), H', ⟨Nat.le_refl _⟩, ⟨by (with_reducible repeat (first | apply Kd.R_alloc | apply Kd.R_drewN | apply Kd.R_drew)); exact HO292.out⟩, ⟨by repeat (first | (with_reducible first | exact HB.out | apply below_alloc | apply pw_below_drewN | apply below_drew1) | exact HB.out)⟩⟩
                  case round =>
                    clear H'
                    try clear c1
                    try clear p2
                    try clear c4
                    try clear c4b0
                    try clear c5
                    try clear c5b0
                    try clear c5b1
                    try clear p6
                    try clear c7
                    try clear c7b0
                    try clear c7b1
                    try clear c9
                    try clear c9b0
                    try clear c9b1
                    try clear c10
                    try clear c11
                    try clear c11b0
                    try clear c11b1
                    try clear c12
                    try clear p2
                    try clear p6
                    obtain ⟨x12_3, x13_3, rfl, HA, HK3, HO_12, HB⟩ := hrel
                    cases gk with
                    | zero => exact absurd HA.out (by simp [parapethand_Burst.l1])
                    | succ k3 =>
                      have H := HA.out
                      clear HA
                      simp only [parapethand_Burst.l1] at H
                      by_cases c16 : x13_3 < x8_1
                      · rw [if_pos c16] at H
                        have c16b0 : decide (x13_3 < x8_1) = true := decide_eq_true c16
                        clear c16
                        obtain ⟨ji17, hji17⟩ : ∃ j_ : Int, (wrap64 ((wrap64 (x8_1 - 1)) - x13_3)) = j_ := ⟨_, rfl⟩
                        replace H : (if 0 ≤ (ji17) then (if (Go.bits .and .u32 (shr .u32 a2 (ji17)) 1) = 0 then (parapethand_Burst.l1 k3 a2 x8_1 (wrap64 (Int.tmod (IntKind.u64.wrap (a1)) (IntKind.u64.wrap ((wrap64 ((wrap64 ((wrap64 (8 * (l0.length : Int))) - x8_1)) + 1)))))) x12_3 (wrap64 (x13_3 + 1))) else (if 0 ≤ (wrap64 (Int.tdiv (wrap64 ((wrap64 (Int.tmod (IntKind.u64.wrap (a1)) (IntKind.u64.wrap ((wrap64 ((wrap64 ((wrap64 (8 * (l0.length : Int))) - x8_1)) + 1)))))) + x13_3)) 8)) then (if (wrap64 (Int.tdiv (wrap64 ((wrap64 (Int.tmod (IntKind.u64.wrap (a1)) (IntKind.u64.wrap ((wrap64 ((wrap64 ((wrap64 (8 * (l0.length : Int))) - x8_1)) + 1)))))) + x13_3)) 8)) < (x12_3.length : Int) then (if 0 ≤ (Int.tmod (wrap64 ((wrap64 (Int.tmod (IntKind.u64.wrap (a1)) (IntKind.u64.wrap ((wrap64 ((wrap64 ((wrap64 (8 * (l0.length : Int))) - x8_1)) + 1)))))) + x13_3)) 8) then (parapethand_Burst.l1 k3 a2 x8_1 (wrap64 (Int.tmod (IntKind.u64.wrap (a1)) (IntKind.u64.wrap ((wrap64 ((wrap64 ((wrap64 (8 * (l0.length : Int))) - x8_1)) + 1)))))) (x12_3.set ((wrap64 (Int.tdiv (wrap64 ((wrap64 (Int.tmod (IntKind.u64.wrap (a1)) (IntKind.u64.wrap ((wrap64 ((wrap64 ((wrap64 (8 * (l0.length : Int))) - x8_1)) + 1)))))) + x13_3)) 8)) : Int).toNat (Go.bits .xor .u8 (rd x12_3 (wrap64 (Int.tdiv (wrap64 ((wrap64 (Int.tmod (IntKind.u64.wrap (a1)) (IntKind.u64.wrap ((wrap64 ((wrap64 ((wrap64 (8 * (l0.length : Int))) - x8_1)) + 1)))))) + x13_3)) 8))) (shr .u8 128 (Int.tmod (wrap64 ((wrap64 (Int.tmod (IntKind.u64.wrap (a1)) (IntKind.u64.wrap ((wrap64 ((wrap64 ((wrap64 (8 * (l0.length : Int))) - x8_1)) + 1)))))) + x13_3)) 8)))) (wrap64 (x13_3 + 1))) else (none)) else (none)) else (none))) else (none)) = some (r1, r2) := by first | (rw [hji17] at H; exact H) | (simp only [hji17] at H ⊢; exact H)
                        have hji17w : (IntKind.i64.wrap ((wrap64 (x8_1 - 1)) - x13_3)) = ji17 := (i64_w _).trans hji17
                        by_cases c18 : 0 ≤ (ji17)
                        · rw [if_pos c18] at H
                          have c18b0 := eq_true c18
                          have c18b1 : decide (0 ≤ (ji17)) = true := decide_eq_true c18
                          clear c18
                          obtain ⟨ji19, hji19⟩ : ∃ j_ : Int, (shr .u32 a2 (ji17)) = j_ := ⟨_, rfl⟩
                          replace H : (if (Go.bits .and .u32 (ji19) 1) = 0 then (parapethand_Burst.l1 k3 a2 x8_1 (wrap64 (Int.tmod (IntKind.u64.wrap (a1)) (IntKind.u64.wrap ((wrap64 ((wrap64 ((wrap64 (8 * (l0.length : Int))) - x8_1)) + 1)))))) x12_3 (wrap64 (x13_3 + 1))) else (if 0 ≤ (wrap64 (Int.tdiv (wrap64 ((wrap64 (Int.tmod (IntKind.u64.wrap (a1)) (IntKind.u64.wrap ((wrap64 ((wrap64 ((wrap64 (8 * (l0.length : Int))) - x8_1)) + 1)))))) + x13_3)) 8)) then (if (wrap64 (Int.tdiv (wrap64 ((wrap64 (Int.tmod (IntKind.u64.wrap (a1)) (IntKind.u64.wrap ((wrap64 ((wrap64 ((wrap64 (8 * (l0.length : Int))) - x8_1)) + 1)))))) + x13_3)) 8)) < (x12_3.length : Int) then (if 0 ≤ (Int.tmod (wrap64 ((wrap64 (Int.tmod (IntKind.u64.wrap (a1)) (IntKind.u64.wrap ((wrap64 ((wrap64 ((wrap64 (8 * (l0.length : Int))) - x8_1)) + 1)))))) + x13_3)) 8) then (parapethand_Burst.l1 k3 a2 x8_1 (wrap64 (Int.tmod (IntKind.u64.wrap (a1)) (IntKind.u64.wrap ((wrap64 ((wrap64 ((wrap64 (8 * (l0.length : Int))) - x8_1)) + 1)))))) (x12_3.set ((wrap64 (Int.tdiv (wrap64 ((wrap64 (Int.tmod (IntKind.u64.wrap (a1)) (IntKind.u64.wrap ((wrap64 ((wrap64 ((wrap64 (8 * (l0.length : Int))) - x8_1)) + 1)))))) + x13_3)) 8)) : Int).toNat (Go.bits .xor .u8 (rd x12_3 (wrap64 (Int.tdiv (wrap64 ((wrap64 (Int.tmod (IntKind.u64.wrap (a1)) (IntKind.u64.wrap ((wrap64 ((wrap64 ((wrap64 (8 * (l0.length : Int))) - x8_1)) + 1)))))) + x13_3)) 8))) (shr .u8 128 (Int.tmod (wrap64 ((wrap64 (Int.tmod (IntKind.u64.wrap (a1)) (IntKind.u64.wrap ((wrap64 ((wrap64 ((wrap64 (8 * (l0.length : Int))) - x8_1)) + 1)))))) + x13_3)) 8)))) (wrap64 (x13_3 + 1))) else (none)) else (none)) else (none))) = some (r1, r2) := by first | (rw [hji19] at H; exact H) | (simp only [hji19] at H ⊢; exact H)
                          have hji19_ : (a2 / 2 ^ min (ji17).toNat 32) = ji19 := hji19
                          have hji19z : (ji17) ≤ 32 → (a2 / 2 ^ (ji17).toNat) = ji19 := shr_small hji19
                          by_cases c20 : (Go.bits .and .u32 (ji19) 1) = 0
                          · rw [if_pos c20] at H
                            have c20b0 : ((Go.bits .and .u32 (ji19) 1) == 0) = true := beq_iff_eq.mpr c20
                            have c20b1 : ((Go.bits .and .u32 (ji19) 1) != 0) = false := bne_eq_false_iff_eq.mpr c20
                            clear c20
                            have H' := Aside0.mk H
                            clear H
                            go_wp2
                            go_roundg k3
                            case measure => have := HK1.out; have := HJ7.out; have := HK3.out; omega
                            case rel => exact ⟨(x12_3), (wrap64 (x13_3 + 1)), (by first | rfl | (simp; done) | (simp [*]; done)), H', ⟨by have := HK1.out; have := HJ7.out; have := HK3.out; omega⟩, ⟨by (with_reducible repeat (first | apply Kd.R_alloc | apply Kd.R_drewN | apply Kd.R_drew)); exact HO_12.out⟩, ⟨by repeat (first | (with_reducible first | exact HB.out | apply below_alloc | apply pw_below_drewN | apply below_drew1) | exact HB.out)⟩⟩
                          · rw [if_neg c20] at H
                            have c20b0 : ((Go.bits .and .u32 (ji19) 1) == 0) = false := beq_eq_false_iff_ne.mpr c20
                            have c20b1 : ((Go.bits .and .u32 (ji19) 1) != 0) = true := bne_iff_ne.mpr c20
                            obtain ⟨ji21, hji21⟩ : ∃ j_ : Int, (wrap64 (Int.tdiv (wrap64 ((wrap64 (Int.tmod (IntKind.u64.wrap (a1)) (IntKind.u64.wrap ((wrap64 ((wrap64 ((wrap64 (8 * (l0.length : Int))) - x8_1)) + 1)))))) + x13_3)) 8)) = j_ := ⟨_, rfl⟩
                            replace H : (if 0 ≤ (ji21) then (if (ji21) < (x12_3.length : Int) then (if 0 ≤ (Int.tmod (wrap64 ((wrap64 (Int.tmod (IntKind.u64.wrap (a1)) (IntKind.u64.wrap ((wrap64 ((wrap64 ((wrap64 (8 * (l0.length : Int))) - x8_1)) + 1)))))) + x13_3)) 8) then (parapethand_Burst.l1 k3 a2 x8_1 (wrap64 (Int.tmod (IntKind.u64.wrap (a1)) (IntKind.u64.wrap ((wrap64 ((wrap64 ((wrap64 (8 * (l0.length : Int))) - x8_1)) + 1)))))) (x12_3.set ((ji21) : Int).toNat (Go.bits .xor .u8 (rd x12_3 (ji21)) (shr .u8 128 (Int.tmod (wrap64 ((wrap64 (Int.tmod (IntKind.u64.wrap (a1)) (IntKind.u64.wrap ((wrap64 ((wrap64 ((wrap64 (8 * (l0.length : Int))) - x8_1)) + 1)))))) + x13_3)) 8)))) (wrap64 (x13_3 + 1))) else (none)) else (none)) else (none)) = some (r1, r2) := by first | (rw [hji21] at H; exact H) | (simp only [hji21] at H ⊢; exact H)
                            have hji21w : (IntKind.i64.wrap (Int.tdiv (wrap64 ((wrap64 (Int.tmod (IntKind.u64.wrap (a1)) (IntKind.u64.wrap ((wrap64 ((wrap64 ((wrap64 (8 * (l0.length : Int))) - x8_1)) + 1)))))) + x13_3)) 8)) = ji21 := (i64_w _).trans hji21
                            by_cases c22 : 0 ≤ (ji21)
                            · rw [if_pos c22] at H
                              have c22b0 : decide (0 ≤ (ji21)) = true := decide_eq_true c22
                              clear c22
                              by_cases c23 : (ji21) < (x12_3.length : Int)
                              · rw [if_pos c23] at H
                                have c23b0 : decide ((ji21) < (x12_3.length : Int)) = true := decide_eq_true c23
                                clear c23
                                obtain ⟨ji24, hji24⟩ : ∃ j_ : Int, (Int.tmod (wrap64 ((wrap64 (Int.tmod (IntKind.u64.wrap (a1)) (IntKind.u64.wrap ((wrap64 ((wrap64 ((wrap64 (8 * (l0.length : Int))) - x8_1)) + 1)))))) + x13_3)) 8) = j_ := ⟨_, rfl⟩
                                replace H : (if 0 ≤ (ji24) then (parapethand_Burst.l1 k3 a2 x8_1 (wrap64 (Int.tmod (IntKind.u64.wrap (a1)) (IntKind.u64.wrap ((wrap64 ((wrap64 ((wrap64 (8 * (l0.length : Int))) - x8_1)) + 1)))))) (x12_3.set ((ji21) : Int).toNat (Go.bits .xor .u8 (rd x12_3 (ji21)) (shr .u8 128 (ji24)))) (wrap64 (x13_3 + 1))) else (none)) = some (r1, r2) := by first | (rw [hji24] at H; exact H) | (simp only [hji24] at H ⊢; exact H)
                                by_cases c25 : 0 ≤ (ji24)
                                · rw [if_pos c25] at H
                                  have c25b0 := eq_true c25
                                  have c25b1 : decide (0 ≤ (ji24)) = true := decide_eq_true c25
                                  clear c25
                                  obtain ⟨ji26, hji26⟩ : ∃ j_ : Int, (shr .u8 128 (ji24)) = j_ := ⟨_, rfl⟩
                                  replace H : (parapethand_Burst.l1 k3 a2 x8_1 (wrap64 (Int.tmod (IntKind.u64.wrap (a1)) (IntKind.u64.wrap ((wrap64 ((wrap64 ((wrap64 (8 * (l0.length : Int))) - x8_1)) + 1)))))) (x12_3.set ((ji21) : Int).toNat (Go.bits .xor .u8 (rd x12_3 (ji21)) (ji26))) (wrap64 (x13_3 + 1))) = some (r1, r2) := by first | (rw [hji26] at H; exact H) | (simp only [hji26] at H ⊢; exact H)
                                  have hji26_ : (128 / 2 ^ min (ji24).toNat 8) = ji26 := hji26
                                  have hji26z : (ji24) ≤ 8 → (128 / 2 ^ (ji24).toNat) = ji26 := shr_small hji26
                                  obtain ⟨y294, hy294⟩ : ∃ y_ : List Int, y_ = (x12_3.set ((ji21) : Int).toNat (Go.bits .xor .u8 (rd x12_3 (ji21)) (ji26))) := ⟨_, rfl⟩
                                  replace H : (parapethand_Burst.l1 k3 a2 x8_1 (wrap64 (Int.tmod (IntKind.u64.wrap (a1)) (IntKind.u64.wrap ((wrap64 ((wrap64 ((wrap64 (8 * (l0.length : Int))) - x8_1)) + 1)))))) y294 (wrap64 (x13_3 + 1))) = some (r1, r2) := by first | (rw [hy294]; with_reducible exact H) | (have H2_ := (Option.bind_some _ _).symm.trans H; rw [hy294]; with_reducible exact H2_) | (have H2_ := (Option.bind_some _ _).symm.trans H; with_reducible exact H2_) | with_reducible exact H | (rw [hy294]; exact H) | exact H
                                  have Ny294 := Aside0.mk hy294
                                  clear hy294
                                  have H' := Aside0.mk H
                                  clear H
                                  try go_wp2
                                  have n0_ := Aside0.mk (Kd.R_drew HO_12.out)
                                  have n1_ := Aside0.mk (below_drew1 HB.out)
                                  clear HO_12
                                  clear HB
                                  have HO_12 := n0_
                                  have HB := n1_
                                  clear n0_ n1_
                                  obtain ⟨Ao29, co29, eo29⟩ := Kd.R_slice HO_12.out
                                  (first | subst eo29 | (injection eo29 with f1_ f2_ f3_; have f4_ := f1_.symm; have f5_ := f3_.symm; clear f1_ f2_ f3_; subst f4_; subst f5_))
                                  have p293 : 0 ≤ ((ji21) : Int) := of_decide_eq_true (by first | (with_reducible assumption) | assumption)
                                  have q293 : (ji21) < (x12_3.length : Int) := of_decide_eq_true (by first | (with_reducible assumption) | assumption)
                                  obtain ⟨ad293, e293, hx293_0⟩ := Kd.at_int (Kd.R_reads' HO_12.out).2.2 (ji21) p293 q293
                                  cases e293
                                  replace p293 := eq_true p293
                                  replace q293 := eq_true q293
                                  have p27 : 0 ≤ ((ji21) : Int) := of_decide_eq_true (by first | (with_reducible assumption) | assumption)
                                  have q27 : ((ji21) : Int) < ((x12_3.length : Int) : Int) := of_decide_eq_true (by first | (with_reducible assumption) | assumption)
                                  obtain ⟨go27, co27, eo27, gb27, gl27, cl27, HG27⟩ := Kd.R_form HO_12.out (by omega)
                                  (first | cases eo27 | (injection eo27 with ea_ en_ ec_; (first | subst ea_ | (injection ea_ with ea_; subst ea_)); subst ec_; clear en_))
                                  have GB27 := Aside0.mk gb27
                                  have GG27 := Aside0.mk HG27
                                  clear gb27 gl27 HG27
                                  (first | simp only [add_plain] at hx293_0 | skip)
                                  obtain ⟨hx27_0, hf27_0⟩ := Kd.R_celln 0 HO_12.out ((ji21) : Int) p27 q27
                                  replace p27 := eq_true p27
                                  replace q27 := eq_true q27
                                  have HP30 := Kd.R_putn HO_12.out ((ji21) : Int) (Go.bits .xor .u8 (rd x12_3 (ji21)) (ji26))
                                  rw [← Ny294.out] at HP30
                                  have HQ30 := Aside0.mk HP30
                                  clear HP30
                                  refine start_ (n := 11) (S := fun w' => w'.cell? ⟨go27, ((ji21)).toNat, none⟩ = some (.int .u8 (rd x12_3 (ji21)))) (ds := [10]) #[false, false, false, false, false, false, false, false, false, false, false] (by kernel_rfl) rfl rfl (hx293_0) (fun hHeld => ?_); refine with_tabW parapethand_Burst.tab17 parapethand_Burst.bits17 (fun HT_ HW_ => ?_)
                                  generalize wr.drew = w28 at HO_12 HB GG27 HQ30 hf27_0 hx27_0 hx293_0 hHeld ⊢
                                  refine pure_ (i := 0) (N := some 63) (v := ?_) (a' := ?_) #[true, false, false, false, false, false, false, false, false, false, false] rfl rfl (any_of HT_.out (by kernel_rfl)) (fun _ _ _ h => h) (Or.inl ⟨by rfl, ?_⟩) ?_ ?_
                                  rotate_left
                                  · intro w'
                                    go_simp
                                    with_reducible rfl
                                  rotate_left
                                  · simp only [Act.put, List.setIfInBounds_toArray, List.set_cons_zero, List.set_cons_succ, i64_w, i32_w]
                                    rfl
                                  refine pure_ (i := 1) (N := some 64) (v := ?_) (a' := ?_) #[true, true, false, false, false, false, false, false, false, false, false] rfl rfl (any_of HT_.out (by kernel_rfl)) (fun _ _ _ h => h) (Or.inl ⟨by rfl, ?_⟩) ?_ ?_
                                  rotate_left
                                  · intro w'
                                    go_simp
                                    with_reducible rfl
                                  rotate_left
                                  · simp only [Act.put, List.setIfInBounds_toArray, List.set_cons_zero, List.set_cons_succ, i64_w, i32_w]
                                    rfl
                                  refine pure_ (i := 2) (N := some 65) (v := ?_) (a' := ?_) #[true, true, true, false, false, false, false, false, false, false, false] rfl rfl (any_of HT_.out (by kernel_rfl)) (fun _ _ _ h => h) (Or.inl ⟨by rfl, ?_⟩) ?_ ?_
                                  rotate_left
                                  · intro w'
                                    go_simp
                                    with_reducible rfl
                                  rotate_left
                                  · simp only [Act.put, List.setIfInBounds_toArray, List.set_cons_zero, List.set_cons_succ, i64_w, i32_w]
                                    rfl
                                  refine pure_ (i := 3) (N := some 66) (v := ?_) (a' := ?_) #[true, true, true, true, false, false, false, false, false, false, false] rfl rfl (any_of HT_.out (by kernel_rfl)) (fun _ _ _ h => h) (Or.inl ⟨by rfl, ?_⟩) ?_ ?_
                                  rotate_left
                                  · intro w'
                                    go_simp
                                    with_reducible rfl
                                  rotate_left
                                  · simp only [Act.put, List.setIfInBounds_toArray, List.set_cons_zero, List.set_cons_succ, i64_w, i32_w]
                                    rfl
                                  refine pure_ (i := 5) (N := some 68) (v := ?_) (a' := ?_) #[true, true, true, true, false, true, false, false, false, false, false] rfl rfl (any_of HT_.out (by kernel_rfl)) (fun _ _ _ h => h) (Or.inl ⟨by rfl, ?_⟩) ?_ ?_
                                  rotate_left
                                  · intro w'
                                    go_simp
                                    with_reducible rfl
                                  rotate_left
                                  · simp only [Act.put, List.setIfInBounds_toArray, List.set_cons_zero, List.set_cons_succ, i64_w, i32_w]
                                    rfl
                                  refine pure_ (i := 6) (N := some 69) (v := ?_) (a' := ?_) #[true, true, true, true, false, true, true, false, false, false, false] rfl rfl (any_of HT_.out (by kernel_rfl)) (fun _ _ _ h => h) (Or.inl ⟨by rfl, ?_⟩) ?_ ?_
                                  rotate_left
                                  · intro w'
                                    go_simp
                                    with_reducible rfl
                                  rotate_left
                                  · simp only [Act.put, List.setIfInBounds_toArray, List.set_cons_zero, List.set_cons_succ, i64_w, i32_w]
                                    rfl
                                  refine pure_ (i := 7) (N := some 70) (v := ?_) (a' := ?_) #[true, true, true, true, false, true, true, true, false, false, false] rfl rfl (any_of HT_.out (by kernel_rfl)) (fun _ _ _ h => h) (Or.inl ⟨by rfl, ?_⟩) ?_ ?_
                                  rotate_left
                                  · intro w'
                                    go_simp
                                    with_reducible rfl
                                  rotate_left
                                  · simp only [Act.put, List.setIfInBounds_toArray, List.set_cons_zero, List.set_cons_succ, i64_w, i32_w]
                                    rfl
                                  refine take_ (i := 4) (N := some 67) (v := ?_) (a' := ?_) #[true, true, true, true, true, true, true, true, false, false, false] rfl rfl (take_ofW HT_.out HW_.out (by kernel_rfl)) (fun _ _ _ h => h) (Or.inl ⟨by rfl, ?_⟩) hHeld ?_ ?_
                                  rotate_left
                                  · intro w' s0
                                    go_simp
                                    with_reducible rfl
                                  rotate_left
                                  · simp only [Act.put, List.setIfInBounds_toArray, List.set_cons_zero, List.set_cons_succ, i64_w, i32_w]
                                    rfl
                                  refine pure_ (i := 8) (N := some 71) (v := ?_) (a' := ?_) #[true, true, true, true, true, true, true, true, true, false, false] rfl rfl (any_of HT_.out (by kernel_rfl)) (fun _ _ _ h => h) (Or.inl ⟨by rfl, ?_⟩) ?_ ?_
                                  rotate_left
                                  · intro w'
                                    go_simp
                                    with_reducible rfl
                                  rotate_left
                                  · simp only [Act.put, List.setIfInBounds_toArray, List.set_cons_zero, List.set_cons_succ, i64_w, i32_w]
                                    rfl
                                  refine pure_ (i := 9) (N := some 72) (v := ?_) (a' := ?_) #[true, true, true, true, true, true, true, true, true, true, false] rfl rfl (any_of HT_.out (by kernel_rfl)) (fun _ _ _ h => h) (Or.inl ⟨by rfl, ?_⟩) ?_ ?_
                                  rotate_left
                                  · intro w'
                                    go_simp
                                    with_reducible rfl
                                  rotate_left
                                  · simp only [Act.put, List.setIfInBounds_toArray, List.set_cons_zero, List.set_cons_succ, i64_w, i32_w]
                                    rfl
                                  refine last_ (i := 10) (N := none) #[true, true, true, true, true, true, true, true, true, true, true] rfl rfl (one_of HT_.out (by kernel_rfl)) (by decide) (fun K hK => ?_)
                                  refine skip_ (w1 := ?_) (by rfl) rfl ?_ ?_
                                  rotate_left
                                  · go_simp
                                    rfl
                                  refine hK.out _ _ ?_
                                  clear hK K
                                  refine done_ (done_of HT_.out (by kernel_rfl)) ?_
                                  try go_wp2
                                  go_roundg k3
                                  case measure => have := HK1.out; have := HJ7.out; have := HK3.out; omega
                                  case rel => exact ⟨(y294), (wrap64 (x13_3 + 1)), (by first | rfl | (simp; done) | (simp [*]; done)), H', ⟨by have := HK1.out; have := HJ7.out; have := HK3.out; omega⟩, ⟨by (with_reducible repeat (first | apply Kd.R_alloc | apply Kd.R_drewN | apply Kd.R_drew)); exact HQ30.out⟩, ⟨by repeat (first | (with_reducible first | exact HB.out | apply below_alloc | apply pw_below_drewN | apply below_drew1 | refine below_set ?_ GB27.out) | exact HB.out)⟩⟩
                                · rw [if_neg c25] at H
                                  exact absurd H (by simp)
                              · rw [if_neg c23] at H
                                exact absurd H (by simp)
                            · rw [if_neg c22] at H
                              exact absurd H (by simp)
                        · rw [if_neg c18] at H
                          exact absurd H (by simp)
                      · rw [if_neg c16] at H
                        have c16b0 : decide (x13_3 < x8_1) = false := decide_eq_false c16
                        clear c16
                        simp only [Option.some.injEq, Prod.mk.injEq] at H
                        obtain ⟨rfl, rfl⟩ := H
                        go_wp2
                        go_ret2
                        exact ⟨_, by first | rfl | (simp [errW_none, errW_some] <;> rfl) | (simp [*, errW_none, errW_some] <;> rfl), by (with_reducible repeat (first | apply Kd.R_alloc | apply Kd.R_drewN | apply Kd.R_drew)); exact HO_12.out, by repeat (first | (with_reducible first | exact HB.out | apply below_alloc | apply pw_below_drewN | apply below_drew1) | exact HB.out)⟩
                · rw [if_neg c12] at H
                  exact absurd H (by simp)

def parapethand_Places.l0 : Nat → List Int → Int → List Bool → List Int → Int → Option (List Int)
  | 0, _, _, _, _, _ => none
  | k + 1, x0, x1, x5, x6, x7 => if x7 < (x0.length : Int) then (if 0 ≤ x7 then (if (IntKind.u64.wrap (x1)) = 0 then (none) else (if 0 ≤ (wrap64 (Int.tmod (IntKind.u64.wrap (rd x0 x7)) (IntKind.u64.wrap (x1)))) then (if (wrap64 (Int.tmod (IntKind.u64.wrap (rd x0 x7)) (IntKind.u64.wrap (x1)))) < (x5.length : Int) then (if (rdOf false x5 (wrap64 (Int.tmod (IntKind.u64.wrap (rd x0 x7)) (IntKind.u64.wrap (x1)))) = true) then (parapethand_Places.l0 k x0 x1 x5 x6 (wrap64 (x7 + 1))) else (if x6.length < 17592186044416 then (parapethand_Places.l0 k x0 x1 (x5.set ((wrap64 (Int.tmod (IntKind.u64.wrap (rd x0 x7)) (IntKind.u64.wrap (x1)))) : Int).toNat true) (x6 ++ [wrap64 (Int.tmod (IntKind.u64.wrap (rd x0 x7)) (IntKind.u64.wrap (x1)))]) (wrap64 (x7 + 1))) else (none))) else (none)) else (none))) else (none)) else (some x6)
def parapethand_Places.f (k : Nat) (l0 : List Int) (a1 : Int) : Option (List Int) := if a1 < 1 then (some ([] : List Int)) else (if 0 ≤ a1 then (if (a1 : Int).toNat ≤ 281474976710656 then (parapethand_Places.l0 k l0 a1 (List.replicate (a1 : Int).toNat false) ([] : List Int) 0) else (none)) else (none))
theorem parapethand_Places.mono_l : ∀ k, (∀ y0 y1 y2 y3 y4, LeO (parapethand_Places.l0 k y0 y1 y2 y3 y4) (parapethand_Places.l0 (k + 1) y0 y1 y2 y3 y4))
  | 0 => fun _ _ _ _ _ r h => by simp [parapethand_Places.l0] at h
  | k + 1 => by
    have ih0 := parapethand_Places.mono_l k
    · intro y0 y1 y2 y3 y4
      unfold parapethand_Places.l0
      repeat' first
      | (with_reducible exact ih0 _ _ _ _ _)
      | (with_reducible exact LeO.refl _)
      | (with_reducible exact LeO.none _)
      | (with_reducible refine LeO.ite ?_ ?_)
      | (with_reducible refine LeO.bind ?_ (fun _ => ?_))
      | exact ih0 _ _ _ _ _
      | exact LeO.none _
      | refine LeO.ite ?_ ?_
      | refine LeO.bind ?_ (fun _ => ?_)
theorem parapethand_Places.mono : ∀ a0 a1 k, LeO (parapethand_Places.f k a0 a1) (parapethand_Places.f (k + 1) a0 a1) := by
  intro a0 a1 k
  have ih0 := parapethand_Places.mono_l k
  unfold parapethand_Places.f
  repeat' first
      | (with_reducible exact ih0 _ _ _ _ _)
      | (with_reducible exact LeO.refl _)
      | (with_reducible exact LeO.none _)
      | (with_reducible refine LeO.ite ?_ ?_)
      | (with_reducible refine LeO.bind ?_ (fun _ => ?_))
      | exact ih0 _ _ _ _ _
      | exact LeO.none _
      | refine LeO.ite ?_ ?_
      | refine LeO.bind ?_ (fun _ => ?_)
set_option maxHeartbeats 8000000 in
set_option maxRecDepth 100000 in
theorem parapethand_Places.calls (k : Nat) (A0 : Option Addr) (c0 : Nat) (l0 : List Int) (a1 : Int) (r : List Int) (w : World) (hr0 : Kd.C (Kd.int .i64) w A0 l0.length l0) (hc0 : l0.length ≤ c0) (h : parapethand_Places.f k l0 a1 = some r) :
    Calls Try.prog 20 #[.slice A0 l0.length c0, .int .i64 a1] w fun e w' => ∃ v0_ : Value, e = .returned (v0_) ∧ Kd.R (Kd.int .i64) 3 w' w.heap.size (fun _ => True) v0_ r ∧ Below w.heap.size w w' := by
  have HR0 := Aside0.mk hr0
  have HC0 := Aside0.mk hc0
  clear hr0 hc0
  have HB := Aside0.mk (Below.refl w.heap.size w)
  have H : (if a1 < 1 then (some ([] : List Int)) else (if 0 ≤ a1 then (if (a1 : Int).toNat ≤ 281474976710656 then (parapethand_Places.l0 k l0 a1 (List.replicate (a1 : Int).toNat false) ([] : List Int) 0) else (none)) else (none))) = some r := h
  clear h
  by_cases c3 : a1 < 1
  · rw [if_pos c3] at H
    have c3b0 : decide (a1 < 1) = true := decide_eq_true c3
    clear c3
    obtain rfl := Option.some.inj H
    go_enter Try.func20, Try.ntmps20
    go_wp2
    go_ret
    exact ⟨_, by first | rfl | (simp [errW_none, errW_some] <;> rfl) | (simp [*, errW_none, errW_some] <;> rfl), by first | exact Kd.R_nil _ _ _ _ _ | exact Kd.N_nil _ _ _ _ _ | exact Kd.V_nil _ _ _ _ _ | exact Kd.Q_nil _ _ _ _ _ | exact Kd.S_nil _ _ _ _ _, by repeat (first | (with_reducible first | exact HB.out | apply below_alloc | apply pw_below_drewN | apply below_drew1) | exact HB.out)⟩
  · rw [if_neg c3] at H
    have c3b0 : decide (a1 < 1) = false := decide_eq_false c3
    clear c3
    by_cases c4 : 0 ≤ a1
    · rw [if_pos c4] at H
      have c4b0 := eq_true c4
      have c4b1 : decide (0 ≤ a1) = true := decide_eq_true c4
      clear c4
      by_cases c5 : (a1 : Int).toNat ≤ 281474976710656
      · rw [if_pos c5] at H
        have c5b0 := eq_true c5
        have c5b1 : decide ((a1 : Int).toNat ≤ 281474976710656) = true := decide_eq_true c5
        clear c5
        obtain ⟨y295, hy295⟩ : ∃ y_ : List Bool, y_ = (List.replicate (a1 : Int).toNat false) := ⟨_, rfl⟩
        replace H : (parapethand_Places.l0 k l0 a1 y295 ([] : List Int) 0) = some r := by first | (rw [hy295]; with_reducible exact H) | (have H2_ := (Option.bind_some _ _).symm.trans H; rw [hy295]; with_reducible exact H2_) | (have H2_ := (Option.bind_some _ _).symm.trans H; with_reducible exact H2_) | with_reducible exact H | (rw [hy295]; exact H) | exact H
        have Ny295 := Aside0.mk hy295
        clear hy295
        have H' := Aside0.mk H
        clear H
        go_enter Try.func20, Try.ntmps20
        go_wp2_with (first | ((with_reducible refine gate_dst (N := 12) rfl ?_); refine Kd.R_make Kd.bool _ 4 rfl (N := 12) rfl 69 _ _ rfl a1 rfl rfl Try.underlying69 (.bool false) 1 info4 rfl (by decide) (by omega) false (ok := fun _ => True) (okp := fun _ => True) rfl (fun _ hk => hk) trivial (of_decide_eq_true (by first | (with_reducible assumption) | assumption)) (Nat.le_trans (Nat.mul_le_mul_right _ (of_decide_eq_true (by first | (with_reducible assumption) | assumption) : a1.toNat ≤ 281474976710656)) (by omega)) (Below.refl _ _) (Nat.le_refl _) ?_; intro v296 w6 ho7 hb hg_ hnew_; clear hg_ hnew_; (first | rw [← Ny295.out] at ho7 | (simp only [Int.reduceToNat] at ho7; rw [← Ny295.out] at ho7)); have n0_ := Aside0.mk (Kd.R_lower ho7 (below_size (by repeat (first | (with_reducible first | exact HB.out | apply below_alloc | apply pw_below_drewN | apply below_drew1) | exact HB.out)))); have n1_ := Aside0.mk (below_step (by repeat (first | (with_reducible first | exact HB.out | apply below_alloc | apply pw_below_drewN | apply below_drew1) | exact HB.out)) hb); clear HB; have HO297 := n0_; have HB := n1_; clear n0_ n1_; clear hb ho7))
        go_loopg [6, 7] k (fun kq v6 v7 w' => ∃ (x5_1 : List Bool) (x6_1 : List Int) (x7_1 : Int), v7 = .int .i64 x7_1 ∧ Aside0 (parapethand_Places.l0 kq l0 a1 x5_1 x6_1 x7_1 = some r) ∧ Aside0 (kq ≤ k) ∧ Aside0 (Kd.R Kd.bool 4 w' w.heap.size (fun _ => True) v296 x5_1) ∧ Aside0 (Kd.R (Kd.int .i64) 3 w' w.heap.size (fun _ => True) v6 x6_1) ∧ Aside0 (Below w.heap.size w w'))
        case atStart => exact ⟨(y295), (([] : List Int)), (0), (by first | rfl | (simp; done) | (simp [*]; done)), H', ⟨Nat.le_refl _⟩, ⟨by (with_reducible repeat (first | apply Kd.R_alloc | apply Kd.R_drewN | apply Kd.R_drew)); exact HO297.out⟩, ⟨by first | exact Kd.R_nil _ _ _ _ _ | exact Kd.N_nil _ _ _ _ _ | exact Kd.V_nil _ _ _ _ _ | exact Kd.Q_nil _ _ _ _ _ | exact Kd.S_nil _ _ _ _ _⟩, ⟨by repeat (first | (with_reducible first | exact HB.out | apply below_alloc | apply pw_below_drewN | apply below_drew1) | exact HB.out)⟩⟩
        case round =>
          clear H'
          try clear c2
          try clear p2
          try clear c3
          try clear c3b0
          try clear c4
          try clear c4b0
          try clear c4b1
          try clear c5
          try clear c5b0
          try clear c5b1
          obtain ⟨x5_1, x6_1, x7_1, rfl, HA, HK1, HO_5, HO_6, HB⟩ := hrel
          cases gk with
          | zero => exact absurd HA.out (by simp [parapethand_Places.l0])
          | succ k1 =>
            have H := HA.out
            clear HA
            simp only [parapethand_Places.l0] at H
            by_cases c8 : x7_1 < (l0.length : Int)
            · rw [if_pos c8] at H
              have c8b0 : decide (x7_1 < (l0.length : Int)) = true := decide_eq_true c8
              clear c8
              by_cases c9 : 0 ≤ x7_1
              · rw [if_pos c9] at H
                have c9b0 : decide (0 ≤ x7_1) = true := decide_eq_true c9
                clear c9
                by_cases c10 : (IntKind.u64.wrap (a1)) = 0
                · rw [if_pos c10] at H
                  exact absurd H (by simp)
                · rw [if_neg c10] at H
                  have c10b0 : ((IntKind.u64.wrap (a1)) == 0) = false := beq_eq_false_iff_ne.mpr c10
                  have c10b1 : ((IntKind.u64.wrap (a1)) != 0) = true := bne_iff_ne.mpr c10
                  obtain ⟨ji11, hji11⟩ : ∃ j_ : Int, (wrap64 (Int.tmod (IntKind.u64.wrap (rd l0 x7_1)) (IntKind.u64.wrap (a1)))) = j_ := ⟨_, rfl⟩
                  replace H : (if 0 ≤ (ji11) then (if (ji11) < (x5_1.length : Int) then (if (rdOf false x5_1 (ji11) = true) then (parapethand_Places.l0 k1 l0 a1 x5_1 x6_1 (wrap64 (x7_1 + 1))) else (if x6_1.length < 17592186044416 then (parapethand_Places.l0 k1 l0 a1 (x5_1.set ((ji11) : Int).toNat true) (x6_1 ++ [ji11]) (wrap64 (x7_1 + 1))) else (none))) else (none)) else (none)) = some r := by first | (rw [hji11] at H; exact H) | (simp only [hji11] at H ⊢; exact H)
                  have hji11w : (IntKind.i64.wrap (Int.tmod (IntKind.u64.wrap (rd l0 x7_1)) (IntKind.u64.wrap (a1)))) = ji11 := (i64_w _).trans hji11
                  by_cases c12 : 0 ≤ (ji11)
                  · rw [if_pos c12] at H
                    have c12b0 : decide (0 ≤ (ji11)) = true := decide_eq_true c12
                    clear c12
                    by_cases c13 : (ji11) < (x5_1.length : Int)
                    · rw [if_pos c13] at H
                      have c13b0 : decide ((ji11) < (x5_1.length : Int)) = true := decide_eq_true c13
                      clear c13
                      obtain ⟨bq14, hbq14⟩ : ∃ b_ : Bool, b_ = (rdOf false x5_1 (ji11)) := ⟨_, rfl⟩
                      replace H : (if (bq14 = true) then (parapethand_Places.l0 k1 l0 a1 x5_1 x6_1 (wrap64 (x7_1 + 1))) else (if x6_1.length < 17592186044416 then (parapethand_Places.l0 k1 l0 a1 (x5_1.set ((ji11) : Int).toNat true) (x6_1 ++ [ji11]) (wrap64 (x7_1 + 1))) else (none))) = some r := by rw [← hbq14] at H; exact H
                      have Nbq14 := Aside0.mk hbq14
                      clear hbq14
                      by_cases c15 : (bq14 = true)
                      · subst c15
                        have H1 : (parapethand_Places.l0 k1 l0 a1 x5_1 x6_1 (wrap64 (x7_1 + 1))) = some r := by rw [if_pos rfl] at H; exact H
                        clear H
                        have H := H1
                        clear H1
                        have H' := Aside0.mk H
                        clear H
                        have p298 : 0 ≤ (x7_1 : Int) := of_decide_eq_true (by first | (with_reducible assumption) | assumption)
                        have q298 : x7_1 < (l0.length : Int) := of_decide_eq_true (by first | (with_reducible assumption) | assumption)
                        obtain ⟨ad298, e298, hx298_0⟩ := Kd.at_int HR0.out x7_1 p298 q298
                        cases e298
                        replace hx298_0 := (HB.out.cell (World.block_lt_of_cell? w _ hx298_0)).trans hx298_0
                        replace p298 := eq_true p298
                        replace q298 := eq_true q298
                        obtain ⟨Ao16, co16, eo16⟩ := Kd.R_slice HO_5.out
                        subst eo16
                        have p299 : 0 ≤ ((ji11) : Int) := of_decide_eq_true (by first | (with_reducible assumption) | assumption)
                        have q299 : (ji11) < (x5_1.length : Int) := of_decide_eq_true (by first | (with_reducible assumption) | assumption)
                        obtain ⟨ad299, e299, hx299_0⟩ := Kd.at_bool (Kd.R_reads' HO_5.out).2.2 (ji11) p299 q299
                        (try rw [← Nbq14.out] at hx299_0)
                        cases e299
                        replace p299 := eq_true p299
                        replace q299 := eq_true q299
                        go_wp2
                        go_roundg k1
                        case measure => have := HK1.out; omega
                        case rel => exact ⟨(x5_1), (x6_1), (wrap64 (x7_1 + 1)), (by first | rfl | (simp; done) | (simp [*]; done)), H', ⟨by have := HK1.out; omega⟩, ⟨by (with_reducible repeat (first | apply Kd.R_alloc | apply Kd.R_drewN | apply Kd.R_drew)); exact HO_5.out⟩, ⟨by (with_reducible repeat (first | apply Kd.R_alloc | apply Kd.R_drewN | apply Kd.R_drew)); exact HO_6.out⟩, ⟨by repeat (first | (with_reducible first | exact HB.out | apply below_alloc | apply pw_below_drewN | apply below_drew1) | exact HB.out)⟩⟩
                      · replace c15 := Bool.eq_false_iff.mpr c15
                        subst c15
                        have H1 : (if x6_1.length < 17592186044416 then (parapethand_Places.l0 k1 l0 a1 (x5_1.set ((ji11) : Int).toNat true) (x6_1 ++ [ji11]) (wrap64 (x7_1 + 1))) else (none)) = some r := by rw [if_neg (show ¬ (false = true) by decide)] at H; exact H
                        clear H
                        have H := H1
                        clear H1
                        obtain ⟨y300, hy300⟩ : ∃ y_ : List Bool, y_ = (x5_1.set ((ji11) : Int).toNat true) := ⟨_, rfl⟩
                        replace H : (if x6_1.length < 17592186044416 then (parapethand_Places.l0 k1 l0 a1 y300 (x6_1 ++ [ji11]) (wrap64 (x7_1 + 1))) else (none)) = some r := by first | (rw [hy300]; with_reducible exact H) | (have H2_ := (Option.bind_some _ _).symm.trans H; rw [hy300]; with_reducible exact H2_) | (have H2_ := (Option.bind_some _ _).symm.trans H; with_reducible exact H2_) | with_reducible exact H | (rw [hy300]; exact H) | exact H
                        have Ny300 := Aside0.mk hy300
                        clear hy300
                        by_cases c18 : x6_1.length < 17592186044416
                        · rw [if_pos c18] at H
                          have LMc18 := Aside0.mk c18
                          clear c18
                          obtain ⟨y301, hy301⟩ : ∃ y_ : List Int, y_ = (x6_1 ++ [ji11]) := ⟨_, rfl⟩
                          replace H : (parapethand_Places.l0 k1 l0 a1 y300 y301 (wrap64 (x7_1 + 1))) = some r := by first | (rw [hy301]; with_reducible exact H) | (have H2_ := (Option.bind_some _ _).symm.trans H; rw [hy301]; with_reducible exact H2_) | (have H2_ := (Option.bind_some _ _).symm.trans H; with_reducible exact H2_) | with_reducible exact H | (rw [hy301]; exact H) | exact H
                          have Ny301 := Aside0.mk hy301
                          clear hy301
                          have H' := Aside0.mk H
                          clear H
                          have p298 : 0 ≤ (x7_1 : Int) := of_decide_eq_true (by first | (with_reducible assumption) | assumption)
                          have q298 : x7_1 < (l0.length : Int) := of_decide_eq_true (by first | (with_reducible assumption) | assumption)
                          obtain ⟨ad298, e298, hx298_0⟩ := Kd.at_int HR0.out x7_1 p298 q298
                          cases e298
                          replace hx298_0 := (HB.out.cell (World.block_lt_of_cell? w _ hx298_0)).trans hx298_0
                          replace p298 := eq_true p298
                          replace q298 := eq_true q298
                          obtain ⟨Ao19, co19, eo19⟩ := Kd.R_slice HO_5.out
                          subst eo19
                          have p299 : 0 ≤ ((ji11) : Int) := of_decide_eq_true (by first | (with_reducible assumption) | assumption)
                          have q299 : (ji11) < (x5_1.length : Int) := of_decide_eq_true (by first | (with_reducible assumption) | assumption)
                          obtain ⟨ad299, e299, hx299_0⟩ := Kd.at_bool (Kd.R_reads' HO_5.out).2.2 (ji11) p299 q299
                          (try rw [← Nbq14.out] at hx299_0)
                          cases e299
                          replace p299 := eq_true p299
                          replace q299 := eq_true q299
                          have p17 : 0 ≤ ((ji11) : Int) := of_decide_eq_true (by first | (with_reducible assumption) | assumption)
                          have q17 : ((ji11) : Int) < ((x5_1.length : Int) : Int) := of_decide_eq_true (by first | (with_reducible assumption) | assumption)
                          obtain ⟨go17, co17, eo17, gb17, gl17, cl17, HG17⟩ := Kd.R_form HO_5.out (by omega)
                          (first | cases eo17 | (injection eo17 with ea_ en_ ec_; (first | subst ea_ | (injection ea_ with ea_; subst ea_)); subst ec_; clear en_))
                          have GB17 := Aside0.mk gb17
                          have GG17 := Aside0.mk HG17
                          clear gb17 gl17 HG17
                          (first | simp only [add_plain] at hx299_0 | skip)
                          obtain ⟨hx17_0, hf17_0⟩ := Kd.R_celln false HO_5.out ((ji11) : Int) p17 q17
                          replace p17 := eq_true p17
                          replace q17 := eq_true q17
                          have HP20 := Kd.R_putg HO_5.out ((ji11) : Int) true
                          go_wp2_with (first | ((with_reducible refine gate_store (t := 4) (p := 35) rfl ?_); refine store_event (t := 4) (p := 35) (v := ?vo_w21) (w1 := (wr.setCell ⟨go17, ((ji11) : Int).toNat, none⟩ (.bool true))) ?hg ?ho ?hn ?hr ?_; (case ho => rfl); (case hg => rfl); (case hn => rfl); (case hr => first | (go_simp; done) | (go_simp; rfl)); intro w21 hw; have hg : wr.grownBy w21 (some go17) := (by rw [hw]; exact HP20.2); have hp_ : Kd.R Kd.bool 4 w21 w.heap.size (fun _ => True) (.slice (some ⟨go17, 0, none⟩) x5_1.length co19) y300 := (by rw [hw, Ny300.out]; exact HP20.1); clear HP20; have n0_ := Aside0.mk (hp_); have n1_ := Aside0.mk (Kd.R_over' (v := (.slice (some ⟨go17, 0, none⟩) x5_1.length co19)) (by (with_reducible repeat (first | apply Kd.R_alloc | apply Kd.R_drewN | apply Kd.R_drew)); exact HO_6.out) (Kd.R_typed HO_5.out) (by decide) hg); have n2_ := Aside0.mk ((by rw [hw]; exact below_set (HB.out) GB17.out : Below w.heap.size w w21)); clear HO_5; clear HO_6; clear HB; have HO_5 := n0_; have HO_6 := n1_; have HB := n2_; clear n0_ n1_ n2_; clear hg hw hp_) | ((with_reducible refine gate_builtin (b := .append) (xs := #[.tmp 36, .tmp 38]) rfl ?_); at_builtin; refine Kd.R_append (Kd.int .i64) (w0 := w) w.heap.size rfl (.tmp 36) (.tmp 38) 42 3 (.int .i64 0) 8 rfl Try.underlying42 info3 rfl (by decide) (by omega) u6 x6_1 ji11 [.int .i64 ji11] (fun _ => True) (fun _ => False) rfl rfl ?aP (fun _ hk => hk.elim) ?aF ?aO ?aB ?aS ?aL ?_; (case aP => exact rfl); (case aB => exact (by repeat (first | (with_reducible first | exact HB.out | apply below_alloc | apply pw_below_drewN | apply below_drew1) | exact HB.out))); (case aF => exact (fun _ _ => trivial)); (case aO => exact (by (with_reducible repeat (first | apply Kd.R_alloc | apply Kd.R_drewN | apply Kd.R_drew)); exact HO_6.out)); (case aS => exact (below_size (by repeat (first | (with_reducible first | exact HB.out | apply below_alloc | apply pw_below_drewN | apply below_drew1) | exact HB.out)))); (case aL => have := LMc18.out; omega); intro v302 w22 ho hb hg hat; rw [← Ny301.out] at ho; have n0_ := Aside0.mk (Kd.R_over' (by (with_reducible repeat (first | apply Kd.R_alloc | apply Kd.R_drewN | apply Kd.R_drew)); exact HO_5.out) (Kd.R_typed (by (with_reducible repeat (first | apply Kd.R_alloc | apply Kd.R_drewN | apply Kd.R_drew)); exact HO_6.out)) (by decide) hg); have n1_ := Aside0.mk (hb); have n2_ := Aside0.mk (ho); clear HO_5; clear HB; clear HO_6; have HO_5 := n0_; have HB := n1_; have HO303 := n2_; clear n0_ n1_ n2_; clear ho hb hg hat))
                          go_roundg k1
                          case measure => have := HK1.out; omega
                          case rel => exact ⟨(y300), (y301), (wrap64 (x7_1 + 1)), (by first | rfl | (simp; done) | (simp [*]; done)), H', ⟨by have := HK1.out; omega⟩, ⟨by (with_reducible repeat (first | apply Kd.R_alloc | apply Kd.R_drewN | apply Kd.R_drew)); exact HO_5.out⟩, ⟨by (with_reducible repeat (first | apply Kd.R_alloc | apply Kd.R_drewN | apply Kd.R_drew)); exact HO303.out⟩, ⟨by repeat (first | (with_reducible first | exact HB.out | apply below_alloc | apply pw_below_drewN | apply below_drew1) | exact HB.out)⟩⟩
                        · rw [if_neg c18] at H
                          exact absurd H (by simp)
                    · rw [if_neg c13] at H
                      exact absurd H (by simp)
                  · rw [if_neg c12] at H
                    exact absurd H (by simp)
              · rw [if_neg c9] at H
                exact absurd H (by simp)
            · rw [if_neg c8] at H
              have c8b0 : decide (x7_1 < (l0.length : Int)) = false := decide_eq_false c8
              clear c8
              obtain rfl := Option.some.inj H
              go_wp2
              go_ret
              exact ⟨_, by first | rfl | (simp [errW_none, errW_some] <;> rfl) | (simp [*, errW_none, errW_some] <;> rfl), by (with_reducible repeat (first | apply Kd.R_alloc | apply Kd.R_drewN | apply Kd.R_drew)); exact HO_6.out, by repeat (first | (with_reducible first | exact HB.out | apply below_alloc | apply pw_below_drewN | apply below_drew1) | exact HB.out)⟩
      · rw [if_neg c5] at H
        exact absurd H (by simp)
    · rw [if_neg c4] at H
      exact absurd H (by simp)

end Go.Proofs.Ytlafkeijikbenac.PV
