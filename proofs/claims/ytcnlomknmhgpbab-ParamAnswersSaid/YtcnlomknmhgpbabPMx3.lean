-- Written by a program of this session (wip/pr.sh): the functions' plain forms and their walks.
import Derived.Test.YtcnlomknmhgpbabPMx0
namespace Go.Proofs.Ytcnlomknmhgpbab.PM
open Go.RowKit Go.Proofs.YtcnlomknmhgpbabW.PrintWords Go.Proofs.YtcnlomknmhgpbabW.PrintLast Go.Proofs.YtcnlomknmhgpbabW.PrintMore
attribute [local go_sem] max2_int min2_int max_two min_two max_three min_three max_four min_four   -- for this text's walks alone
set_option linter.unusedVariables false
set_option linter.unusedSimpArgs false

-- NOT PRINTED: function 24 (parapethand_Spare)



/-! ### parapetref09_Lawful: function 43 -/
def parapetref09_Lawful.f (a0_0 : Int) (a0_1 : Int) (a0_2 : Int) (a0_3 : Int) (a0_4 : Int) : Option (Bool) := if a0_0 > 0 then (if a0_1 ≥ 1 then (if a0_1 ≤ 8 then (if a0_2 ≥ 1 then (if a0_2 ≤ 8 then (if a0_3 ≥ 1 then (if a0_3 ≤ 1048576 then (some (decide (a0_4 ≥ 2))) else (some false)) else (some false)) else (some false)) else (some false)) else (some false)) else (some false)) else (some false)
set_option maxHeartbeats 8000000 in
set_option maxRecDepth 100000 in
theorem parapetref09_Lawful.calls (a0_0 : Int) (a0_1 : Int) (a0_2 : Int) (a0_3 : Int) (a0_4 : Int) (r : Bool) (w : World) (h : parapetref09_Lawful.f a0_0 a0_1 a0_2 a0_3 a0_4 = some r) :
    Calls Try.prog 43 #[.agg #[.int .u32 a0_0, .int .i64 a0_1, .int .i64 a0_2, .int .i64 a0_3, .int .u32 a0_4]] w fun e w' => e = .returned (.bool r) ∧ Below w.heap.size w w' := by
  have hu24 := Try.underlying24
  have HB := Aside0.mk (Below.refl w.heap.size w)
  have H : (if a0_0 > 0 then (if a0_1 ≥ 1 then (if a0_1 ≤ 8 then (if a0_2 ≥ 1 then (if a0_2 ≤ 8 then (if a0_3 ≥ 1 then (if a0_3 ≤ 1048576 then (some (decide (a0_4 ≥ 2))) else (some false)) else (some false)) else (some false)) else (some false)) else (some false)) else (some false)) else (some false)) = some r := h
  clear h
  by_cases c2 : a0_0 > 0
  · rw [if_pos c2] at H
    have c2b0 : decide (0 < a0_0) = true := decide_eq_true c2
    clear c2
    by_cases c3 : a0_1 ≥ 1
    · rw [if_pos c3] at H
      have c3b0 : decide (1 ≤ a0_1) = true := decide_eq_true c3
      clear c3
      by_cases c4 : a0_1 ≤ 8
      · rw [if_pos c4] at H
        have c4b0 : decide (a0_1 ≤ 8) = true := decide_eq_true c4
        clear c4
        by_cases c5 : a0_2 ≥ 1
        · rw [if_pos c5] at H
          have c5b0 : decide (1 ≤ a0_2) = true := decide_eq_true c5
          clear c5
          by_cases c6 : a0_2 ≤ 8
          · rw [if_pos c6] at H
            have c6b0 : decide (a0_2 ≤ 8) = true := decide_eq_true c6
            clear c6
            by_cases c7 : a0_3 ≥ 1
            · rw [if_pos c7] at H
              have c7b0 : decide (1 ≤ a0_3) = true := decide_eq_true c7
              clear c7
              by_cases c8 : a0_3 ≤ 1048576
              · rw [if_pos c8] at H
                have c8b0 : decide (a0_3 ≤ 1048576) = true := decide_eq_true c8
                clear c8
                obtain rfl := Option.some.inj H
                go_enter Try.func43, Try.ntmps43
                go_wp2_with (first | ((with_reducible refine gate_dst (N := 1) rfl ?_); refine box_event ?hg (N := 1) ?hd (cs := #[.int .u32 a0_0, .int .i64 a0_1, .int .i64 a0_2, .int .i64 a0_3, .int .u32 a0_4]) (t := 24) ?hr ?_; (case hd => rfl); (case hg => rfl); (case hr => first | (go_simp; done) | (go_simp; rfl)); intro gb167 hg w9 hbox hb; have n0_ := Aside0.mk (below_step (by repeat (first | (with_reducible first | exact HB.out | apply below_alloc | apply pw_below_drewN | apply below_drew1) | exact HB.out)) hb); have n1_ := Aside0.mk (hbox); have n2_ := Aside0.mk ((by rw [hg]; exact (below_size (by repeat (first | (with_reducible first | exact HB.out | apply below_alloc | apply pw_below_drewN | apply below_drew1) | exact HB.out))) : w.heap.size ≤ gb167)); have n3_ := Aside0.mk ((by rw [hg]; exact (below_size (by repeat (first | (with_reducible first | exact HB.out | apply below_alloc | apply pw_below_drewN | apply below_drew1) | exact HB.out))) : w.heap.size ≤ gb167)); clear HB; have HB := n0_; have BK167 := n1_; have GW167 := n2_; have GE167 := n3_; clear n0_ n1_ n2_ n3_; clear hb hbox hg; have hcz10_0 : w9.cell? ⟨gb167, 0, none⟩ = some (.int .u32 a0_0) := (blk_cell BK167.out 0).trans rfl; have hcz10_1 : w9.cell? ⟨gb167, 1, none⟩ = some (.int .i64 a0_1) := (blk_cell BK167.out 1).trans rfl; have hcz10_2 : w9.cell? ⟨gb167, 2, none⟩ = some (.int .i64 a0_2) := (blk_cell BK167.out 2).trans rfl; have hcz10_3 : w9.cell? ⟨gb167, 3, none⟩ = some (.int .i64 a0_3) := (blk_cell BK167.out 3).trans rfl; have hcz10_4 : w9.cell? ⟨gb167, 4, none⟩ = some (.int .u32 a0_4) := (blk_cell BK167.out 4).trans rfl; have hfz10_0 := blk_frozen BK167.out 0; have hfz10_1 := blk_frozen BK167.out 1; have hfz10_2 := blk_frozen BK167.out 2; have hfz10_3 := blk_frozen BK167.out 3; have hfz10_4 := blk_frozen BK167.out 4))
                go_ret
                exact ⟨by first | rfl | (simp [errW_none, errW_some] <;> rfl) | (simp [*, errW_none, errW_some] <;> rfl), by repeat (first | (with_reducible first | exact HB.out | apply below_alloc | apply pw_below_drewN | apply below_drew1 | refine below_set ?_ GE167.out) | exact HB.out)⟩
              · rw [if_neg c8] at H
                have c8b0 : decide (a0_3 ≤ 1048576) = false := decide_eq_false c8
                clear c8
                obtain rfl := Option.some.inj H
                go_enter Try.func43, Try.ntmps43
                go_wp2_with (first | ((with_reducible refine gate_dst (N := 1) rfl ?_); refine box_event ?hg (N := 1) ?hd (cs := #[.int .u32 a0_0, .int .i64 a0_1, .int .i64 a0_2, .int .i64 a0_3, .int .u32 a0_4]) (t := 24) ?hr ?_; (case hd => rfl); (case hg => rfl); (case hr => first | (go_simp; done) | (go_simp; rfl)); intro gb167 hg w11 hbox hb; have n0_ := Aside0.mk (below_step (by repeat (first | (with_reducible first | exact HB.out | apply below_alloc | apply pw_below_drewN | apply below_drew1) | exact HB.out)) hb); have n1_ := Aside0.mk (hbox); have n2_ := Aside0.mk ((by rw [hg]; exact (below_size (by repeat (first | (with_reducible first | exact HB.out | apply below_alloc | apply pw_below_drewN | apply below_drew1) | exact HB.out))) : w.heap.size ≤ gb167)); have n3_ := Aside0.mk ((by rw [hg]; exact (below_size (by repeat (first | (with_reducible first | exact HB.out | apply below_alloc | apply pw_below_drewN | apply below_drew1) | exact HB.out))) : w.heap.size ≤ gb167)); clear HB; have HB := n0_; have BK167 := n1_; have GW167 := n2_; have GE167 := n3_; clear n0_ n1_ n2_ n3_; clear hb hbox hg; have hcz12_0 : w11.cell? ⟨gb167, 0, none⟩ = some (.int .u32 a0_0) := (blk_cell BK167.out 0).trans rfl; have hcz12_1 : w11.cell? ⟨gb167, 1, none⟩ = some (.int .i64 a0_1) := (blk_cell BK167.out 1).trans rfl; have hcz12_2 : w11.cell? ⟨gb167, 2, none⟩ = some (.int .i64 a0_2) := (blk_cell BK167.out 2).trans rfl; have hcz12_3 : w11.cell? ⟨gb167, 3, none⟩ = some (.int .i64 a0_3) := (blk_cell BK167.out 3).trans rfl; have hcz12_4 : w11.cell? ⟨gb167, 4, none⟩ = some (.int .u32 a0_4) := (blk_cell BK167.out 4).trans rfl; have hfz12_0 := blk_frozen BK167.out 0; have hfz12_1 := blk_frozen BK167.out 1; have hfz12_2 := blk_frozen BK167.out 2; have hfz12_3 := blk_frozen BK167.out 3; have hfz12_4 := blk_frozen BK167.out 4))
                go_ret
                exact ⟨by first | rfl | (simp [errW_none, errW_some] <;> rfl) | (simp [*, errW_none, errW_some] <;> rfl), by repeat (first | (with_reducible first | exact HB.out | apply below_alloc | apply pw_below_drewN | apply below_drew1 | refine below_set ?_ GE167.out) | exact HB.out)⟩
            · rw [if_neg c7] at H
              have c7b0 : decide (1 ≤ a0_3) = false := decide_eq_false c7
              clear c7
              obtain rfl := Option.some.inj H
              go_enter Try.func43, Try.ntmps43
              go_wp2_with (first | ((with_reducible refine gate_dst (N := 1) rfl ?_); refine box_event ?hg (N := 1) ?hd (cs := #[.int .u32 a0_0, .int .i64 a0_1, .int .i64 a0_2, .int .i64 a0_3, .int .u32 a0_4]) (t := 24) ?hr ?_; (case hd => rfl); (case hg => rfl); (case hr => first | (go_simp; done) | (go_simp; rfl)); intro gb167 hg w13 hbox hb; have n0_ := Aside0.mk (below_step (by repeat (first | (with_reducible first | exact HB.out | apply below_alloc | apply pw_below_drewN | apply below_drew1) | exact HB.out)) hb); have n1_ := Aside0.mk (hbox); have n2_ := Aside0.mk ((by rw [hg]; exact (below_size (by repeat (first | (with_reducible first | exact HB.out | apply below_alloc | apply pw_below_drewN | apply below_drew1) | exact HB.out))) : w.heap.size ≤ gb167)); have n3_ := Aside0.mk ((by rw [hg]; exact (below_size (by repeat (first | (with_reducible first | exact HB.out | apply below_alloc | apply pw_below_drewN | apply below_drew1) | exact HB.out))) : w.heap.size ≤ gb167)); clear HB; have HB := n0_; have BK167 := n1_; have GW167 := n2_; have GE167 := n3_; clear n0_ n1_ n2_ n3_; clear hb hbox hg; have hcz14_0 : w13.cell? ⟨gb167, 0, none⟩ = some (.int .u32 a0_0) := (blk_cell BK167.out 0).trans rfl; have hcz14_1 : w13.cell? ⟨gb167, 1, none⟩ = some (.int .i64 a0_1) := (blk_cell BK167.out 1).trans rfl; have hcz14_2 : w13.cell? ⟨gb167, 2, none⟩ = some (.int .i64 a0_2) := (blk_cell BK167.out 2).trans rfl; have hcz14_3 : w13.cell? ⟨gb167, 3, none⟩ = some (.int .i64 a0_3) := (blk_cell BK167.out 3).trans rfl; have hcz14_4 : w13.cell? ⟨gb167, 4, none⟩ = some (.int .u32 a0_4) := (blk_cell BK167.out 4).trans rfl; have hfz14_0 := blk_frozen BK167.out 0; have hfz14_1 := blk_frozen BK167.out 1; have hfz14_2 := blk_frozen BK167.out 2; have hfz14_3 := blk_frozen BK167.out 3; have hfz14_4 := blk_frozen BK167.out 4))
              go_ret
              exact ⟨by first | rfl | (simp [errW_none, errW_some] <;> rfl) | (simp [*, errW_none, errW_some] <;> rfl), by repeat (first | (with_reducible first | exact HB.out | apply below_alloc | apply pw_below_drewN | apply below_drew1 | refine below_set ?_ GE167.out) | exact HB.out)⟩
          · rw [if_neg c6] at H
            have c6b0 : decide (a0_2 ≤ 8) = false := decide_eq_false c6
            clear c6
            obtain rfl := Option.some.inj H
            go_enter Try.func43, Try.ntmps43
            go_wp2_with (first | ((with_reducible refine gate_dst (N := 1) rfl ?_); refine box_event ?hg (N := 1) ?hd (cs := #[.int .u32 a0_0, .int .i64 a0_1, .int .i64 a0_2, .int .i64 a0_3, .int .u32 a0_4]) (t := 24) ?hr ?_; (case hd => rfl); (case hg => rfl); (case hr => first | (go_simp; done) | (go_simp; rfl)); intro gb167 hg w15 hbox hb; have n0_ := Aside0.mk (below_step (by repeat (first | (with_reducible first | exact HB.out | apply below_alloc | apply pw_below_drewN | apply below_drew1) | exact HB.out)) hb); have n1_ := Aside0.mk (hbox); have n2_ := Aside0.mk ((by rw [hg]; exact (below_size (by repeat (first | (with_reducible first | exact HB.out | apply below_alloc | apply pw_below_drewN | apply below_drew1) | exact HB.out))) : w.heap.size ≤ gb167)); have n3_ := Aside0.mk ((by rw [hg]; exact (below_size (by repeat (first | (with_reducible first | exact HB.out | apply below_alloc | apply pw_below_drewN | apply below_drew1) | exact HB.out))) : w.heap.size ≤ gb167)); clear HB; have HB := n0_; have BK167 := n1_; have GW167 := n2_; have GE167 := n3_; clear n0_ n1_ n2_ n3_; clear hb hbox hg; have hcz16_0 : w15.cell? ⟨gb167, 0, none⟩ = some (.int .u32 a0_0) := (blk_cell BK167.out 0).trans rfl; have hcz16_1 : w15.cell? ⟨gb167, 1, none⟩ = some (.int .i64 a0_1) := (blk_cell BK167.out 1).trans rfl; have hcz16_2 : w15.cell? ⟨gb167, 2, none⟩ = some (.int .i64 a0_2) := (blk_cell BK167.out 2).trans rfl; have hcz16_3 : w15.cell? ⟨gb167, 3, none⟩ = some (.int .i64 a0_3) := (blk_cell BK167.out 3).trans rfl; have hcz16_4 : w15.cell? ⟨gb167, 4, none⟩ = some (.int .u32 a0_4) := (blk_cell BK167.out 4).trans rfl; have hfz16_0 := blk_frozen BK167.out 0; have hfz16_1 := blk_frozen BK167.out 1; have hfz16_2 := blk_frozen BK167.out 2; have hfz16_3 := blk_frozen BK167.out 3; have hfz16_4 := blk_frozen BK167.out 4))
            go_ret
            exact ⟨by first | rfl | (simp [errW_none, errW_some] <;> rfl) | (simp [*, errW_none, errW_some] <;> rfl), by repeat (first | (with_reducible first | exact HB.out | apply below_alloc | apply pw_below_drewN | apply below_drew1 | refine below_set ?_ GE167.out) | exact HB.out)⟩
        · rw [if_neg c5] at H
          have c5b0 : decide (1 ≤ a0_2) = false := decide_eq_false c5
          clear c5
          obtain rfl := Option.some.inj H
          go_enter Try.func43, Try.ntmps43
          go_wp2_with (first | ((with_reducible refine gate_dst (N := 1) rfl ?_); refine box_event ?hg (N := 1) ?hd (cs := #[.int .u32 a0_0, .int .i64 a0_1, .int .i64 a0_2, .int .i64 a0_3, .int .u32 a0_4]) (t := 24) ?hr ?_; (case hd => rfl); (case hg => rfl); (case hr => first | (go_simp; done) | (go_simp; rfl)); intro gb167 hg w17 hbox hb; have n0_ := Aside0.mk (below_step (by repeat (first | (with_reducible first | exact HB.out | apply below_alloc | apply pw_below_drewN | apply below_drew1) | exact HB.out)) hb); have n1_ := Aside0.mk (hbox); have n2_ := Aside0.mk ((by rw [hg]; exact (below_size (by repeat (first | (with_reducible first | exact HB.out | apply below_alloc | apply pw_below_drewN | apply below_drew1) | exact HB.out))) : w.heap.size ≤ gb167)); have n3_ := Aside0.mk ((by rw [hg]; exact (below_size (by repeat (first | (with_reducible first | exact HB.out | apply below_alloc | apply pw_below_drewN | apply below_drew1) | exact HB.out))) : w.heap.size ≤ gb167)); clear HB; have HB := n0_; have BK167 := n1_; have GW167 := n2_; have GE167 := n3_; clear n0_ n1_ n2_ n3_; clear hb hbox hg; have hcz18_0 : w17.cell? ⟨gb167, 0, none⟩ = some (.int .u32 a0_0) := (blk_cell BK167.out 0).trans rfl; have hcz18_1 : w17.cell? ⟨gb167, 1, none⟩ = some (.int .i64 a0_1) := (blk_cell BK167.out 1).trans rfl; have hcz18_2 : w17.cell? ⟨gb167, 2, none⟩ = some (.int .i64 a0_2) := (blk_cell BK167.out 2).trans rfl; have hcz18_3 : w17.cell? ⟨gb167, 3, none⟩ = some (.int .i64 a0_3) := (blk_cell BK167.out 3).trans rfl; have hcz18_4 : w17.cell? ⟨gb167, 4, none⟩ = some (.int .u32 a0_4) := (blk_cell BK167.out 4).trans rfl; have hfz18_0 := blk_frozen BK167.out 0; have hfz18_1 := blk_frozen BK167.out 1; have hfz18_2 := blk_frozen BK167.out 2; have hfz18_3 := blk_frozen BK167.out 3; have hfz18_4 := blk_frozen BK167.out 4))
          go_ret
          exact ⟨by first | rfl | (simp [errW_none, errW_some] <;> rfl) | (simp [*, errW_none, errW_some] <;> rfl), by repeat (first | (with_reducible first | exact HB.out | apply below_alloc | apply pw_below_drewN | apply below_drew1 | refine below_set ?_ GE167.out) | exact HB.out)⟩
      · rw [if_neg c4] at H
        have c4b0 : decide (a0_1 ≤ 8) = false := decide_eq_false c4
        clear c4
        obtain rfl := Option.some.inj H
        go_enter Try.func43, Try.ntmps43
        go_wp2_with (first | ((with_reducible refine gate_dst (N := 1) rfl ?_); refine box_event ?hg (N := 1) ?hd (cs := #[.int .u32 a0_0, .int .i64 a0_1, .int .i64 a0_2, .int .i64 a0_3, .int .u32 a0_4]) (t := 24) ?hr ?_; (case hd => rfl); (case hg => rfl); (case hr => first | (go_simp; done) | (go_simp; rfl)); intro gb167 hg w19 hbox hb; have n0_ := Aside0.mk (below_step (by repeat (first | (with_reducible first | exact HB.out | apply below_alloc | apply pw_below_drewN | apply below_drew1) | exact HB.out)) hb); have n1_ := Aside0.mk (hbox); have n2_ := Aside0.mk ((by rw [hg]; exact (below_size (by repeat (first | (with_reducible first | exact HB.out | apply below_alloc | apply pw_below_drewN | apply below_drew1) | exact HB.out))) : w.heap.size ≤ gb167)); have n3_ := Aside0.mk ((by rw [hg]; exact (below_size (by repeat (first | (with_reducible first | exact HB.out | apply below_alloc | apply pw_below_drewN | apply below_drew1) | exact HB.out))) : w.heap.size ≤ gb167)); clear HB; have HB := n0_; have BK167 := n1_; have GW167 := n2_; have GE167 := n3_; clear n0_ n1_ n2_ n3_; clear hb hbox hg; have hcz20_0 : w19.cell? ⟨gb167, 0, none⟩ = some (.int .u32 a0_0) := (blk_cell BK167.out 0).trans rfl; have hcz20_1 : w19.cell? ⟨gb167, 1, none⟩ = some (.int .i64 a0_1) := (blk_cell BK167.out 1).trans rfl; have hcz20_2 : w19.cell? ⟨gb167, 2, none⟩ = some (.int .i64 a0_2) := (blk_cell BK167.out 2).trans rfl; have hcz20_3 : w19.cell? ⟨gb167, 3, none⟩ = some (.int .i64 a0_3) := (blk_cell BK167.out 3).trans rfl; have hcz20_4 : w19.cell? ⟨gb167, 4, none⟩ = some (.int .u32 a0_4) := (blk_cell BK167.out 4).trans rfl; have hfz20_0 := blk_frozen BK167.out 0; have hfz20_1 := blk_frozen BK167.out 1; have hfz20_2 := blk_frozen BK167.out 2; have hfz20_3 := blk_frozen BK167.out 3; have hfz20_4 := blk_frozen BK167.out 4))
        go_ret
        exact ⟨by first | rfl | (simp [errW_none, errW_some] <;> rfl) | (simp [*, errW_none, errW_some] <;> rfl), by repeat (first | (with_reducible first | exact HB.out | apply below_alloc | apply pw_below_drewN | apply below_drew1 | refine below_set ?_ GE167.out) | exact HB.out)⟩
    · rw [if_neg c3] at H
      have c3b0 : decide (1 ≤ a0_1) = false := decide_eq_false c3
      clear c3
      obtain rfl := Option.some.inj H
      go_enter Try.func43, Try.ntmps43
      go_wp2_with (first | ((with_reducible refine gate_dst (N := 1) rfl ?_); refine box_event ?hg (N := 1) ?hd (cs := #[.int .u32 a0_0, .int .i64 a0_1, .int .i64 a0_2, .int .i64 a0_3, .int .u32 a0_4]) (t := 24) ?hr ?_; (case hd => rfl); (case hg => rfl); (case hr => first | (go_simp; done) | (go_simp; rfl)); intro gb167 hg w21 hbox hb; have n0_ := Aside0.mk (below_step (by repeat (first | (with_reducible first | exact HB.out | apply below_alloc | apply pw_below_drewN | apply below_drew1) | exact HB.out)) hb); have n1_ := Aside0.mk (hbox); have n2_ := Aside0.mk ((by rw [hg]; exact (below_size (by repeat (first | (with_reducible first | exact HB.out | apply below_alloc | apply pw_below_drewN | apply below_drew1) | exact HB.out))) : w.heap.size ≤ gb167)); have n3_ := Aside0.mk ((by rw [hg]; exact (below_size (by repeat (first | (with_reducible first | exact HB.out | apply below_alloc | apply pw_below_drewN | apply below_drew1) | exact HB.out))) : w.heap.size ≤ gb167)); clear HB; have HB := n0_; have BK167 := n1_; have GW167 := n2_; have GE167 := n3_; clear n0_ n1_ n2_ n3_; clear hb hbox hg; have hcz22_0 : w21.cell? ⟨gb167, 0, none⟩ = some (.int .u32 a0_0) := (blk_cell BK167.out 0).trans rfl; have hcz22_1 : w21.cell? ⟨gb167, 1, none⟩ = some (.int .i64 a0_1) := (blk_cell BK167.out 1).trans rfl; have hcz22_2 : w21.cell? ⟨gb167, 2, none⟩ = some (.int .i64 a0_2) := (blk_cell BK167.out 2).trans rfl; have hcz22_3 : w21.cell? ⟨gb167, 3, none⟩ = some (.int .i64 a0_3) := (blk_cell BK167.out 3).trans rfl; have hcz22_4 : w21.cell? ⟨gb167, 4, none⟩ = some (.int .u32 a0_4) := (blk_cell BK167.out 4).trans rfl; have hfz22_0 := blk_frozen BK167.out 0; have hfz22_1 := blk_frozen BK167.out 1; have hfz22_2 := blk_frozen BK167.out 2; have hfz22_3 := blk_frozen BK167.out 3; have hfz22_4 := blk_frozen BK167.out 4))
      go_ret
      exact ⟨by first | rfl | (simp [errW_none, errW_some] <;> rfl) | (simp [*, errW_none, errW_some] <;> rfl), by repeat (first | (with_reducible first | exact HB.out | apply below_alloc | apply pw_below_drewN | apply below_drew1 | refine below_set ?_ GE167.out) | exact HB.out)⟩
  · rw [if_neg c2] at H
    have c2b0 : decide (0 < a0_0) = false := decide_eq_false c2
    clear c2
    obtain rfl := Option.some.inj H
    go_enter Try.func43, Try.ntmps43
    go_wp2_with (first | ((with_reducible refine gate_dst (N := 1) rfl ?_); refine box_event ?hg (N := 1) ?hd (cs := #[.int .u32 a0_0, .int .i64 a0_1, .int .i64 a0_2, .int .i64 a0_3, .int .u32 a0_4]) (t := 24) ?hr ?_; (case hd => rfl); (case hg => rfl); (case hr => first | (go_simp; done) | (go_simp; rfl)); intro gb167 hg w23 hbox hb; have n0_ := Aside0.mk (below_step (by repeat (first | (with_reducible first | exact HB.out | apply below_alloc | apply pw_below_drewN | apply below_drew1) | exact HB.out)) hb); have n1_ := Aside0.mk (hbox); have n2_ := Aside0.mk ((by rw [hg]; exact (below_size (by repeat (first | (with_reducible first | exact HB.out | apply below_alloc | apply pw_below_drewN | apply below_drew1) | exact HB.out))) : w.heap.size ≤ gb167)); have n3_ := Aside0.mk ((by rw [hg]; exact (below_size (by repeat (first | (with_reducible first | exact HB.out | apply below_alloc | apply pw_below_drewN | apply below_drew1) | exact HB.out))) : w.heap.size ≤ gb167)); clear HB; have HB := n0_; have BK167 := n1_; have GW167 := n2_; have GE167 := n3_; clear n0_ n1_ n2_ n3_; clear hb hbox hg; have hcz24_0 : w23.cell? ⟨gb167, 0, none⟩ = some (.int .u32 a0_0) := (blk_cell BK167.out 0).trans rfl; have hcz24_1 : w23.cell? ⟨gb167, 1, none⟩ = some (.int .i64 a0_1) := (blk_cell BK167.out 1).trans rfl; have hcz24_2 : w23.cell? ⟨gb167, 2, none⟩ = some (.int .i64 a0_2) := (blk_cell BK167.out 2).trans rfl; have hcz24_3 : w23.cell? ⟨gb167, 3, none⟩ = some (.int .i64 a0_3) := (blk_cell BK167.out 3).trans rfl; have hcz24_4 : w23.cell? ⟨gb167, 4, none⟩ = some (.int .u32 a0_4) := (blk_cell BK167.out 4).trans rfl; have hfz24_0 := blk_frozen BK167.out 0; have hfz24_1 := blk_frozen BK167.out 1; have hfz24_2 := blk_frozen BK167.out 2; have hfz24_3 := blk_frozen BK167.out 3; have hfz24_4 := blk_frozen BK167.out 4))
    go_ret
    exact ⟨by first | rfl | (simp [errW_none, errW_some] <;> rfl) | (simp [*, errW_none, errW_some] <;> rfl), by repeat (first | (with_reducible first | exact HB.out | apply below_alloc | apply pw_below_drewN | apply below_drew1 | refine below_set ?_ GE167.out) | exact HB.out)⟩

/-! ### parapetref02_Word: function 44 -/
def parapetref02_Word.f (a0 : Int) : Option (List Int) := some (([(a0 / 16777216) % 256, (a0 / 65536) % 256, (a0 / 256) % 256, (a0) % 256] : List Int))
set_option maxHeartbeats 8000000 in
set_option maxRecDepth 100000 in
theorem parapetref02_Word.calls (a0 : Int) (r : List Int) (w : World) (h : parapetref02_Word.f a0 = some r) :
    Calls Try.prog 44 #[.int .u32 a0] w fun e w' => ∃ v0_ : Value, e = .returned (v0_) ∧ Kd.R (Kd.int .u8) 5 w' w.heap.size (fun _ => True) v0_ r ∧ Below w.heap.size w w' := by
  have HB := Aside0.mk (Below.refl w.heap.size w)
  have H : (some (([(a0 / 16777216) % 256, (a0 / 65536) % 256, (a0 / 256) % 256, (a0) % 256] : List Int))) = some r := h
  clear h
  obtain ⟨y168, hy168⟩ : ∃ y_ : List Int, y_ = (([(a0 / 16777216) % 256, (a0 / 65536) % 256, (a0 / 256) % 256, (a0) % 256] : List Int)) := ⟨_, rfl⟩
  replace H : (some y168) = some r := by first | (rw [hy168]; with_reducible exact H) | (have H2_ := (Option.bind_some _ _).symm.trans H; rw [hy168]; with_reducible exact H2_) | (have H2_ := (Option.bind_some _ _).symm.trans H; with_reducible exact H2_) | with_reducible exact H | (rw [hy168]; exact H) | exact H
  have Ny168 := Aside0.mk hy168
  clear hy168
  obtain rfl := Option.some.inj H
  go_enter Try.func44, Try.ntmps44
  go_wp2_with (first | ((with_reducible refine gate_dst (N := 14) rfl ?_); refine Kd.R_lit (Kd.int .u8) _ 5 ?hg (N := 14) ?hd (xs := ([(a0 / 16777216) % 256, (a0 / 65536) % 256, (a0 / 256) % 256, (a0) % 256] : List Int)) (inner := [.int .u8 ((a0 / 16777216) % 256), .int .u8 ((a0 / 65536) % 256), .int .u8 ((a0 / 256) % 256), .int .u8 ((a0) % 256)]) (ok := fun _ => True) (okp := fun _ => True) ?hr ?hp (fun _ hk => hk) trivial (Below.refl _ _) (Nat.le_refl _) (by simp) ?_; (case hd => rfl); (case hg => rfl); (case hr => first | (go_simp; done) | (go_simp; rfl)); (case hp => exact (Reps.one (show Kd.M (Kd.int .u8) _ _ _ ((a0 / 16777216) % 256) [.int .u8 ((a0 / 16777216) % 256)] from rfl) (Reps.one (show Kd.M (Kd.int .u8) _ _ _ ((a0 / 65536) % 256) [.int .u8 ((a0 / 65536) % 256)] from rfl) (Reps.one (show Kd.M (Kd.int .u8) _ _ _ ((a0 / 256) % 256) [.int .u8 ((a0 / 256) % 256)] from rfl) (Reps.one (show Kd.M (Kd.int .u8) _ _ _ ((a0) % 256) [.int .u8 ((a0) % 256)] from rfl) (Reps.none _ _)))))); intro v169 w2 ho3 hb hg_ hnew_; clear hg_ hnew_; (first | rw [← Ny168.out] at ho3 | (simp only [Int.reduceToNat] at ho3; rw [← Ny168.out] at ho3)); have n0_ := Aside0.mk (Kd.R_lower ho3 (below_size (by repeat (first | (with_reducible first | exact HB.out | apply below_alloc | apply pw_below_drewN | apply below_drew1) | exact HB.out)))); have n1_ := Aside0.mk (below_step (by repeat (first | (with_reducible first | exact HB.out | apply below_alloc | apply pw_below_drewN | apply below_drew1) | exact HB.out)) hb); clear HB; have HO170 := n0_; have HB := n1_; clear n0_ n1_; clear hb ho3))
  go_ret
  exact ⟨_, by first | rfl | (simp [errW_none, errW_some] <;> rfl) | (simp [*, errW_none, errW_some] <;> rfl), by (with_reducible repeat (first | apply Kd.R_alloc | apply Kd.R_drewN | apply Kd.R_drew)); exact HO170.out, by repeat (first | (with_reducible first | exact HB.out | apply below_alloc | apply pw_below_drewN | apply below_drew1) | exact HB.out)⟩

/-! ### parapetref09_Encode: function 15 -/
def parapetref09_Encode.f (a0_0 : Int) (a0_1 : Int) (a0_2 : Int) (a0_3 : Int) (a0_4 : Int) : Option (List Int × Int) := (parapetref09_Lawful.f a0_0 a0_1 a0_2 a0_3 a0_4).bind fun t172 => (if t172 = true then ((some (([] : List Int) : List Int)).bind fun y173 => ((parapetref02_Word.f a0_0).bind fun t176 => (if y173.length + t176.length < 140737488355328 then ((some (y173 ++ t176 : List Int)).bind fun y179 => ((some (([(a0_1) % 256, (a0_2) % 256] : List Int) : List Int)).bind fun y182 => (if y179.length + y182.length < 140737488355328 then ((some (y179 ++ y182 : List Int)).bind fun y185 => ((parapetref02_Word.f ((a0_3) % 4294967296)).bind fun t188 => (if y185.length + t188.length < 140737488355328 then ((some (y185 ++ t188 : List Int)).bind fun y191 => ((parapetref02_Word.f a0_4).bind fun t194 => (if y191.length + t194.length < 140737488355328 then (some ((y191 ++ t194), 0)) else (none)))) else (none)))) else (none)))) else (none)))) else (some (([] : List Int), 90)))
set_option maxHeartbeats 8000000 in
set_option maxRecDepth 100000 in
theorem parapetref09_Encode.calls (a0_0 : Int) (a0_1 : Int) (a0_2 : Int) (a0_3 : Int) (a0_4 : Int) (r1 : List Int) (r2 : Int) (w : World) (h : parapetref09_Encode.f a0_0 a0_1 a0_2 a0_3 a0_4 = some (r1, r2)) :
    Calls Try.prog 15 #[.agg #[.int .u32 a0_0, .int .i64 a0_1, .int .i64 a0_2, .int .i64 a0_3, .int .u32 a0_4]] w fun e w' => ∃ v0_ : Value, e = .returned (.tuple #[v0_, .int .i64 r2]) ∧ Kd.R (Kd.int .u8) 5 w' w.heap.size (fun _ => True) v0_ r1 ∧ Below w.heap.size w w' := by
  have hu24 := Try.underlying24
  have HB := Aside0.mk (Below.refl w.heap.size w)
  have H : ((parapetref09_Lawful.f a0_0 a0_1 a0_2 a0_3 a0_4).bind fun t172 => (if t172 = true then ((some (([] : List Int) : List Int)).bind fun y173 => ((parapetref02_Word.f a0_0).bind fun t176 => (if y173.length + t176.length < 140737488355328 then ((some (y173 ++ t176 : List Int)).bind fun y179 => ((some (([(a0_1) % 256, (a0_2) % 256] : List Int) : List Int)).bind fun y182 => (if y179.length + y182.length < 140737488355328 then ((some (y179 ++ y182 : List Int)).bind fun y185 => ((parapetref02_Word.f ((a0_3) % 4294967296)).bind fun t188 => (if y185.length + t188.length < 140737488355328 then ((some (y185 ++ t188 : List Int)).bind fun y191 => ((parapetref02_Word.f a0_4).bind fun t194 => (if y191.length + t194.length < 140737488355328 then (some ((y191 ++ t194), 0)) else (none)))) else (none)))) else (none)))) else (none)))) else (some (([] : List Int), 90)))) = some (r1, r2) := h
  clear h
  replace H := Option.bind_eq_some_iff.mp H
  obtain ⟨t172, A20, H⟩ := H
  replace H : (if t172 = true then ((some (([] : List Int) : List Int)).bind fun y173 => ((parapetref02_Word.f a0_0).bind fun t176 => (if y173.length + t176.length < 140737488355328 then ((some (y173 ++ t176 : List Int)).bind fun y179 => ((some (([(a0_1) % 256, (a0_2) % 256] : List Int) : List Int)).bind fun y182 => (if y179.length + y182.length < 140737488355328 then ((some (y179 ++ y182 : List Int)).bind fun y185 => ((parapetref02_Word.f ((a0_3) % 4294967296)).bind fun t188 => (if y185.length + t188.length < 140737488355328 then ((some (y185 ++ t188 : List Int)).bind fun y191 => ((parapetref02_Word.f a0_4).bind fun t194 => (if y191.length + t194.length < 140737488355328 then (some ((y191 ++ t194), 0)) else (none)))) else (none)))) else (none)))) else (none)))) else (some (([] : List Int), 90))) = some (r1, r2) := H
  have A2 := Aside0.mk A20
  clear A20
  by_cases c3 : t172 = true
  · subst c3
    have H1 : ((some (([] : List Int) : List Int)).bind fun y173 => ((parapetref02_Word.f a0_0).bind fun t176 => (if y173.length + t176.length < 140737488355328 then ((some (y173 ++ t176 : List Int)).bind fun y179 => ((some (([(a0_1) % 256, (a0_2) % 256] : List Int) : List Int)).bind fun y182 => (if y179.length + y182.length < 140737488355328 then ((some (y179 ++ y182 : List Int)).bind fun y185 => ((parapetref02_Word.f ((a0_3) % 4294967296)).bind fun t188 => (if y185.length + t188.length < 140737488355328 then ((some (y185 ++ t188 : List Int)).bind fun y191 => ((parapetref02_Word.f a0_4).bind fun t194 => (if y191.length + t194.length < 140737488355328 then (some ((y191 ++ t194), 0)) else (none)))) else (none)))) else (none)))) else (none)))) = some (r1, r2) := by rw [if_pos rfl] at H; exact H
    clear H
    have H := H1
    clear H1
    obtain ⟨y173, hy173⟩ : ∃ y_ : List Int, y_ = (([] : List Int)) := ⟨_, rfl⟩
    replace H : ((parapetref02_Word.f a0_0).bind fun t176 => (if y173.length + t176.length < 140737488355328 then ((some (y173 ++ t176 : List Int)).bind fun y179 => ((some (([(a0_1) % 256, (a0_2) % 256] : List Int) : List Int)).bind fun y182 => (if y179.length + y182.length < 140737488355328 then ((some (y179 ++ y182 : List Int)).bind fun y185 => ((parapetref02_Word.f ((a0_3) % 4294967296)).bind fun t188 => (if y185.length + t188.length < 140737488355328 then ((some (y185 ++ t188 : List Int)).bind fun y191 => ((parapetref02_Word.f a0_4).bind fun t194 => (if y191.length + t194.length < 140737488355328 then (some ((y191 ++ t194), 0)) else (none)))) else (none)))) else (none)))) else (none))) = some (r1, r2) := by first | (rw [hy173]; with_reducible exact H) | (have H2_ := (Option.bind_some _ _).symm.trans H; rw [hy173]; with_reducible exact H2_) | (have H2_ := (Option.bind_some _ _).symm.trans H; with_reducible exact H2_) | with_reducible exact H | (rw [hy173]; exact H) | exact H
    have Ny173 := Aside0.mk hy173
    clear hy173
    replace H := Option.bind_eq_some_iff.mp H
    obtain ⟨t176, A40, H⟩ := H
    replace H : (if y173.length + t176.length < 140737488355328 then ((some (y173 ++ t176 : List Int)).bind fun y179 => ((some (([(a0_1) % 256, (a0_2) % 256] : List Int) : List Int)).bind fun y182 => (if y179.length + y182.length < 140737488355328 then ((some (y179 ++ y182 : List Int)).bind fun y185 => ((parapetref02_Word.f ((a0_3) % 4294967296)).bind fun t188 => (if y185.length + t188.length < 140737488355328 then ((some (y185 ++ t188 : List Int)).bind fun y191 => ((parapetref02_Word.f a0_4).bind fun t194 => (if y191.length + t194.length < 140737488355328 then (some ((y191 ++ t194), 0)) else (none)))) else (none)))) else (none)))) else (none)) = some (r1, r2) := H
    have A4 := Aside0.mk A40
    clear A40
    by_cases c5 : y173.length + t176.length < 140737488355328
    · rw [if_pos c5] at H
      have LMc5 := Aside0.mk c5
      clear c5
      obtain ⟨y179, hy179⟩ : ∃ y_ : List Int, y_ = (y173 ++ t176) := ⟨_, rfl⟩
      replace H : ((some (([(a0_1) % 256, (a0_2) % 256] : List Int) : List Int)).bind fun y182 => (if y179.length + y182.length < 140737488355328 then ((some (y179 ++ y182 : List Int)).bind fun y185 => ((parapetref02_Word.f ((a0_3) % 4294967296)).bind fun t188 => (if y185.length + t188.length < 140737488355328 then ((some (y185 ++ t188 : List Int)).bind fun y191 => ((parapetref02_Word.f a0_4).bind fun t194 => (if y191.length + t194.length < 140737488355328 then (some ((y191 ++ t194), 0)) else (none)))) else (none)))) else (none))) = some (r1, r2) := by first | (rw [hy179]; with_reducible exact H) | (have H2_ := (Option.bind_some _ _).symm.trans H; rw [hy179]; with_reducible exact H2_) | (have H2_ := (Option.bind_some _ _).symm.trans H; with_reducible exact H2_) | with_reducible exact H | (rw [hy179]; exact H) | exact H
      have Ny179 := Aside0.mk hy179
      clear hy179
      obtain ⟨y182, hy182⟩ : ∃ y_ : List Int, y_ = (([(a0_1) % 256, (a0_2) % 256] : List Int)) := ⟨_, rfl⟩
      replace H : (if y179.length + y182.length < 140737488355328 then ((some (y179 ++ y182 : List Int)).bind fun y185 => ((parapetref02_Word.f ((a0_3) % 4294967296)).bind fun t188 => (if y185.length + t188.length < 140737488355328 then ((some (y185 ++ t188 : List Int)).bind fun y191 => ((parapetref02_Word.f a0_4).bind fun t194 => (if y191.length + t194.length < 140737488355328 then (some ((y191 ++ t194), 0)) else (none)))) else (none)))) else (none)) = some (r1, r2) := by first | (rw [hy182]; with_reducible exact H) | (have H2_ := (Option.bind_some _ _).symm.trans H; rw [hy182]; with_reducible exact H2_) | (have H2_ := (Option.bind_some _ _).symm.trans H; with_reducible exact H2_) | with_reducible exact H | (rw [hy182]; exact H) | exact H
      have Ny182 := Aside0.mk hy182
      clear hy182
      by_cases c6 : y179.length + y182.length < 140737488355328
      · rw [if_pos c6] at H
        have LMc6 := Aside0.mk c6
        clear c6
        obtain ⟨y185, hy185⟩ : ∃ y_ : List Int, y_ = (y179 ++ y182) := ⟨_, rfl⟩
        replace H : ((parapetref02_Word.f ((a0_3) % 4294967296)).bind fun t188 => (if y185.length + t188.length < 140737488355328 then ((some (y185 ++ t188 : List Int)).bind fun y191 => ((parapetref02_Word.f a0_4).bind fun t194 => (if y191.length + t194.length < 140737488355328 then (some ((y191 ++ t194), 0)) else (none)))) else (none))) = some (r1, r2) := by first | (rw [hy185]; with_reducible exact H) | (have H2_ := (Option.bind_some _ _).symm.trans H; rw [hy185]; with_reducible exact H2_) | (have H2_ := (Option.bind_some _ _).symm.trans H; with_reducible exact H2_) | with_reducible exact H | (rw [hy185]; exact H) | exact H
        have Ny185 := Aside0.mk hy185
        clear hy185
        replace H := Option.bind_eq_some_iff.mp H
        obtain ⟨t188, A70, H⟩ := H
        replace H : (if y185.length + t188.length < 140737488355328 then ((some (y185 ++ t188 : List Int)).bind fun y191 => ((parapetref02_Word.f a0_4).bind fun t194 => (if y191.length + t194.length < 140737488355328 then (some ((y191 ++ t194), 0)) else (none)))) else (none)) = some (r1, r2) := H
        have A7 := Aside0.mk A70
        clear A70
        by_cases c8 : y185.length + t188.length < 140737488355328
        · rw [if_pos c8] at H
          have LMc8 := Aside0.mk c8
          clear c8
          obtain ⟨y191, hy191⟩ : ∃ y_ : List Int, y_ = (y185 ++ t188) := ⟨_, rfl⟩
          replace H : ((parapetref02_Word.f a0_4).bind fun t194 => (if y191.length + t194.length < 140737488355328 then (some ((y191 ++ t194), 0)) else (none))) = some (r1, r2) := by first | (rw [hy191]; with_reducible exact H) | (have H2_ := (Option.bind_some _ _).symm.trans H; rw [hy191]; with_reducible exact H2_) | (have H2_ := (Option.bind_some _ _).symm.trans H; with_reducible exact H2_) | with_reducible exact H | (rw [hy191]; exact H) | exact H
          have Ny191 := Aside0.mk hy191
          clear hy191
          replace H := Option.bind_eq_some_iff.mp H
          obtain ⟨t194, A90, H⟩ := H
          replace H : (if y191.length + t194.length < 140737488355328 then (some ((y191 ++ t194), 0)) else (none)) = some (r1, r2) := H
          have A9 := Aside0.mk A90
          clear A90
          by_cases c10 : y191.length + t194.length < 140737488355328
          · rw [if_pos c10] at H
            have LMc10 := Aside0.mk c10
            clear c10
            obtain ⟨y197, hy197⟩ : ∃ y_ : List Int, y_ = (y191 ++ t194) := ⟨_, rfl⟩
            replace H : (some (y197, 0)) = some (r1, r2) := by first | (rw [hy197]; with_reducible exact H) | (have H2_ := (Option.bind_some _ _).symm.trans H; rw [hy197]; with_reducible exact H2_) | (have H2_ := (Option.bind_some _ _).symm.trans H; with_reducible exact H2_) | with_reducible exact H | (rw [hy197]; exact H) | exact H
            have Ny197 := Aside0.mk hy197
            clear hy197
            simp only [Option.some.injEq, Prod.mk.injEq] at H
            obtain ⟨rfl, rfl⟩ := H
            go_enter Try.func15, Try.ntmps15
            go_wp2_with (first | ((with_reducible refine gate_dst (N := 1) rfl ?_); refine box_event ?hg (N := 1) ?hd (cs := #[.int .u32 a0_0, .int .i64 a0_1, .int .i64 a0_2, .int .i64 a0_3, .int .u32 a0_4]) (t := 24) ?hr ?_; (case hd => rfl); (case hg => rfl); (case hr => first | (go_simp; done) | (go_simp; rfl)); intro gb171 hg w11 hbox hb; have n0_ := Aside0.mk (below_step (by repeat (first | (with_reducible first | exact HB.out | apply below_alloc | apply pw_below_drewN | apply below_drew1) | exact HB.out)) hb); have n1_ := Aside0.mk (hbox); have n2_ := Aside0.mk ((by rw [hg]; exact (below_size (by repeat (first | (with_reducible first | exact HB.out | apply below_alloc | apply pw_below_drewN | apply below_drew1) | exact HB.out))) : w.heap.size ≤ gb171)); have n3_ := Aside0.mk ((by rw [hg]; exact (below_size (by repeat (first | (with_reducible first | exact HB.out | apply below_alloc | apply pw_below_drewN | apply below_drew1) | exact HB.out))) : w.heap.size ≤ gb171)); clear HB; have HB := n0_; have BK171 := n1_; have GW171 := n2_; have GE171 := n3_; clear n0_ n1_ n2_ n3_; clear hb hbox hg; have hcz12_0 : w11.cell? ⟨gb171, 0, none⟩ = some (.int .u32 a0_0) := (blk_cell BK171.out 0).trans rfl; have hcz12_1 : w11.cell? ⟨gb171, 1, none⟩ = some (.int .i64 a0_1) := (blk_cell BK171.out 1).trans rfl; have hcz12_2 : w11.cell? ⟨gb171, 2, none⟩ = some (.int .i64 a0_2) := (blk_cell BK171.out 2).trans rfl; have hcz12_3 : w11.cell? ⟨gb171, 3, none⟩ = some (.int .i64 a0_3) := (blk_cell BK171.out 3).trans rfl; have hcz12_4 : w11.cell? ⟨gb171, 4, none⟩ = some (.int .u32 a0_4) := (blk_cell BK171.out 4).trans rfl; have hfz12_0 := blk_frozen BK171.out 0; have hfz12_1 := blk_frozen BK171.out 1; have hfz12_2 := blk_frozen BK171.out 2; have hfz12_3 := blk_frozen BK171.out 3; have hfz12_4 := blk_frozen BK171.out 4) | ((with_reducible refine gate_callee (f := 43) rfl ?_); refine goesL_ (some 6) rfl rfl Try.func43 (by kernel_rfl) rfl #[.agg #[.int .u32 a0_0, .int .i64 a0_1, .int .i64 a0_2, .int .i64 a0_3, .int .u32 a0_4]] rfl (by (try simp only [List.map_toArray, List.map_cons, List.map_nil]); first | done | rfl | (simp only [List.length_drop, List.length_take]; rfl)) ?_; (with_reducible refine (parapetref09_Lawful.calls a0_0 a0_1 a0_2 a0_3 a0_4 true _ A2.out).mono ?_); rintro e w13 ⟨rfl, hb⟩; refine ⟨_, rfl, ?_⟩; have n0_ := Aside0.mk (blk_below (g := gb171) (o := .cells #[.int .u32 a0_0, .int .i64 a0_1, .int .i64 a0_2, .int .i64 a0_3, .int .u32 a0_4] 24 (0, 0)) (by (with_reducible repeat (first | refine blk_drewN ?_ _ | refine blk_drew ?_ | refine blk_alloc ?_ _)); exact BK171.out) hb); have n1_ := Aside0.mk (below_step (by repeat (first | (with_reducible first | exact HB.out | apply below_alloc | apply pw_below_drewN | apply below_drew1 | refine below_set ?_ GE171.out) | exact HB.out)) hb); clear BK171; clear HB; have BK171 := n0_; have HB := n1_; clear n0_ n1_; (try clear hb); (try clear hb2); (try clear hk); (try clear hi)) | ((with_reducible refine gate_dst (N := 8) rfl ?_); refine Kd.R_lit (Kd.int .u8) _ 5 ?hg (N := 8) ?hd (xs := ([] : List Int)) (inner := []) (ok := fun _ => True) (okp := fun _ => True) ?hr ?hp (fun _ hk => hk) trivial (Below.refl _ _) (Nat.le_refl _) (by simp) ?_; (case hd => rfl); (case hg => rfl); (case hr => first | (go_simp; done) | (go_simp; rfl)); (case hp => exact (Reps.none _ _)); intro v174 w14 ho15 hb hg_ hnew_; clear hg_ hnew_; (first | rw [← Ny173.out] at ho15 | (simp only [Int.reduceToNat] at ho15; rw [← Ny173.out] at ho15)); have n0_ := Aside0.mk (Kd.R_lower ho15 (below_size (by repeat (first | (with_reducible first | exact HB.out | apply below_alloc | apply pw_below_drewN | apply below_drew1 | refine below_set ?_ GE171.out) | exact HB.out)))); have n1_ := Aside0.mk (blk_below (g := gb171) (o := .cells #[.int .u32 a0_0, .int .i64 a0_1, .int .i64 a0_2, .int .i64 a0_3, .int .u32 a0_4] 24 (0, 0)) (by (with_reducible repeat (first | refine blk_drewN ?_ _ | refine blk_drew ?_ | refine blk_alloc ?_ _)); exact BK171.out) hb); have n2_ := Aside0.mk (below_step (by repeat (first | (with_reducible first | exact HB.out | apply below_alloc | apply pw_below_drewN | apply below_drew1 | refine below_set ?_ GE171.out) | exact HB.out)) hb); clear BK171; clear HB; have HO175 := n0_; have BK171 := n1_; have HB := n2_; clear n0_ n1_ n2_; clear hb ho15; have hcz16_0 : w14.cell? ⟨gb171, 0, none⟩ = some (.int .u32 a0_0) := (blk_cell BK171.out 0).trans rfl; have hcz16_1 : w14.cell? ⟨gb171, 1, none⟩ = some (.int .i64 a0_1) := (blk_cell BK171.out 1).trans rfl; have hcz16_2 : w14.cell? ⟨gb171, 2, none⟩ = some (.int .i64 a0_2) := (blk_cell BK171.out 2).trans rfl; have hcz16_3 : w14.cell? ⟨gb171, 3, none⟩ = some (.int .i64 a0_3) := (blk_cell BK171.out 3).trans rfl; have hcz16_4 : w14.cell? ⟨gb171, 4, none⟩ = some (.int .u32 a0_4) := (blk_cell BK171.out 4).trans rfl; have hfz16_0 := blk_frozen BK171.out 0; have hfz16_1 := blk_frozen BK171.out 1; have hfz16_2 := blk_frozen BK171.out 2; have hfz16_3 := blk_frozen BK171.out 3; have hfz16_4 := blk_frozen BK171.out 4) | ((with_reducible refine gate_callee (f := 44) rfl ?_); refine goesL_ (some 11) rfl rfl Try.func44 (by kernel_rfl) rfl #[.int .u32 a0_0] rfl (by (try simp only [List.map_toArray, List.map_cons, List.map_nil]); first | done | rfl | (simp only [List.length_drop, List.length_take]; rfl)) ?_; (with_reducible refine (parapetref02_Word.calls a0_0 t176 _ A4.out).mono ?_); rintro e w17 ⟨v177, rfl, ho0, hb⟩; refine ⟨_, rfl, ?_⟩; have n0_ := Aside0.mk (Kd.R_elder' (by (with_reducible repeat (first | apply Kd.R_alloc | apply Kd.R_drewN | apply Kd.R_drew)); exact HO175.out) (Kd.R_base ho0) hb); have n1_ := Aside0.mk (Kd.R_lower (Kd.R_new' ho0 (Kd.R_lt (by (with_reducible repeat (first | apply Kd.R_alloc | apply Kd.R_drewN | apply Kd.R_drew)); exact HO175.out))) (below_size (by repeat (first | (with_reducible first | exact HB.out | apply below_alloc | apply pw_below_drewN | apply below_drew1 | refine below_set ?_ GE171.out) | exact HB.out)))); have n2_ := Aside0.mk (blk_below (g := gb171) (o := .cells #[.int .u32 a0_0, .int .i64 a0_1, .int .i64 a0_2, .int .i64 a0_3, .int .u32 a0_4] 24 (0, 0)) (by (with_reducible repeat (first | refine blk_drewN ?_ _ | refine blk_drew ?_ | refine blk_alloc ?_ _)); exact BK171.out) hb); have n3_ := Aside0.mk (below_step (by repeat (first | (with_reducible first | exact HB.out | apply below_alloc | apply pw_below_drewN | apply below_drew1 | refine below_set ?_ GE171.out) | exact HB.out)) hb); clear HO175; clear BK171; clear HB; have HO175 := n0_; have HO178 := n1_; have BK171 := n2_; have HB := n3_; clear n0_ n1_ n2_ n3_; (try clear hb); (try clear hb2); (try clear hk); (try clear hi); (try clear ho0); obtain ⟨Ao19, co19, eo19⟩ := Kd.R_slice HO178.out; subst eo19) | ((with_reducible refine gate_builtin (b := .append) (xs := #[.tmp 8, .tmp 11]) rfl ?_); at_builtin; refine Kd.R_append_rows (Kd.int .u8) (w0 := w) w.heap.size rfl (.tmp 8) (.tmp 11) 25 5 (.int .u8 0) 1 rfl Try.underlying25 info5 rfl (by decide) (by omega) v174 y173 t176 _ _ _ (fun k_ => some k_ ≠ (.slice Ao19 t176.length co19 : Value).ownBlock) (fun _ => False) rfl rfl ?aO ?aR (fun _ _ h => h) (fun _ h => h.elim) ?aF ?aB ?aS ?aL ?_; (case aR => repeat (first | exact (Kd.R_reads' HO178.out).2.2 | (with_reducible refine Kd.C_alloc ?_ _) | (with_reducible refine Kd.C_drewN ?_ _) | (with_reducible refine Kd.C_drew ?_))); (case aB => exact (by repeat (first | (with_reducible first | exact HB.out | apply below_alloc | apply pw_below_drewN | apply below_drew1 | refine below_set ?_ GE171.out) | exact HB.out))); (case aF => exact (fun k_ hk => Kd.fresh' (Kd.R_lt (by (with_reducible repeat (first | apply Kd.R_alloc | apply Kd.R_drewN | apply Kd.R_drew)); exact HO178.out)) k_ hk)); (case aO => exact (by (with_reducible repeat (first | apply Kd.R_alloc | apply Kd.R_drewN | apply Kd.R_drew)); exact Kd.R_mono HO175.out (fun _ hk => hk.2))); (case aS => exact (below_size (by repeat (first | (with_reducible first | exact HB.out | apply below_alloc | apply pw_below_drewN | apply below_drew1 | refine below_set ?_ GE171.out) | exact HB.out)))); (case aL => have := LMc5.out; omega); intro v180 w18 ho hb hg hat; rw [← Ny179.out] at ho; have n0_ := Aside0.mk (blk_grown (g := gb171) (o := .cells #[.int .u32 a0_0, .int .i64 a0_1, .int .i64 a0_2, .int .i64 a0_3, .int .u32 a0_4] 24 (0, 0)) (by (with_reducible repeat (first | refine blk_drewN ?_ _ | refine blk_drew ?_ | refine blk_alloc ?_ _)); exact BK171.out) hg (Kd.R_ne HO175.out BK171.out (by decide))); have n1_ := Aside0.mk (Kd.R_after (ok := (fun _ => True)) (by (with_reducible repeat (first | apply Kd.R_alloc | apply Kd.R_drewN | apply Kd.R_drew)); exact HO178.out) hg hat); have n2_ := Aside0.mk (hb); have n3_ := Aside0.mk (ho); clear BK171; clear HO178; clear HB; clear HO175; have BK171 := n0_; have HO178 := n1_; have HB := n2_; have HO181 := n3_; clear n0_ n1_ n2_ n3_; clear ho hb hg hat; have hcz20_0 : w18.cell? ⟨gb171, 0, none⟩ = some (.int .u32 a0_0) := (blk_cell BK171.out 0).trans rfl; have hcz20_1 : w18.cell? ⟨gb171, 1, none⟩ = some (.int .i64 a0_1) := (blk_cell BK171.out 1).trans rfl; have hcz20_2 : w18.cell? ⟨gb171, 2, none⟩ = some (.int .i64 a0_2) := (blk_cell BK171.out 2).trans rfl; have hcz20_3 : w18.cell? ⟨gb171, 3, none⟩ = some (.int .i64 a0_3) := (blk_cell BK171.out 3).trans rfl; have hcz20_4 : w18.cell? ⟨gb171, 4, none⟩ = some (.int .u32 a0_4) := (blk_cell BK171.out 4).trans rfl; have hfz20_0 := blk_frozen BK171.out 0; have hfz20_1 := blk_frozen BK171.out 1; have hfz20_2 := blk_frozen BK171.out 2; have hfz20_3 := blk_frozen BK171.out 3; have hfz20_4 := blk_frozen BK171.out 4) | ((with_reducible refine gate_dst (N := 20) rfl ?_); refine Kd.R_lit (Kd.int .u8) _ 5 ?hg (N := 20) ?hd (xs := ([(a0_1) % 256, (a0_2) % 256] : List Int)) (inner := [.int .u8 ((a0_1) % 256), .int .u8 ((a0_2) % 256)]) (ok := fun _ => True) (okp := fun _ => True) ?hr ?hp (fun _ hk => hk) trivial (Below.refl _ _) (Nat.le_refl _) (by simp) ?_; (case hd => rfl); (case hg => rfl); (case hr => first | (go_simp; done) | (go_simp; rfl)); (case hp => exact (Reps.one (show Kd.M (Kd.int .u8) _ _ _ ((a0_1) % 256) [.int .u8 ((a0_1) % 256)] from rfl) (Reps.one (show Kd.M (Kd.int .u8) _ _ _ ((a0_2) % 256) [.int .u8 ((a0_2) % 256)] from rfl) (Reps.none _ _)))); intro v183 w21 ho22 hb hg_ hnew_; clear hg_ hnew_; (first | rw [← Ny182.out] at ho22 | (simp only [Int.reduceToNat] at ho22; rw [← Ny182.out] at ho22)); have n0_ := Aside0.mk (Kd.R_elder' (by (with_reducible repeat (first | apply Kd.R_alloc | apply Kd.R_drewN | apply Kd.R_drew)); exact HO178.out) (Kd.R_base ho22) hb); have n1_ := Aside0.mk (Kd.R_elder' (by (with_reducible repeat (first | apply Kd.R_alloc | apply Kd.R_drewN | apply Kd.R_drew)); exact HO181.out) (Kd.R_base ho22) hb); have n2_ := Aside0.mk (Kd.R_lower (Kd.R_new' (Kd.R_new' ho22 (Kd.R_lt (by (with_reducible repeat (first | apply Kd.R_alloc | apply Kd.R_drewN | apply Kd.R_drew)); exact HO178.out))) (Kd.R_lt (by (with_reducible repeat (first | apply Kd.R_alloc | apply Kd.R_drewN | apply Kd.R_drew)); exact HO181.out))) (below_size (by repeat (first | (with_reducible first | exact HB.out | apply below_alloc | apply pw_below_drewN | apply below_drew1 | refine below_set ?_ GE171.out) | exact HB.out)))); have n3_ := Aside0.mk (blk_below (g := gb171) (o := .cells #[.int .u32 a0_0, .int .i64 a0_1, .int .i64 a0_2, .int .i64 a0_3, .int .u32 a0_4] 24 (0, 0)) (by (with_reducible repeat (first | refine blk_drewN ?_ _ | refine blk_drew ?_ | refine blk_alloc ?_ _)); exact BK171.out) hb); have n4_ := Aside0.mk (below_step (by repeat (first | (with_reducible first | exact HB.out | apply below_alloc | apply pw_below_drewN | apply below_drew1 | refine below_set ?_ GE171.out) | exact HB.out)) hb); clear HO178; clear HO181; clear BK171; clear HB; have HO178 := n0_; have HO181 := n1_; have HO184 := n2_; have BK171 := n3_; have HB := n4_; clear n0_ n1_ n2_ n3_ n4_; clear hb ho22; obtain ⟨Ao24, co24, eo24⟩ := Kd.R_slice HO184.out; subst eo24) | ((with_reducible refine gate_builtin (b := .append) (xs := #[.tmp 13, .tmp 20]) rfl ?_); at_builtin; refine Kd.R_append_rows (Kd.int .u8) (w0 := w) w.heap.size rfl (.tmp 13) (.tmp 20) 25 5 (.int .u8 0) 1 rfl Try.underlying25 info5 rfl (by decide) (by omega) v180 y179 y182 _ _ _ (fun k_ => some k_ ≠ (.slice Ao19 t176.length co19 : Value).ownBlock ∧ some k_ ≠ (.slice Ao24 y182.length co24 : Value).ownBlock) (fun _ => False) rfl rfl ?aO ?aR (fun _ _ h => h) (fun _ h => h.elim) ?aF ?aB ?aS ?aL ?_; (case aR => repeat (first | exact (Kd.R_reads' HO184.out).2.2 | (with_reducible refine Kd.C_alloc ?_ _) | (with_reducible refine Kd.C_drewN ?_ _) | (with_reducible refine Kd.C_drew ?_))); (case aB => exact (by repeat (first | (with_reducible first | exact HB.out | apply below_alloc | apply pw_below_drewN | apply below_drew1 | refine below_set ?_ GE171.out) | exact HB.out))); (case aF => exact (fun k_ hk => ⟨Kd.fresh' (Kd.R_lt (by (with_reducible repeat (first | apply Kd.R_alloc | apply Kd.R_drewN | apply Kd.R_drew)); exact HO178.out)) k_ hk, Kd.fresh' (Kd.R_lt (by (with_reducible repeat (first | apply Kd.R_alloc | apply Kd.R_drewN | apply Kd.R_drew)); exact HO184.out)) k_ hk⟩)); (case aO => exact (by (with_reducible repeat (first | apply Kd.R_alloc | apply Kd.R_drewN | apply Kd.R_drew)); exact HO181.out)); (case aS => exact (below_size (by repeat (first | (with_reducible first | exact HB.out | apply below_alloc | apply pw_below_drewN | apply below_drew1 | refine below_set ?_ GE171.out) | exact HB.out)))); (case aL => have := LMc6.out; omega); intro v186 w23 ho hb hg hat; rw [← Ny185.out] at ho; have n0_ := Aside0.mk (blk_grown (g := gb171) (o := .cells #[.int .u32 a0_0, .int .i64 a0_1, .int .i64 a0_2, .int .i64 a0_3, .int .u32 a0_4] 24 (0, 0)) (by (with_reducible repeat (first | refine blk_drewN ?_ _ | refine blk_drew ?_ | refine blk_alloc ?_ _)); exact BK171.out) hg (Kd.R_ne HO181.out BK171.out (by decide))); have n1_ := Aside0.mk (Kd.R_after (ok := (fun k_ => some k_ ≠ (.slice Ao24 y182.length co24 : Value).ownBlock)) (by (with_reducible repeat (first | apply Kd.R_alloc | apply Kd.R_drewN | apply Kd.R_drew)); exact Kd.R_mono HO178.out (fun _ hk => ⟨hk.2, hk.1.2⟩)) hg hat); have n2_ := Aside0.mk (Kd.R_after (ok := (fun k_ => some k_ ≠ (.slice Ao19 t176.length co19 : Value).ownBlock)) (by (with_reducible repeat (first | apply Kd.R_alloc | apply Kd.R_drewN | apply Kd.R_drew)); exact Kd.R_mono HO184.out (fun _ hk => ⟨hk.1.2, hk.2⟩)) hg hat); have n3_ := Aside0.mk (hb); have n4_ := Aside0.mk (ho); clear BK171; clear HO178; clear HO184; clear HB; clear HO181; have BK171 := n0_; have HO178 := n1_; have HO184 := n2_; have HB := n3_; have HO187 := n4_; clear n0_ n1_ n2_ n3_ n4_; clear ho hb hg hat; have hcz25_0 : w23.cell? ⟨gb171, 0, none⟩ = some (.int .u32 a0_0) := (blk_cell BK171.out 0).trans rfl; have hcz25_1 : w23.cell? ⟨gb171, 1, none⟩ = some (.int .i64 a0_1) := (blk_cell BK171.out 1).trans rfl; have hcz25_2 : w23.cell? ⟨gb171, 2, none⟩ = some (.int .i64 a0_2) := (blk_cell BK171.out 2).trans rfl; have hcz25_3 : w23.cell? ⟨gb171, 3, none⟩ = some (.int .i64 a0_3) := (blk_cell BK171.out 3).trans rfl; have hcz25_4 : w23.cell? ⟨gb171, 4, none⟩ = some (.int .u32 a0_4) := (blk_cell BK171.out 4).trans rfl; have hfz25_0 := blk_frozen BK171.out 0; have hfz25_1 := blk_frozen BK171.out 1; have hfz25_2 := blk_frozen BK171.out 2; have hfz25_3 := blk_frozen BK171.out 3; have hfz25_4 := blk_frozen BK171.out 4) | ((with_reducible refine gate_callee (f := 44) rfl ?_); refine goesL_ (some 26) rfl rfl Try.func44 (by kernel_rfl) rfl #[.int .u32 ((a0_3) % 4294967296)] rfl (by (try simp only [List.map_toArray, List.map_cons, List.map_nil]); first | done | rfl | (simp only [List.length_drop, List.length_take]; rfl)) ?_; (with_reducible refine (parapetref02_Word.calls ((a0_3) % 4294967296) t188 _ A7.out).mono ?_); rintro e w26 ⟨v189, rfl, ho0, hb⟩; refine ⟨_, rfl, ?_⟩; have n0_ := Aside0.mk (Kd.R_elder' (by (with_reducible repeat (first | apply Kd.R_alloc | apply Kd.R_drewN | apply Kd.R_drew)); exact HO178.out) (Kd.R_base ho0) hb); have n1_ := Aside0.mk (Kd.R_elder' (by (with_reducible repeat (first | apply Kd.R_alloc | apply Kd.R_drewN | apply Kd.R_drew)); exact HO184.out) (Kd.R_base ho0) hb); have n2_ := Aside0.mk (Kd.R_elder' (by (with_reducible repeat (first | apply Kd.R_alloc | apply Kd.R_drewN | apply Kd.R_drew)); exact HO187.out) (Kd.R_base ho0) hb); have n3_ := Aside0.mk (Kd.R_lower (Kd.R_new' (Kd.R_new' (Kd.R_new' ho0 (Kd.R_lt (by (with_reducible repeat (first | apply Kd.R_alloc | apply Kd.R_drewN | apply Kd.R_drew)); exact HO178.out))) (Kd.R_lt (by (with_reducible repeat (first | apply Kd.R_alloc | apply Kd.R_drewN | apply Kd.R_drew)); exact HO184.out))) (Kd.R_lt (by (with_reducible repeat (first | apply Kd.R_alloc | apply Kd.R_drewN | apply Kd.R_drew)); exact HO187.out))) (below_size (by repeat (first | (with_reducible first | exact HB.out | apply below_alloc | apply pw_below_drewN | apply below_drew1 | refine below_set ?_ GE171.out) | exact HB.out)))); have n4_ := Aside0.mk (blk_below (g := gb171) (o := .cells #[.int .u32 a0_0, .int .i64 a0_1, .int .i64 a0_2, .int .i64 a0_3, .int .u32 a0_4] 24 (0, 0)) (by (with_reducible repeat (first | refine blk_drewN ?_ _ | refine blk_drew ?_ | refine blk_alloc ?_ _)); exact BK171.out) hb); have n5_ := Aside0.mk (below_step (by repeat (first | (with_reducible first | exact HB.out | apply below_alloc | apply pw_below_drewN | apply below_drew1 | refine below_set ?_ GE171.out) | exact HB.out)) hb); clear HO178; clear HO184; clear HO187; clear BK171; clear HB; have HO178 := n0_; have HO184 := n1_; have HO187 := n2_; have HO190 := n3_; have BK171 := n4_; have HB := n5_; clear n0_ n1_ n2_ n3_ n4_ n5_; (try clear hb); (try clear hb2); (try clear hk); (try clear hi); (try clear ho0); obtain ⟨Ao28, co28, eo28⟩ := Kd.R_slice HO190.out; subst eo28) | ((with_reducible refine gate_builtin (b := .append) (xs := #[.tmp 22, .tmp 26]) rfl ?_); at_builtin; refine Kd.R_append_rows (Kd.int .u8) (w0 := w) w.heap.size rfl (.tmp 22) (.tmp 26) 25 5 (.int .u8 0) 1 rfl Try.underlying25 info5 rfl (by decide) (by omega) v186 y185 t188 _ _ _ (fun k_ => some k_ ≠ (.slice Ao19 t176.length co19 : Value).ownBlock ∧ some k_ ≠ (.slice Ao24 y182.length co24 : Value).ownBlock ∧ some k_ ≠ (.slice Ao28 t188.length co28 : Value).ownBlock) (fun _ => False) rfl rfl ?aO ?aR (fun _ _ h => h) (fun _ h => h.elim) ?aF ?aB ?aS ?aL ?_; (case aR => repeat (first | exact (Kd.R_reads' HO190.out).2.2 | (with_reducible refine Kd.C_alloc ?_ _) | (with_reducible refine Kd.C_drewN ?_ _) | (with_reducible refine Kd.C_drew ?_))); (case aB => exact (by repeat (first | (with_reducible first | exact HB.out | apply below_alloc | apply pw_below_drewN | apply below_drew1 | refine below_set ?_ GE171.out) | exact HB.out))); (case aF => exact (fun k_ hk => ⟨Kd.fresh' (Kd.R_lt (by (with_reducible repeat (first | apply Kd.R_alloc | apply Kd.R_drewN | apply Kd.R_drew)); exact HO178.out)) k_ hk, Kd.fresh' (Kd.R_lt (by (with_reducible repeat (first | apply Kd.R_alloc | apply Kd.R_drewN | apply Kd.R_drew)); exact HO184.out)) k_ hk, Kd.fresh' (Kd.R_lt (by (with_reducible repeat (first | apply Kd.R_alloc | apply Kd.R_drewN | apply Kd.R_drew)); exact HO190.out)) k_ hk⟩)); (case aO => exact (by (with_reducible repeat (first | apply Kd.R_alloc | apply Kd.R_drewN | apply Kd.R_drew)); exact Kd.R_mono HO187.out (fun _ hk => ⟨hk.1.1, ⟨hk.1.2, hk.2⟩⟩))); (case aS => exact (below_size (by repeat (first | (with_reducible first | exact HB.out | apply below_alloc | apply pw_below_drewN | apply below_drew1 | refine below_set ?_ GE171.out) | exact HB.out)))); (case aL => have := LMc8.out; omega); intro v192 w27 ho hb hg hat; rw [← Ny191.out] at ho; have n0_ := Aside0.mk (blk_grown (g := gb171) (o := .cells #[.int .u32 a0_0, .int .i64 a0_1, .int .i64 a0_2, .int .i64 a0_3, .int .u32 a0_4] 24 (0, 0)) (by (with_reducible repeat (first | refine blk_drewN ?_ _ | refine blk_drew ?_ | refine blk_alloc ?_ _)); exact BK171.out) hg (Kd.R_ne HO187.out BK171.out (by decide))); have n1_ := Aside0.mk (Kd.R_after (ok := (fun k_ => some k_ ≠ (.slice Ao24 y182.length co24 : Value).ownBlock ∧ some k_ ≠ (.slice Ao28 t188.length co28 : Value).ownBlock)) (by (with_reducible repeat (first | apply Kd.R_alloc | apply Kd.R_drewN | apply Kd.R_drew)); exact Kd.R_mono HO178.out (fun _ hk => ⟨⟨hk.1.1, hk.2⟩, hk.1.2⟩)) hg hat); have n2_ := Aside0.mk (Kd.R_after (ok := (fun k_ => some k_ ≠ (.slice Ao19 t176.length co19 : Value).ownBlock ∧ some k_ ≠ (.slice Ao28 t188.length co28 : Value).ownBlock)) (by (with_reducible repeat (first | apply Kd.R_alloc | apply Kd.R_drewN | apply Kd.R_drew)); exact Kd.R_mono HO184.out (fun _ hk => ⟨⟨hk.1.1, hk.2⟩, hk.1.2⟩)) hg hat); have n3_ := Aside0.mk (Kd.R_after (ok := (fun k_ => some k_ ≠ (.slice Ao19 t176.length co19 : Value).ownBlock ∧ some k_ ≠ (.slice Ao24 y182.length co24 : Value).ownBlock)) (by (with_reducible repeat (first | apply Kd.R_alloc | apply Kd.R_drewN | apply Kd.R_drew)); exact Kd.R_mono HO190.out (fun _ hk => ⟨⟨hk.1.1.2, hk.1.2⟩, hk.2⟩)) hg hat); have n4_ := Aside0.mk (hb); have n5_ := Aside0.mk (ho); clear BK171; clear HO178; clear HO184; clear HO190; clear HB; clear HO187; have BK171 := n0_; have HO178 := n1_; have HO184 := n2_; have HO190 := n3_; have HB := n4_; have HO193 := n5_; clear n0_ n1_ n2_ n3_ n4_ n5_; clear ho hb hg hat; have hcz29_0 : w27.cell? ⟨gb171, 0, none⟩ = some (.int .u32 a0_0) := (blk_cell BK171.out 0).trans rfl; have hcz29_1 : w27.cell? ⟨gb171, 1, none⟩ = some (.int .i64 a0_1) := (blk_cell BK171.out 1).trans rfl; have hcz29_2 : w27.cell? ⟨gb171, 2, none⟩ = some (.int .i64 a0_2) := (blk_cell BK171.out 2).trans rfl; have hcz29_3 : w27.cell? ⟨gb171, 3, none⟩ = some (.int .i64 a0_3) := (blk_cell BK171.out 3).trans rfl; have hcz29_4 : w27.cell? ⟨gb171, 4, none⟩ = some (.int .u32 a0_4) := (blk_cell BK171.out 4).trans rfl; have hfz29_0 := blk_frozen BK171.out 0; have hfz29_1 := blk_frozen BK171.out 1; have hfz29_2 := blk_frozen BK171.out 2; have hfz29_3 := blk_frozen BK171.out 3; have hfz29_4 := blk_frozen BK171.out 4) | ((with_reducible refine gate_callee (f := 44) rfl ?_); refine goesL_ (some 31) rfl rfl Try.func44 (by kernel_rfl) rfl #[.int .u32 a0_4] rfl (by (try simp only [List.map_toArray, List.map_cons, List.map_nil]); first | done | rfl | (simp only [List.length_drop, List.length_take]; rfl)) ?_; (with_reducible refine (parapetref02_Word.calls a0_4 t194 _ A9.out).mono ?_); rintro e w30 ⟨v195, rfl, ho0, hb⟩; refine ⟨_, rfl, ?_⟩; have n0_ := Aside0.mk (Kd.R_elder' (by (with_reducible repeat (first | apply Kd.R_alloc | apply Kd.R_drewN | apply Kd.R_drew)); exact HO178.out) (Kd.R_base ho0) hb); have n1_ := Aside0.mk (Kd.R_elder' (by (with_reducible repeat (first | apply Kd.R_alloc | apply Kd.R_drewN | apply Kd.R_drew)); exact HO184.out) (Kd.R_base ho0) hb); have n2_ := Aside0.mk (Kd.R_elder' (by (with_reducible repeat (first | apply Kd.R_alloc | apply Kd.R_drewN | apply Kd.R_drew)); exact HO190.out) (Kd.R_base ho0) hb); have n3_ := Aside0.mk (Kd.R_elder' (by (with_reducible repeat (first | apply Kd.R_alloc | apply Kd.R_drewN | apply Kd.R_drew)); exact HO193.out) (Kd.R_base ho0) hb); have n4_ := Aside0.mk (Kd.R_lower (Kd.R_new' (Kd.R_new' (Kd.R_new' (Kd.R_new' ho0 (Kd.R_lt (by (with_reducible repeat (first | apply Kd.R_alloc | apply Kd.R_drewN | apply Kd.R_drew)); exact HO178.out))) (Kd.R_lt (by (with_reducible repeat (first | apply Kd.R_alloc | apply Kd.R_drewN | apply Kd.R_drew)); exact HO184.out))) (Kd.R_lt (by (with_reducible repeat (first | apply Kd.R_alloc | apply Kd.R_drewN | apply Kd.R_drew)); exact HO190.out))) (Kd.R_lt (by (with_reducible repeat (first | apply Kd.R_alloc | apply Kd.R_drewN | apply Kd.R_drew)); exact HO193.out))) (below_size (by repeat (first | (with_reducible first | exact HB.out | apply below_alloc | apply pw_below_drewN | apply below_drew1 | refine below_set ?_ GE171.out) | exact HB.out)))); have n5_ := Aside0.mk (blk_below (g := gb171) (o := .cells #[.int .u32 a0_0, .int .i64 a0_1, .int .i64 a0_2, .int .i64 a0_3, .int .u32 a0_4] 24 (0, 0)) (by (with_reducible repeat (first | refine blk_drewN ?_ _ | refine blk_drew ?_ | refine blk_alloc ?_ _)); exact BK171.out) hb); have n6_ := Aside0.mk (below_step (by repeat (first | (with_reducible first | exact HB.out | apply below_alloc | apply pw_below_drewN | apply below_drew1 | refine below_set ?_ GE171.out) | exact HB.out)) hb); clear HO178; clear HO184; clear HO190; clear HO193; clear BK171; clear HB; have HO178 := n0_; have HO184 := n1_; have HO190 := n2_; have HO193 := n3_; have HO196 := n4_; have BK171 := n5_; have HB := n6_; clear n0_ n1_ n2_ n3_ n4_ n5_ n6_; (try clear hb); (try clear hb2); (try clear hk); (try clear hi); (try clear ho0); obtain ⟨Ao32, co32, eo32⟩ := Kd.R_slice HO196.out; subst eo32) | ((with_reducible refine gate_builtin (b := .append) (xs := #[.tmp 28, .tmp 31]) rfl ?_); at_builtin; refine Kd.R_append_rows (Kd.int .u8) (w0 := w) w.heap.size rfl (.tmp 28) (.tmp 31) 25 5 (.int .u8 0) 1 rfl Try.underlying25 info5 rfl (by decide) (by omega) v192 y191 t194 _ _ _ (fun k_ => some k_ ≠ (.slice Ao19 t176.length co19 : Value).ownBlock ∧ some k_ ≠ (.slice Ao24 y182.length co24 : Value).ownBlock ∧ some k_ ≠ (.slice Ao28 t188.length co28 : Value).ownBlock ∧ some k_ ≠ (.slice Ao32 t194.length co32 : Value).ownBlock) (fun _ => False) rfl rfl ?aO ?aR (fun _ _ h => h) (fun _ h => h.elim) ?aF ?aB ?aS ?aL ?_; (case aR => repeat (first | exact (Kd.R_reads' HO196.out).2.2 | (with_reducible refine Kd.C_alloc ?_ _) | (with_reducible refine Kd.C_drewN ?_ _) | (with_reducible refine Kd.C_drew ?_))); (case aB => exact (by repeat (first | (with_reducible first | exact HB.out | apply below_alloc | apply pw_below_drewN | apply below_drew1 | refine below_set ?_ GE171.out) | exact HB.out))); (case aF => exact (fun k_ hk => ⟨Kd.fresh' (Kd.R_lt (by (with_reducible repeat (first | apply Kd.R_alloc | apply Kd.R_drewN | apply Kd.R_drew)); exact HO178.out)) k_ hk, Kd.fresh' (Kd.R_lt (by (with_reducible repeat (first | apply Kd.R_alloc | apply Kd.R_drewN | apply Kd.R_drew)); exact HO184.out)) k_ hk, Kd.fresh' (Kd.R_lt (by (with_reducible repeat (first | apply Kd.R_alloc | apply Kd.R_drewN | apply Kd.R_drew)); exact HO190.out)) k_ hk, Kd.fresh' (Kd.R_lt (by (with_reducible repeat (first | apply Kd.R_alloc | apply Kd.R_drewN | apply Kd.R_drew)); exact HO196.out)) k_ hk⟩)); (case aO => exact (by (with_reducible repeat (first | apply Kd.R_alloc | apply Kd.R_drewN | apply Kd.R_drew)); exact Kd.R_mono HO193.out (fun _ hk => ⟨hk.1.1, ⟨hk.1.2.1, ⟨hk.1.2.2, hk.2⟩⟩⟩))); (case aS => exact (below_size (by repeat (first | (with_reducible first | exact HB.out | apply below_alloc | apply pw_below_drewN | apply below_drew1 | refine below_set ?_ GE171.out) | exact HB.out)))); (case aL => have := LMc10.out; omega); intro v198 w31 ho hb hg hat; rw [← Ny197.out] at ho; have n0_ := Aside0.mk (blk_grown (g := gb171) (o := .cells #[.int .u32 a0_0, .int .i64 a0_1, .int .i64 a0_2, .int .i64 a0_3, .int .u32 a0_4] 24 (0, 0)) (by (with_reducible repeat (first | refine blk_drewN ?_ _ | refine blk_drew ?_ | refine blk_alloc ?_ _)); exact BK171.out) hg (Kd.R_ne HO193.out BK171.out (by decide))); have n1_ := Aside0.mk (Kd.R_after (ok := (fun k_ => some k_ ≠ (.slice Ao24 y182.length co24 : Value).ownBlock ∧ some k_ ≠ (.slice Ao28 t188.length co28 : Value).ownBlock ∧ some k_ ≠ (.slice Ao32 t194.length co32 : Value).ownBlock)) (by (with_reducible repeat (first | apply Kd.R_alloc | apply Kd.R_drewN | apply Kd.R_drew)); exact Kd.R_mono HO178.out (fun _ hk => ⟨⟨hk.1.1.1, ⟨hk.1.1.2, hk.2⟩⟩, hk.1.2⟩)) hg hat); have n2_ := Aside0.mk (Kd.R_after (ok := (fun k_ => some k_ ≠ (.slice Ao19 t176.length co19 : Value).ownBlock ∧ some k_ ≠ (.slice Ao28 t188.length co28 : Value).ownBlock ∧ some k_ ≠ (.slice Ao32 t194.length co32 : Value).ownBlock)) (by (with_reducible repeat (first | apply Kd.R_alloc | apply Kd.R_drewN | apply Kd.R_drew)); exact Kd.R_mono HO184.out (fun _ hk => ⟨⟨hk.1.1.1, ⟨hk.1.1.2, hk.2⟩⟩, hk.1.2⟩)) hg hat); have n3_ := Aside0.mk (Kd.R_after (ok := (fun k_ => some k_ ≠ (.slice Ao19 t176.length co19 : Value).ownBlock ∧ some k_ ≠ (.slice Ao24 y182.length co24 : Value).ownBlock ∧ some k_ ≠ (.slice Ao32 t194.length co32 : Value).ownBlock)) (by (with_reducible repeat (first | apply Kd.R_alloc | apply Kd.R_drewN | apply Kd.R_drew)); exact Kd.R_mono HO190.out (fun _ hk => ⟨⟨hk.1.1.1, ⟨hk.1.1.2, hk.2⟩⟩, hk.1.2⟩)) hg hat); have n4_ := Aside0.mk (Kd.R_after (ok := (fun k_ => some k_ ≠ (.slice Ao19 t176.length co19 : Value).ownBlock ∧ some k_ ≠ (.slice Ao24 y182.length co24 : Value).ownBlock ∧ some k_ ≠ (.slice Ao28 t188.length co28 : Value).ownBlock)) (by (with_reducible repeat (first | apply Kd.R_alloc | apply Kd.R_drewN | apply Kd.R_drew)); exact Kd.R_mono HO196.out (fun _ hk => ⟨⟨hk.1.1.1.2, ⟨hk.1.1.2, hk.1.2⟩⟩, hk.2⟩)) hg hat); have n5_ := Aside0.mk (hb); have n6_ := Aside0.mk (ho); clear BK171; clear HO178; clear HO184; clear HO190; clear HO196; clear HB; clear HO193; have BK171 := n0_; have HO178 := n1_; have HO184 := n2_; have HO190 := n3_; have HO196 := n4_; have HB := n5_; have HO199 := n6_; clear n0_ n1_ n2_ n3_ n4_ n5_ n6_; clear ho hb hg hat))
            go_ret2
            exact ⟨_, by first | rfl | (simp [errW_none, errW_some] <;> rfl) | (simp [*, errW_none, errW_some] <;> rfl), by (with_reducible repeat (first | apply Kd.R_alloc | apply Kd.R_drewN | apply Kd.R_drew)); exact Kd.R_mono HO199.out (fun _ hk => trivial), by repeat (first | (with_reducible first | exact HB.out | apply below_alloc | apply pw_below_drewN | apply below_drew1 | refine below_set ?_ GE171.out) | exact HB.out)⟩
          · rw [if_neg c10] at H
            exact absurd H (by simp)
        · rw [if_neg c8] at H
          exact absurd H (by simp)
      · rw [if_neg c6] at H
        exact absurd H (by simp)
    · rw [if_neg c5] at H
      exact absurd H (by simp)
  · replace c3 := Bool.eq_false_iff.mpr c3
    subst c3
    have H1 : (some (([] : List Int), 90)) = some (r1, r2) := by rw [if_neg (show ¬ (false = true) by decide)] at H; exact H
    clear H
    have H := H1
    clear H1
    simp only [Option.some.injEq, Prod.mk.injEq] at H
    obtain ⟨rfl, rfl⟩ := H
    go_enter Try.func15, Try.ntmps15
    go_wp2_with (first | ((with_reducible refine gate_dst (N := 1) rfl ?_); refine box_event ?hg (N := 1) ?hd (cs := #[.int .u32 a0_0, .int .i64 a0_1, .int .i64 a0_2, .int .i64 a0_3, .int .u32 a0_4]) (t := 24) ?hr ?_; (case hd => rfl); (case hg => rfl); (case hr => first | (go_simp; done) | (go_simp; rfl)); intro gb171 hg w33 hbox hb; have n0_ := Aside0.mk (below_step (by repeat (first | (with_reducible first | exact HB.out | apply below_alloc | apply pw_below_drewN | apply below_drew1) | exact HB.out)) hb); have n1_ := Aside0.mk (hbox); have n2_ := Aside0.mk ((by rw [hg]; exact (below_size (by repeat (first | (with_reducible first | exact HB.out | apply below_alloc | apply pw_below_drewN | apply below_drew1) | exact HB.out))) : w.heap.size ≤ gb171)); have n3_ := Aside0.mk ((by rw [hg]; exact (below_size (by repeat (first | (with_reducible first | exact HB.out | apply below_alloc | apply pw_below_drewN | apply below_drew1) | exact HB.out))) : w.heap.size ≤ gb171)); clear HB; have HB := n0_; have BK171 := n1_; have GW171 := n2_; have GE171 := n3_; clear n0_ n1_ n2_ n3_; clear hb hbox hg; have hcz34_0 : w33.cell? ⟨gb171, 0, none⟩ = some (.int .u32 a0_0) := (blk_cell BK171.out 0).trans rfl; have hcz34_1 : w33.cell? ⟨gb171, 1, none⟩ = some (.int .i64 a0_1) := (blk_cell BK171.out 1).trans rfl; have hcz34_2 : w33.cell? ⟨gb171, 2, none⟩ = some (.int .i64 a0_2) := (blk_cell BK171.out 2).trans rfl; have hcz34_3 : w33.cell? ⟨gb171, 3, none⟩ = some (.int .i64 a0_3) := (blk_cell BK171.out 3).trans rfl; have hcz34_4 : w33.cell? ⟨gb171, 4, none⟩ = some (.int .u32 a0_4) := (blk_cell BK171.out 4).trans rfl; have hfz34_0 := blk_frozen BK171.out 0; have hfz34_1 := blk_frozen BK171.out 1; have hfz34_2 := blk_frozen BK171.out 2; have hfz34_3 := blk_frozen BK171.out 3; have hfz34_4 := blk_frozen BK171.out 4) | ((with_reducible refine gate_callee (f := 43) rfl ?_); refine goesL_ (some 6) rfl rfl Try.func43 (by kernel_rfl) rfl #[.agg #[.int .u32 a0_0, .int .i64 a0_1, .int .i64 a0_2, .int .i64 a0_3, .int .u32 a0_4]] rfl (by (try simp only [List.map_toArray, List.map_cons, List.map_nil]); first | done | rfl | (simp only [List.length_drop, List.length_take]; rfl)) ?_; (with_reducible refine (parapetref09_Lawful.calls a0_0 a0_1 a0_2 a0_3 a0_4 false _ A2.out).mono ?_); rintro e w35 ⟨rfl, hb⟩; refine ⟨_, rfl, ?_⟩; have n0_ := Aside0.mk (blk_below (g := gb171) (o := .cells #[.int .u32 a0_0, .int .i64 a0_1, .int .i64 a0_2, .int .i64 a0_3, .int .u32 a0_4] 24 (0, 0)) (by (with_reducible repeat (first | refine blk_drewN ?_ _ | refine blk_drew ?_ | refine blk_alloc ?_ _)); exact BK171.out) hb); have n1_ := Aside0.mk (below_step (by repeat (first | (with_reducible first | exact HB.out | apply below_alloc | apply pw_below_drewN | apply below_drew1 | refine below_set ?_ GE171.out) | exact HB.out)) hb); clear BK171; clear HB; have BK171 := n0_; have HB := n1_; clear n0_ n1_; (try clear hb); (try clear hb2); (try clear hk); (try clear hi)))
    go_ret2
    exact ⟨_, by first | rfl | (simp [errW_none, errW_some] <;> rfl) | (simp [*, errW_none, errW_some] <;> rfl), by first | exact Kd.R_nil _ _ _ _ _ | exact Kd.N_nil _ _ _ _ _ | exact Kd.V_nil _ _ _ _ _ | exact Kd.Q_nil _ _ _ _ _ | exact Kd.S_nil _ _ _ _ _, by repeat (first | (with_reducible first | exact HB.out | apply below_alloc | apply pw_below_drewN | apply below_drew1 | refine below_set ?_ GE171.out) | exact HB.out)⟩

/-! ### parapetref01_Degree: function 51 -/
def parapetref01_Degree.l0 : Nat → Int → Int → Int → Option (Int)
  | 0, _, _, _ => none
  | k + 1, x0, x3, x4 => if x4 < 64 then (if 0 ≤ x4 then (if (Go.bits .and .u64 (shr .u64 x0 x4) 1) = 0 then (parapetref01_Degree.l0 k x0 x3 (wrap64 (x4 + 1))) else (parapetref01_Degree.l0 k x0 x4 (wrap64 (x4 + 1)))) else (none)) else (some x3)
def parapetref01_Degree.f (k : Nat) (a0 : Int) : Option (Int) := parapetref01_Degree.l0 k a0 (-1) 0
theorem parapetref01_Degree.mono_l : ∀ k, (∀ y0 y1 y2, LeO (parapetref01_Degree.l0 k y0 y1 y2) (parapetref01_Degree.l0 (k + 1) y0 y1 y2))
  | 0 => fun _ _ _ r h => by simp [parapetref01_Degree.l0] at h
  | k + 1 => by
    have ih0 := parapetref01_Degree.mono_l k
    · intro y0 y1 y2
      unfold parapetref01_Degree.l0
      repeat' first
      | (with_reducible exact ih0 _ _ _)
      | (with_reducible exact LeO.refl _)
      | (with_reducible exact LeO.none _)
      | (with_reducible refine LeO.ite ?_ ?_)
      | (with_reducible refine LeO.bind ?_ (fun _ => ?_))
      | exact ih0 _ _ _
      | exact LeO.none _
      | refine LeO.ite ?_ ?_
      | refine LeO.bind ?_ (fun _ => ?_)
theorem parapetref01_Degree.mono : ∀ a0 k, LeO (parapetref01_Degree.f k a0) (parapetref01_Degree.f (k + 1) a0) := by
  intro a0 k
  have ih0 := parapetref01_Degree.mono_l k
  unfold parapetref01_Degree.f
  repeat' first
      | (with_reducible exact ih0 _ _ _)
      | (with_reducible exact LeO.refl _)
      | (with_reducible exact LeO.none _)
      | (with_reducible refine LeO.ite ?_ ?_)
      | (with_reducible refine LeO.bind ?_ (fun _ => ?_))
      | exact ih0 _ _ _
      | exact LeO.none _
      | refine LeO.ite ?_ ?_
      | refine LeO.bind ?_ (fun _ => ?_)
set_option maxHeartbeats 8000000 in
set_option maxRecDepth 100000 in
theorem parapetref01_Degree.calls (k : Nat) (a0 : Int) (r : Int) (w : World) (h : parapetref01_Degree.f k a0 = some r) :
    Calls Try.prog 51 #[.int .u64 a0] w fun e w' => e = .returned (.int .i64 r) ∧ Drawn0 w w' := by
  have H : (parapetref01_Degree.l0 k a0 (-1) 0) = some r := h
  clear h
  have H' := Aside0.mk H
  clear H
  go_enter Try.func51, Try.ntmps51
  go_wp2
  go_loopg [3, 4] k (fun kq v3 v4 w' => ∃ (x3_1 : Int) (x4_1 : Int), v3 = .int .i64 x3_1 ∧ v4 = .int .i64 x4_1 ∧ Aside0 (parapetref01_Degree.l0 kq a0 x3_1 x4_1 = some r) ∧ Aside0 (kq ≤ k) ∧ Drawn0 w w')
  case atStart => exact ⟨((-1)), (0), (by first | rfl | (simp; done) | (simp [*]; done)), (by first | rfl | (simp; done) | (simp [*]; done)), H', ⟨Nat.le_refl _⟩, by repeat (first | exact Drawn0.refl _ | apply Drawn0.step)⟩
  case round =>
    clear H'
    obtain ⟨x3_1, x4_1, rfl, rfl, HA, HK1, ⟨m1, rfl⟩⟩ := hrel
    cases gk with
    | zero => exact absurd HA.out (by simp [parapetref01_Degree.l0])
    | succ k1 =>
      have H := HA.out
      clear HA
      simp only [parapetref01_Degree.l0] at H
      by_cases c2 : x4_1 < 64
      · rw [if_pos c2] at H
        have c2b0 : decide (x4_1 < 64) = true := decide_eq_true c2
        clear c2
        by_cases c3 : 0 ≤ x4_1
        · rw [if_pos c3] at H
          have c3b0 := eq_true c3
          have c3b1 : decide (0 ≤ x4_1) = true := decide_eq_true c3
          clear c3
          obtain ⟨ji4, hji4⟩ : ∃ j_ : Int, (shr .u64 a0 x4_1) = j_ := ⟨_, rfl⟩
          replace H : (if (Go.bits .and .u64 (ji4) 1) = 0 then (parapetref01_Degree.l0 k1 a0 x3_1 (wrap64 (x4_1 + 1))) else (parapetref01_Degree.l0 k1 a0 x4_1 (wrap64 (x4_1 + 1)))) = some r := by first | (rw [hji4] at H; exact H) | (simp only [hji4] at H ⊢; exact H)
          have hji4_ : (a0 / 2 ^ min x4_1.toNat 64) = ji4 := hji4
          have hji4z : x4_1 ≤ 64 → (a0 / 2 ^ x4_1.toNat) = ji4 := shr_small hji4
          by_cases c5 : (Go.bits .and .u64 (ji4) 1) = 0
          · rw [if_pos c5] at H
            have c5b0 : ((Go.bits .and .u64 (ji4) 1) == 0) = true := beq_iff_eq.mpr c5
            have c5b1 : ((Go.bits .and .u64 (ji4) 1) != 0) = false := bne_eq_false_iff_eq.mpr c5
            clear c5
            have H' := Aside0.mk H
            clear H
            go_wp2
            go_roundg k1
            case measure => have := HK1.out; omega
            case rel => exact ⟨(x3_1), (wrap64 (x4_1 + 1)), (by first | rfl | (simp; done) | (simp [*]; done)), (by first | rfl | (simp; done) | (simp [*]; done)), H', ⟨by have := HK1.out; omega⟩, by repeat (first | exact Drawn0.refl _ | apply Drawn0.step)⟩
          · rw [if_neg c5] at H
            have c5b0 : ((Go.bits .and .u64 (ji4) 1) == 0) = false := beq_eq_false_iff_ne.mpr c5
            have c5b1 : ((Go.bits .and .u64 (ji4) 1) != 0) = true := bne_iff_ne.mpr c5
            have H' := Aside0.mk H
            clear H
            go_wp2
            go_roundg k1
            case measure => have := HK1.out; omega
            case rel => exact ⟨(x4_1), (wrap64 (x4_1 + 1)), (by first | rfl | (simp; done) | (simp [*]; done)), (by first | rfl | (simp; done) | (simp [*]; done)), H', ⟨by have := HK1.out; omega⟩, by repeat (first | exact Drawn0.refl _ | apply Drawn0.step)⟩
        · rw [if_neg c3] at H
          exact absurd H (by simp)
      · rw [if_neg c2] at H
        have c2b0 : decide (x4_1 < 64) = false := decide_eq_false c2
        clear c2
        obtain rfl := Option.some.inj H
        go_wp2
        go_ret
        exact ⟨by first | rfl | (simp; done) | (simp [*]; done), by repeat (first | exact Drawn0.refl _ | apply Drawn0.step)⟩

/-! ### parapetref01_Bits: function 58 -/
def parapetref01_Bits.l0 : Nat → List Bool → Int → Int → Int → Int → Option (Int)
  | 0, _, _, _, _, _ => none
  | k + 1, x0, x1, x5, x6, x7 => if x7 < (x0.length : Int) then (if 0 ≤ (wrap64 (x5 - 1)) then (if 0 ≤ x7 then (if rdOf false x0 x7 = true then (if (Go.bits .and .u64 (shr .u64 x6 (wrap64 (x5 - 1))) 1) = 0 then (parapetref01_Bits.l0 k x0 x1 x5 (Go.bits .xor .u64 (IntKind.u64.wrap (x6 * 2)) 1) (wrap64 (x7 + 1))) else (parapetref01_Bits.l0 k x0 x1 x5 (Go.bits .xor .u64 (Go.bits .xor .u64 (IntKind.u64.wrap (x6 * 2)) 1) x1) (wrap64 (x7 + 1)))) else (if (Go.bits .and .u64 (shr .u64 x6 (wrap64 (x5 - 1))) 1) = 0 then (parapetref01_Bits.l0 k x0 x1 x5 (IntKind.u64.wrap (x6 * 2)) (wrap64 (x7 + 1))) else (parapetref01_Bits.l0 k x0 x1 x5 (Go.bits .xor .u64 (IntKind.u64.wrap (x6 * 2)) x1) (wrap64 (x7 + 1))))) else (none)) else (none)) else (some x6)
def parapetref01_Bits.f (k : Nat) (l0 : List Bool) (a1 : Int) : Option (Int) := (parapetref01_Degree.f k a1).bind fun t200 => (if t200 = 0 then (some 0) else (parapetref01_Bits.l0 k l0 a1 t200 0 0))
theorem parapetref01_Bits.mono_l : ∀ k, (∀ y0 y1 y2 y3 y4, LeO (parapetref01_Bits.l0 k y0 y1 y2 y3 y4) (parapetref01_Bits.l0 (k + 1) y0 y1 y2 y3 y4))
  | 0 => fun _ _ _ _ _ r h => by simp [parapetref01_Bits.l0] at h
  | k + 1 => by
    have ih0 := parapetref01_Bits.mono_l k
    · intro y0 y1 y2 y3 y4
      unfold parapetref01_Bits.l0
      repeat' first
      | (with_reducible exact ih0 _ _ _ _ _)
      | (with_reducible exact parapetref01_Degree.mono _ _)
      | (with_reducible exact LeO.refl _)
      | (with_reducible exact LeO.none _)
      | (with_reducible refine LeO.ite ?_ ?_)
      | (with_reducible refine LeO.bind ?_ (fun _ => ?_))
      | exact ih0 _ _ _ _ _
      | exact parapetref01_Degree.mono _ _
      | exact LeO.none _
      | refine LeO.ite ?_ ?_
      | refine LeO.bind ?_ (fun _ => ?_)
theorem parapetref01_Bits.mono : ∀ a0 a1 k, LeO (parapetref01_Bits.f k a0 a1) (parapetref01_Bits.f (k + 1) a0 a1) := by
  intro a0 a1 k
  have ih0 := parapetref01_Bits.mono_l k
  unfold parapetref01_Bits.f
  repeat' first
      | (with_reducible exact ih0 _ _ _ _ _)
      | (with_reducible exact parapetref01_Degree.mono _ _)
      | (with_reducible exact LeO.refl _)
      | (with_reducible exact LeO.none _)
      | (with_reducible refine LeO.ite ?_ ?_)
      | (with_reducible refine LeO.bind ?_ (fun _ => ?_))
      | exact ih0 _ _ _ _ _
      | exact parapetref01_Degree.mono _ _
      | exact LeO.none _
      | refine LeO.ite ?_ ?_
      | refine LeO.bind ?_ (fun _ => ?_)
set_option maxHeartbeats 8000000 in
set_option maxRecDepth 100000 in
theorem parapetref01_Bits.calls (k : Nat) (A0 : Option Addr) (c0 : Nat) (l0 : List Bool) (a1 : Int) (r : Int) (w : World) (hr0 : Kd.C Kd.bool w A0 l0.length l0) (hc0 : l0.length ≤ c0) (h : parapetref01_Bits.f k l0 a1 = some r) :
    Calls Try.prog 58 #[.slice A0 l0.length c0, .int .u64 a1] w fun e w' => e = .returned (.int .u64 r) ∧ Drawn0 w w' := by
  have HR0 := Aside0.mk hr0
  have HC0 := Aside0.mk hc0
  clear hr0 hc0
  have H : ((parapetref01_Degree.f k a1).bind fun t200 => (if t200 = 0 then (some 0) else (parapetref01_Bits.l0 k l0 a1 t200 0 0))) = some r := h
  clear h
  replace H := Option.bind_eq_some_iff.mp H
  obtain ⟨t200, A30, H⟩ := H
  replace H : (if t200 = 0 then (some 0) else (parapetref01_Bits.l0 k l0 a1 t200 0 0)) = some r := H
  have A3 := Aside0.mk A30
  clear A30
  by_cases c4 : t200 = 0
  · rw [if_pos c4] at H
    have c4b0 : (t200 == 0) = true := beq_iff_eq.mpr c4
    have c4b1 : (t200 != 0) = false := bne_eq_false_iff_eq.mpr c4
    clear c4
    obtain rfl := Option.some.inj H
    go_enter Try.func58, Try.ntmps58
    go_wp2_with (first | ((with_reducible refine gate_callee (f := 51) rfl ?_); refine goesL_ (some 10) rfl rfl Try.func51 (by kernel_rfl) rfl #[.int .u64 a1] rfl (by (try simp only [List.map_toArray, List.map_cons, List.map_nil]); first | done | rfl | (simp only [List.length_drop, List.length_take]; rfl)) ?_; (with_reducible refine (parapetref01_Degree.calls k a1 t200 _ A3.out).mono ?_); rintro e w' ⟨rfl, ⟨nd, rfl⟩⟩; refine ⟨_, rfl, ?_⟩))
    go_ret
    exact ⟨by first | rfl | (simp; done) | (simp [*]; done), by repeat (first | exact Drawn0.refl _ | apply Drawn0.step)⟩
  · rw [if_neg c4] at H
    have c4b0 : (t200 == 0) = false := beq_eq_false_iff_ne.mpr c4
    have c4b1 : (t200 != 0) = true := bne_iff_ne.mpr c4
    have H' := Aside0.mk H
    clear H
    go_enter Try.func58, Try.ntmps58
    go_wp2_with (first | ((with_reducible refine gate_callee (f := 51) rfl ?_); refine goesL_ (some 10) rfl rfl Try.func51 (by kernel_rfl) rfl #[.int .u64 a1] rfl (by (try simp only [List.map_toArray, List.map_cons, List.map_nil]); first | done | rfl | (simp only [List.length_drop, List.length_take]; rfl)) ?_; (with_reducible refine (parapetref01_Degree.calls k a1 t200 _ A3.out).mono ?_); rintro e w' ⟨rfl, ⟨nd, rfl⟩⟩; refine ⟨_, rfl, ?_⟩))
    go_loopg [6, 7] k (fun kq v6 v7 w' => ∃ (x6_1 : Int) (x7_1 : Int), v6 = .int .u64 x6_1 ∧ v7 = .int .i64 x7_1 ∧ Aside0 (parapetref01_Bits.l0 kq l0 a1 t200 x6_1 x7_1 = some r) ∧ Aside0 (kq ≤ k) ∧ Drawn0 w w')
    case atStart => exact ⟨(0), (0), (by first | rfl | (simp; done) | (simp [*]; done)), (by first | rfl | (simp; done) | (simp [*]; done)), H', ⟨Nat.le_refl _⟩, by repeat (first | exact Drawn0.refl _ | apply Drawn0.step)⟩
    case round =>
      clear H'
      try clear p2
      try clear c4
      try clear c4b0
      try clear c4b1
      obtain ⟨x6_1, x7_1, rfl, rfl, HA, HK1, ⟨m1, rfl⟩⟩ := hrel
      cases gk with
      | zero => exact absurd HA.out (by simp [parapetref01_Bits.l0])
      | succ k1 =>
        have H := HA.out
        clear HA
        simp only [parapetref01_Bits.l0] at H
        by_cases c5 : x7_1 < (l0.length : Int)
        · rw [if_pos c5] at H
          have c5b0 : decide (x7_1 < (l0.length : Int)) = true := decide_eq_true c5
          clear c5
          obtain ⟨ji6, hji6⟩ : ∃ j_ : Int, (wrap64 (t200 - 1)) = j_ := ⟨_, rfl⟩
          replace H : (if 0 ≤ (ji6) then (if 0 ≤ x7_1 then (if rdOf false l0 x7_1 = true then (if (Go.bits .and .u64 (shr .u64 x6_1 (ji6)) 1) = 0 then (parapetref01_Bits.l0 k1 l0 a1 t200 (Go.bits .xor .u64 (IntKind.u64.wrap (x6_1 * 2)) 1) (wrap64 (x7_1 + 1))) else (parapetref01_Bits.l0 k1 l0 a1 t200 (Go.bits .xor .u64 (Go.bits .xor .u64 (IntKind.u64.wrap (x6_1 * 2)) 1) a1) (wrap64 (x7_1 + 1)))) else (if (Go.bits .and .u64 (shr .u64 x6_1 (ji6)) 1) = 0 then (parapetref01_Bits.l0 k1 l0 a1 t200 (IntKind.u64.wrap (x6_1 * 2)) (wrap64 (x7_1 + 1))) else (parapetref01_Bits.l0 k1 l0 a1 t200 (Go.bits .xor .u64 (IntKind.u64.wrap (x6_1 * 2)) a1) (wrap64 (x7_1 + 1))))) else (none)) else (none)) = some r := by first | (rw [hji6] at H; exact H) | (simp only [hji6] at H ⊢; exact H)
          have hji6w : (IntKind.i64.wrap (t200 - 1)) = ji6 := (i64_w _).trans hji6
          by_cases c7 : 0 ≤ (ji6)
          · rw [if_pos c7] at H
            have c7b0 := eq_true c7
            have c7b1 : decide (0 ≤ (ji6)) = true := decide_eq_true c7
            clear c7
            obtain ⟨ji8, hji8⟩ : ∃ j_ : Int, (shr .u64 x6_1 (ji6)) = j_ := ⟨_, rfl⟩
            replace H : (if 0 ≤ x7_1 then (if rdOf false l0 x7_1 = true then (if (Go.bits .and .u64 (ji8) 1) = 0 then (parapetref01_Bits.l0 k1 l0 a1 t200 (Go.bits .xor .u64 (IntKind.u64.wrap (x6_1 * 2)) 1) (wrap64 (x7_1 + 1))) else (parapetref01_Bits.l0 k1 l0 a1 t200 (Go.bits .xor .u64 (Go.bits .xor .u64 (IntKind.u64.wrap (x6_1 * 2)) 1) a1) (wrap64 (x7_1 + 1)))) else (if (Go.bits .and .u64 (ji8) 1) = 0 then (parapetref01_Bits.l0 k1 l0 a1 t200 (IntKind.u64.wrap (x6_1 * 2)) (wrap64 (x7_1 + 1))) else (parapetref01_Bits.l0 k1 l0 a1 t200 (Go.bits .xor .u64 (IntKind.u64.wrap (x6_1 * 2)) a1) (wrap64 (x7_1 + 1))))) else (none)) = some r := by first | (rw [hji8] at H; exact H) | (simp only [hji8] at H ⊢; exact H)
            have hji8_ : (x6_1 / 2 ^ min (ji6).toNat 64) = ji8 := hji8
            have hji8z : (ji6) ≤ 64 → (x6_1 / 2 ^ (ji6).toNat) = ji8 := shr_small hji8
            by_cases c9 : 0 ≤ x7_1
            · rw [if_pos c9] at H
              have c9b0 : decide (0 ≤ x7_1) = true := decide_eq_true c9
              clear c9
              obtain ⟨bq10, hbq10⟩ : ∃ b_ : Bool, b_ = (rdOf false l0 x7_1) := ⟨_, rfl⟩
              replace H : (if bq10 = true then (if (Go.bits .and .u64 (ji8) 1) = 0 then (parapetref01_Bits.l0 k1 l0 a1 t200 (Go.bits .xor .u64 (IntKind.u64.wrap (x6_1 * 2)) 1) (wrap64 (x7_1 + 1))) else (parapetref01_Bits.l0 k1 l0 a1 t200 (Go.bits .xor .u64 (Go.bits .xor .u64 (IntKind.u64.wrap (x6_1 * 2)) 1) a1) (wrap64 (x7_1 + 1)))) else (if (Go.bits .and .u64 (ji8) 1) = 0 then (parapetref01_Bits.l0 k1 l0 a1 t200 (IntKind.u64.wrap (x6_1 * 2)) (wrap64 (x7_1 + 1))) else (parapetref01_Bits.l0 k1 l0 a1 t200 (Go.bits .xor .u64 (IntKind.u64.wrap (x6_1 * 2)) a1) (wrap64 (x7_1 + 1))))) = some r := by rw [← hbq10] at H; exact H
              have Nbq10 := Aside0.mk hbq10
              clear hbq10
              by_cases c11 : bq10 = true
              · subst c11
                have H1 : (if (Go.bits .and .u64 (ji8) 1) = 0 then (parapetref01_Bits.l0 k1 l0 a1 t200 (Go.bits .xor .u64 (IntKind.u64.wrap (x6_1 * 2)) 1) (wrap64 (x7_1 + 1))) else (parapetref01_Bits.l0 k1 l0 a1 t200 (Go.bits .xor .u64 (Go.bits .xor .u64 (IntKind.u64.wrap (x6_1 * 2)) 1) a1) (wrap64 (x7_1 + 1)))) = some r := by rw [if_pos rfl] at H; exact H
                clear H
                have H := H1
                clear H1
                by_cases c12 : (Go.bits .and .u64 (ji8) 1) = 0
                · rw [if_pos c12] at H
                  have c12b0 : ((Go.bits .and .u64 (ji8) 1) == 0) = true := beq_iff_eq.mpr c12
                  have c12b1 : ((Go.bits .and .u64 (ji8) 1) != 0) = false := bne_eq_false_iff_eq.mpr c12
                  clear c12
                  have H' := Aside0.mk H
                  clear H
                  have p201 : 0 ≤ (x7_1 : Int) := of_decide_eq_true (by first | (with_reducible assumption) | assumption)
                  have q201 : x7_1 < (l0.length : Int) := of_decide_eq_true (by first | (with_reducible assumption) | assumption)
                  obtain ⟨ad201, e201, hx201_0⟩ := Kd.at_bool HR0.out x7_1 p201 q201
                  (try rw [← Nbq10.out] at hx201_0)
                  cases e201
                  replace p201 := eq_true p201
                  replace q201 := eq_true q201
                  go_wp2
                  go_roundg k1
                  case measure => have := HK1.out; omega
                  case rel => exact ⟨(Go.bits .xor .u64 (IntKind.u64.wrap (x6_1 * 2)) 1), (wrap64 (x7_1 + 1)), (by first | rfl | (simp; done) | (simp [*]; done)), (by first | rfl | (simp; done) | (simp [*]; done)), H', ⟨by have := HK1.out; omega⟩, by repeat (first | exact Drawn0.refl _ | apply Drawn0.step)⟩
                · rw [if_neg c12] at H
                  have c12b0 : ((Go.bits .and .u64 (ji8) 1) == 0) = false := beq_eq_false_iff_ne.mpr c12
                  have c12b1 : ((Go.bits .and .u64 (ji8) 1) != 0) = true := bne_iff_ne.mpr c12
                  have H' := Aside0.mk H
                  clear H
                  have p201 : 0 ≤ (x7_1 : Int) := of_decide_eq_true (by first | (with_reducible assumption) | assumption)
                  have q201 : x7_1 < (l0.length : Int) := of_decide_eq_true (by first | (with_reducible assumption) | assumption)
                  obtain ⟨ad201, e201, hx201_0⟩ := Kd.at_bool HR0.out x7_1 p201 q201
                  (try rw [← Nbq10.out] at hx201_0)
                  cases e201
                  replace p201 := eq_true p201
                  replace q201 := eq_true q201
                  go_wp2
                  go_roundg k1
                  case measure => have := HK1.out; omega
                  case rel => exact ⟨(Go.bits .xor .u64 (Go.bits .xor .u64 (IntKind.u64.wrap (x6_1 * 2)) 1) a1), (wrap64 (x7_1 + 1)), (by first | rfl | (simp; done) | (simp [*]; done)), (by first | rfl | (simp; done) | (simp [*]; done)), H', ⟨by have := HK1.out; omega⟩, by repeat (first | exact Drawn0.refl _ | apply Drawn0.step)⟩
              · replace c11 := Bool.eq_false_iff.mpr c11
                subst c11
                have H1 : (if (Go.bits .and .u64 (ji8) 1) = 0 then (parapetref01_Bits.l0 k1 l0 a1 t200 (IntKind.u64.wrap (x6_1 * 2)) (wrap64 (x7_1 + 1))) else (parapetref01_Bits.l0 k1 l0 a1 t200 (Go.bits .xor .u64 (IntKind.u64.wrap (x6_1 * 2)) a1) (wrap64 (x7_1 + 1)))) = some r := by rw [if_neg (show ¬ (false = true) by decide)] at H; exact H
                clear H
                have H := H1
                clear H1
                by_cases c13 : (Go.bits .and .u64 (ji8) 1) = 0
                · rw [if_pos c13] at H
                  have c13b0 : ((Go.bits .and .u64 (ji8) 1) == 0) = true := beq_iff_eq.mpr c13
                  have c13b1 : ((Go.bits .and .u64 (ji8) 1) != 0) = false := bne_eq_false_iff_eq.mpr c13
                  clear c13
                  have H' := Aside0.mk H
                  clear H
                  have p201 : 0 ≤ (x7_1 : Int) := of_decide_eq_true (by first | (with_reducible assumption) | assumption)
                  have q201 : x7_1 < (l0.length : Int) := of_decide_eq_true (by first | (with_reducible assumption) | assumption)
                  obtain ⟨ad201, e201, hx201_0⟩ := Kd.at_bool HR0.out x7_1 p201 q201
                  (try rw [← Nbq10.out] at hx201_0)
                  cases e201
                  replace p201 := eq_true p201
                  replace q201 := eq_true q201
                  go_wp2
                  go_roundg k1
                  case measure => have := HK1.out; omega
                  case rel => exact ⟨(IntKind.u64.wrap (x6_1 * 2)), (wrap64 (x7_1 + 1)), (by first | rfl | (simp; done) | (simp [*]; done)), (by first | rfl | (simp; done) | (simp [*]; done)), H', ⟨by have := HK1.out; omega⟩, by repeat (first | exact Drawn0.refl _ | apply Drawn0.step)⟩
                · rw [if_neg c13] at H
                  have c13b0 : ((Go.bits .and .u64 (ji8) 1) == 0) = false := beq_eq_false_iff_ne.mpr c13
                  have c13b1 : ((Go.bits .and .u64 (ji8) 1) != 0) = true := bne_iff_ne.mpr c13
                  have H' := Aside0.mk H
                  clear H
                  have p201 : 0 ≤ (x7_1 : Int) := of_decide_eq_true (by first | (with_reducible assumption) | assumption)
                  have q201 : x7_1 < (l0.length : Int) := of_decide_eq_true (by first | (with_reducible assumption) | assumption)
                  obtain ⟨ad201, e201, hx201_0⟩ := Kd.at_bool HR0.out x7_1 p201 q201
                  (try rw [← Nbq10.out] at hx201_0)
                  cases e201
                  replace p201 := eq_true p201
                  replace q201 := eq_true q201
                  go_wp2
                  go_roundg k1
                  case measure => have := HK1.out; omega
                  case rel => exact ⟨(Go.bits .xor .u64 (IntKind.u64.wrap (x6_1 * 2)) a1), (wrap64 (x7_1 + 1)), (by first | rfl | (simp; done) | (simp [*]; done)), (by first | rfl | (simp; done) | (simp [*]; done)), H', ⟨by have := HK1.out; omega⟩, by repeat (first | exact Drawn0.refl _ | apply Drawn0.step)⟩
            · rw [if_neg c9] at H
              exact absurd H (by simp)
          · rw [if_neg c7] at H
            exact absurd H (by simp)
        · rw [if_neg c5] at H
          have c5b0 : decide (x7_1 < (l0.length : Int)) = false := decide_eq_false c5
          clear c5
          obtain rfl := Option.some.inj H
          go_wp2
          go_ret
          exact ⟨by first | rfl | (simp; done) | (simp [*]; done), by repeat (first | exact Drawn0.refl _ | apply Drawn0.step)⟩

end Go.Proofs.Ytcnlomknmhgpbab.PM
