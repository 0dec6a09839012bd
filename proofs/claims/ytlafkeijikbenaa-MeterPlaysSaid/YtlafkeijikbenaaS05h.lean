/- The law MeterPlays: one call, on both meters. -/
import Derived.Test.YtlafkeijikbenaaS05g
import Derived.Deep.Cut
namespace Go.Proofs.Ytlafkeijikbenaa.Law05
open Go Go.RowKit Go.Proofs.Ytlafkeijikbenaa.Hp Go.Proofs.Ytlafkeijikbenaa.Atom Go.Proofs.Ytlafkeijikbenaa.AtomC Go.Proofs.Ytlafkeijikbenaa.MeterC
set_option linter.unusedVariables false
set_option linter.unusedSimpArgs false
/-- What one call leaves: true; both meters hold the same again. -/
def StepPost (w : World) (a b : Nat) (e : Ending) (w' : World) : Prop :=
  e = .returned (.bool true) ∧ Kept [a, b] w w' ∧ ∃ s', s'.ok ∧ IsA w' a s' ∧ IsV w' b s'
def opCells (k wh A B c0 c1 c2 c3 : Int) : List Value := [.int .i64 k, .int .i64 wh, .int .u64 A, .int .u64 B, .int .i64 c0, .int .i64 c1, .int .u32 c2, .int .u32 c3]
theorem IsA.alloc {w : World} {a : Nat} {s : St} (h : IsA w a s) (o : Obj) : IsA (w.alloc o) a s := h.kept ((Kept.refl [] w).alloc o) (by simp) (by simp)
theorem addv_bd (t n : Int) (ht : 0 ≤ t ∧ t ≤ 18446744073709551615) (hn : 0 ≤ n ∧ n ≤ 18446744073709551615) : 0 ≤ addv t n ∧ addv t n ≤ 18446744073709551615 := by
  by_cases h : 18446744073709551615 - t < n
  · rw [addv_over t n hn.1 hn.2 ht.2 h]; decide
  · rw [addv_sum t n hn.1 ht.1 (by omega)]; omega
theorem bits32_bd (v : BitVec 32) : (0 : Int) ≤ (v.toNat : Int) ∧ (v.toNat : Int) ≤ 4294967295 := by have := v.isLt; omega

set_option maxRecDepth 100000 in
set_option maxHeartbeats 1600000 in
theorem step_add (a b : Nat) (s : St) (w : World) (ha : IsA w a s) (hb : IsV w b s) (hs : s.ok) (wh A B c0 c1 c2 c3 : Int) (hA : 0 ≤ A ∧ A ≤ 18446744073709551615) (hB : 0 ≤ B ∧ B ≤ 18446744073709551615) :
    Calls Try.prog 23 #[.pointer (some ⟨a, 0, none⟩), .pointer (some ⟨b, 0, none⟩), .agg #[.int .i64 1, .int .i64 wh, .int .u64 A, .int .u64 B, .int .i64 c0, .int .i64 c1, .int .u32 c2, .int .u32 c3]] w (StepPost w a b) := by
  obtain ⟨l, hN⟩ := ha
  have hO := Has.new w 49 (opCells 1 wh A B c0 c1 c2 c3)
  have hN1 : IsN (w.alloc (.cells (opCells 1 wh A B c0 c1 c2 c3).toArray 49)) a (s.m l) s.note := ⟨hN.1.alloc _, hN.2.alloc _⟩
  have hV1 : IsV (w.alloc (.cells (opCells 1 wh A B c0 c1 c2 c3).toArray 49)) b s := hb.alloc _
  have hk1 : Kept [] w (w.alloc (.cells (opCells 1 wh A B c0 c1 c2 c3).toArray 49)) := (Kept.refl _ _).alloc _
  have hao : a ≠ w.heap.size := Nat.ne_of_lt hN.1.lt
  have hbo : b ≠ w.heap.size := Nat.ne_of_lt hb.lt
  have hab : a ≠ b := Has.ne hN.1 hb (by decide)
  clear hN hb
  have e0 : (opCells 1 wh A B c0 c1 c2 c3).toArray = #[.int .i64 1, .int .i64 wh, .int .u64 A, .int .u64 B, .int .i64 c0, .int .i64 c1, .int .u32 c2, .int .u32 c3] := rfl
  rw [e0] at hO hN1 hV1 hk1
  clear e0
  have hn := hnot
  go_enter Try.func23, Try.ntmps23
  go_upto_region 1 with (fail)
  generalize w.alloc (.cells #[.int .i64 1, .int .i64 wh, .int .u64 A, .int .u64 B, .int .i64 c0, .int .i64 c1, .int .u32 c2, .int .u32 c3] 49) = w1 at *
  generalize w.heap.size = o at *
  have o0 := hO.cell 0 (v := .int .i64 1) rfl
  have o2 := hO.cell 2 (v := .int .u64 A) rfl
  have o3 := hO.cell 3 (v := .int .u64 B) rfl
  go_wp2_with fail
  refine (add_call a (s.m l) A _ hN1.1).mono ?_
  rintro e w2 ⟨rfl, k2, h2⟩
  have hN2 := hN1.turn k2 h2 rfl
  have hV2 := hV1.kept k2 (by simp; exact fun e => hab e.symm)
  have hO2 := k2.has hO (by simp; exact fun e => hao e.symm)
  clear o2 o3
  have o2 := hO2.cell 2 (v := .int .u64 A) rfl
  have hR : Calls Try.prog 58 _ w2 _ := refAdd_call b s A w2 hV2 hs hA.1 hA.2
  have R' := Lib.hid hR
  clear hR
  have hx : addv (s.m l).total A = addv s.total A := rfl
  rw [hx]
  have X : (s.m l).add A = ({ s with total := addv s.total A } : St).m l := rfl
  rw [X] at hN2
  have hbd := addv_bd s.total A ⟨hs.1, hs.2.1⟩ hA
  clear X hx h2
  generalize addv s.total A = y at *
  go_wp2_with fail
  refine R'.out.mono ?_
  rintro e w3 ⟨rfl, k3, h3⟩
  have hN3 := hN2.kept k3 (by simp; exact hab) (fun i hi hl => by simp at hi; subst hi; exact ⟨_, _, by decide, hV2⟩)
  go_wp2_with fail
  go_ret
  exact ⟨rfl, ((hk1.mono (by simp)).trans (k2.mono (by simp))).trans (k3.mono (by simp)), { s with total := y }, ⟨hbd.1, hbd.2, hs.2.2⟩, ⟨l, hN3⟩, h3⟩

set_option maxRecDepth 100000 in
set_option maxHeartbeats 1600000 in
theorem step_swap (a b : Nat) (s : St) (w : World) (ha : IsA w a s) (hb : IsV w b s) (hs : s.ok) (wh A B c0 c1 c2 c3 : Int) (hA : 0 ≤ A ∧ A ≤ 18446744073709551615) (hB : 0 ≤ B ∧ B ≤ 18446744073709551615) :
    Calls Try.prog 23 #[.pointer (some ⟨a, 0, none⟩), .pointer (some ⟨b, 0, none⟩), .agg #[.int .i64 2, .int .i64 wh, .int .u64 A, .int .u64 B, .int .i64 c0, .int .i64 c1, .int .u32 c2, .int .u32 c3]] w (StepPost w a b) := by
  obtain ⟨l, hN⟩ := ha
  have hO := Has.new w 49 (opCells 2 wh A B c0 c1 c2 c3)
  have hN1 : IsN (w.alloc (.cells (opCells 2 wh A B c0 c1 c2 c3).toArray 49)) a (s.m l) s.note := ⟨hN.1.alloc _, hN.2.alloc _⟩
  have hV1 : IsV (w.alloc (.cells (opCells 2 wh A B c0 c1 c2 c3).toArray 49)) b s := hb.alloc _
  have hk1 : Kept [] w (w.alloc (.cells (opCells 2 wh A B c0 c1 c2 c3).toArray 49)) := (Kept.refl _ _).alloc _
  have hao : a ≠ w.heap.size := Nat.ne_of_lt hN.1.lt
  have hbo : b ≠ w.heap.size := Nat.ne_of_lt hb.lt
  have hab : a ≠ b := Has.ne hN.1 hb (by decide)
  clear hN hb
  have e0 : (opCells 2 wh A B c0 c1 c2 c3).toArray = #[.int .i64 2, .int .i64 wh, .int .u64 A, .int .u64 B, .int .i64 c0, .int .i64 c1, .int .u32 c2, .int .u32 c3] := rfl
  rw [e0] at hO hN1 hV1 hk1
  clear e0
  have hn := hnot
  go_enter Try.func23, Try.ntmps23
  go_upto_region 1 with (fail)
  generalize w.alloc (.cells #[.int .i64 2, .int .i64 wh, .int .u64 A, .int .u64 B, .int .i64 c0, .int .i64 c1, .int .u32 c2, .int .u32 c3] 49) = w1 at *
  generalize w.heap.size = o at *
  have o0 := hO.cell 0 (v := .int .i64 2) rfl
  have o2 := hO.cell 2 (v := .int .u64 A) rfl
  have o3 := hO.cell 3 (v := .int .u64 B) rfl
  go_wp2_with fail
  refine (swap_call a (s.m l) A _ hN1.1).mono ?_
  rintro e w2 ⟨rfl, k2, h2⟩
  have hN2 := hN1.turn k2 h2 rfl
  have hV2 := hV1.kept k2 (by simp; exact fun e => hab e.symm)
  have hO2 := k2.has hO (by simp; exact fun e => hao e.symm)
  clear o2 o3
  have o2 := hO2.cell 2 (v := .int .u64 A) rfl
  have v0 := hV2.cell 0 (v := .int .u64 s.total) rfl
  have z0 := hV2.free 0
  have hx : (s.m l).total = s.total := rfl
  rw [hx]
  have hf := hV2.set 0 (.int .u64 A)
  have hN3 := hN2.kept ((Kept.refl [b] w2).set ⟨b, 0, none⟩ (.int .u64 A) (by simp)) (by simp; exact hab) (fun i hi hl => by simp at hi; subst hi; exact ⟨_, _, by decide, hV2⟩)
  have k3 := (Kept.refl [b] w2).set ⟨b, 0, none⟩ (.int .u64 A) (by simp)
  have hf' := Lib.hid hf
  have hN' := Lib.hid hN3
  have k' := Lib.hid k3
  clear hf hN3 hx h2 k3
  go_wp2_with fail
  go_ret
  exact ⟨rfl, ((hk1.mono (by simp)).trans (k2.mono (by simp))).trans (k'.out.mono (by simp)), { s with total := A }, ⟨hA.1, hA.2, hs.2.2⟩, ⟨l, hN'.out⟩, hf'.out⟩

set_option maxRecDepth 100000 in
set_option maxHeartbeats 1600000 in
theorem step_move (a b : Nat) (s : St) (w : World) (ha : IsA w a s) (hb : IsV w b s) (hs : s.ok) (wh A B c0 c1 c2 c3 : Int) (hA : 0 ≤ A ∧ A ≤ 18446744073709551615) (hB : 0 ≤ B ∧ B ≤ 18446744073709551615) :
    Calls Try.prog 23 #[.pointer (some ⟨a, 0, none⟩), .pointer (some ⟨b, 0, none⟩), .agg #[.int .i64 3, .int .i64 wh, .int .u64 A, .int .u64 B, .int .i64 c0, .int .i64 c1, .int .u32 c2, .int .u32 c3]] w (StepPost w a b) := by
  obtain ⟨l, hN⟩ := ha
  have hO := Has.new w 49 (opCells 3 wh A B c0 c1 c2 c3)
  have hN1 : IsN (w.alloc (.cells (opCells 3 wh A B c0 c1 c2 c3).toArray 49)) a (s.m l) s.note := ⟨hN.1.alloc _, hN.2.alloc _⟩
  have hV1 : IsV (w.alloc (.cells (opCells 3 wh A B c0 c1 c2 c3).toArray 49)) b s := hb.alloc _
  have hk1 : Kept [] w (w.alloc (.cells (opCells 3 wh A B c0 c1 c2 c3).toArray 49)) := (Kept.refl _ _).alloc _
  have hao : a ≠ w.heap.size := Nat.ne_of_lt hN.1.lt
  have hbo : b ≠ w.heap.size := Nat.ne_of_lt hb.lt
  have hab : a ≠ b := Has.ne hN.1 hb (by decide)
  clear hN hb
  have e0 : (opCells 3 wh A B c0 c1 c2 c3).toArray = #[.int .i64 3, .int .i64 wh, .int .u64 A, .int .u64 B, .int .i64 c0, .int .i64 c1, .int .u32 c2, .int .u32 c3] := rfl
  rw [e0] at hO hN1 hV1 hk1
  clear e0
  have hn := hnot
  go_enter Try.func23, Try.ntmps23
  go_upto_region 1 with (fail)
  generalize w.alloc (.cells #[.int .i64 3, .int .i64 wh, .int .u64 A, .int .u64 B, .int .i64 c0, .int .i64 c1, .int .u32 c2, .int .u32 c3] 49) = w1 at *
  generalize w.heap.size = o at *
  have o0 := hO.cell 0 (v := .int .i64 3) rfl
  have o2 := hO.cell 2 (v := .int .u64 A) rfl
  have o3 := hO.cell 3 (v := .int .u64 B) rfl
  go_wp2_with fail
  have v0 := hV1.cell 0 (v := .int .u64 s.total) rfl
  have z0 := hV1.free 0
  by_cases ht : s.total = A
  · subst ht
    have M := fun W (h : IsM W a (s.m l)) => move_call a (s.m l) s.total B W h
    have hx : (s.m l).total = s.total := rfl
    simp only [hx, if_true, decide_true] at M
    have M' := Lib.hid M
    clear M hx
    go_quiet (fail)
    go_wp2_with fail
    have k2 : Kept [b] w1 ((w1.drewN nq).setCell ⟨b, 0, none⟩ (.int .u64 B)) := ((Kept.refl [b] w1).drewN nq).set ⟨b, 0, none⟩ (.int .u64 B) (by simp)
    have hN2 := hN1.kept k2 (by simp; exact hab) (fun i hi hl => by simp at hi; subst hi; exact ⟨_, _, by decide, hV1⟩)
    have hV2 : IsV ((w1.drewN nq).setCell ⟨b, 0, none⟩ (.int .u64 B)) b { s with total := B } := (hV1.drewN nq).set 0 _
    refine (M'.out _ hN2.1).mono ?_
    rintro e w3 ⟨rfl, k3, h3⟩
    have hN3 := hN2.turn k3 h3 rfl
    have hV3 := hV2.kept k3 (by simp; exact fun e => hab e.symm)
    clear k2 h3
    go_wp2_with fail
    go_ret
    exact ⟨rfl, ((hk1.mono (by simp)).trans ((((Kept.refl [a, b] w1).drewN nq).set ⟨b, 0, none⟩ (.int .u64 B) (by simp)))).trans (k3.mono (by simp)), { s with total := B }, ⟨hB.1, hB.2, hs.2.2⟩, ⟨l, hN3⟩, hV3⟩
  · have hd : (s.total == A) = false := by simpa using ht
    have M := fun W (h : IsM W a (s.m l)) => move_call a (s.m l) A B W h
    have hx : (s.m l).total = s.total := rfl
    simp only [hx, if_neg ht, decide_eq_false ht] at M
    have M' := Lib.hid M
    clear M hx
    go_quiet (fail)
    go_wp2_with fail
    refine (M'.out _ (hN1.1.drewN nq)).mono ?_
    rintro e w3 ⟨rfl, k3, h3⟩
    have hN3 : IsN w3 a (s.m l) s.note := IsN.turn ⟨hN1.1.drewN nq, hN1.2.kept ((Kept.refl [] w1).drewN nq) (by simp)⟩ k3 h3 rfl
    have hV3 := IsV.kept (hV1.drewN nq) k3 (by simp; exact fun e => hab e.symm)
    clear h3
    go_wp2_with fail
    go_ret
    exact ⟨rfl, ((hk1.mono (by simp)).trans ((Kept.refl [a, b] w1).drewN nq)).trans (k3.mono (by simp)), s, hs, ⟨l, hN3⟩, hV3⟩

set_option maxRecDepth 100000 in
set_option maxHeartbeats 1600000 in
theorem step_raise (a b : Nat) (s : St) (w : World) (ha : IsA w a s) (hb : IsV w b s) (hs : s.ok) (wh A B c0 c1 c2 c3 : Int) (hA : 0 ≤ A ∧ A ≤ 18446744073709551615) (hB : 0 ≤ B ∧ B ≤ 18446744073709551615) :
    Calls Try.prog 23 #[.pointer (some ⟨a, 0, none⟩), .pointer (some ⟨b, 0, none⟩), .agg #[.int .i64 4, .int .i64 wh, .int .u64 A, .int .u64 B, .int .i64 c0, .int .i64 c1, .int .u32 c2, .int .u32 c3]] w (StepPost w a b) := by
  obtain ⟨l, hN⟩ := ha
  have hO := Has.new w 49 (opCells 4 wh A B c0 c1 c2 c3)
  have hN1 : IsN (w.alloc (.cells (opCells 4 wh A B c0 c1 c2 c3).toArray 49)) a (s.m l) s.note := ⟨hN.1.alloc _, hN.2.alloc _⟩
  have hV1 : IsV (w.alloc (.cells (opCells 4 wh A B c0 c1 c2 c3).toArray 49)) b s := hb.alloc _
  have hk1 : Kept [] w (w.alloc (.cells (opCells 4 wh A B c0 c1 c2 c3).toArray 49)) := (Kept.refl _ _).alloc _
  have hao : a ≠ w.heap.size := Nat.ne_of_lt hN.1.lt
  have hbo : b ≠ w.heap.size := Nat.ne_of_lt hb.lt
  have hab : a ≠ b := Has.ne hN.1 hb (by decide)
  clear hN hb
  have e0 : (opCells 4 wh A B c0 c1 c2 c3).toArray = #[.int .i64 4, .int .i64 wh, .int .u64 A, .int .u64 B, .int .i64 c0, .int .i64 c1, .int .u32 c2, .int .u32 c3] := rfl
  rw [e0] at hO hN1 hV1 hk1
  clear e0
  have hn := hnot
  go_enter Try.func23, Try.ntmps23
  go_upto_region 1 with (fail)
  generalize w.alloc (.cells #[.int .i64 4, .int .i64 wh, .int .u64 A, .int .u64 B, .int .i64 c0, .int .i64 c1, .int .u32 c2, .int .u32 c3] 49) = w1 at *
  generalize w.heap.size = o at *
  have o0 := hO.cell 0 (v := .int .i64 4) rfl
  have o2 := hO.cell 2 (v := .int .u64 A) rfl
  have o3 := hO.cell 3 (v := .int .u64 B) rfl
  go_wp2_with fail
  generalize hv : IntKind.i64.wrap A = v at *
  have RA : ∀ W, IsM W a (s.m l) → Calls Try.prog 17 #[.pointer (some ⟨a, 0, none⟩), .int .i64 v] W fun e w' => e = .returned (.bool (MeterC.raised (s.m none) v)) ∧ Kept [a] W w' ∧ IsM w' a ((s.m l).raise v) := fun W h => raise_call a (s.m l) v W h
  replace RA := Lib.hid RA
  have RB := Lib.hid (fun W (h : IsV W b s) => refRaise_call b s v W h)
  have NA := Lib.hid hN1
  have VB := Lib.hid hV1
  have OO := Lib.hid hO
  clear hN1 hV1 hO o3
  go_region_held3 (fun w' => w'.cell? ⟨o, 2, none⟩ = some (.int .u64 A)) (first | assumption | go_keep)
    (first
      | (go_at_call 17; refine (RA.out _ (by first | exact NA.out.1 | exact kB.has NA.out.1 (by simp; exact hab))).mono ?_; rintro e wA ⟨rfl, kA, hA'⟩; have oA : wA.cell? ⟨o, 2, none⟩ = some (.int .u64 A) := (by first | exact (kA.has OO.out (by simp; exact fun e => hao e.symm)).cell 2 rfl | exact (kA.has (kB.has OO.out (by simp; exact fun e => hbo e.symm)) (by simp; exact fun e => hao e.symm)).cell 2 rfl))
      | (go_at_call 59; refine (RB.out _ (by first | exact VB.out | exact kA.has VB.out (by simp; exact fun e => hab e.symm))).mono ?_; rintro e wB ⟨rfl, kB, hB'⟩; have oB : wB.cell? ⟨o, 2, none⟩ = some (.int .u64 A) := (by first | exact (kB.has OO.out (by simp; exact fun e => hbo e.symm)).cell 2 rfl | exact (kB.has (kA.has OO.out (by simp; exact fun e => hao e.symm)) (by simp; exact fun e => hbo e.symm)).cell 2 rfl)))
  go_wp2_with fail
  go_ret
  have hN2 : IsN wA a ((s.m l).raise v) s.note := IsN.turn (m := s.m l) ⟨NA.out.1.drew, NA.out.2.kept ((Kept.refl [] w1).drew) (by simp)⟩ kA hA' (by unfold M.raise; split <;> rfl)
  have hN3 := hN2.kept kB (by simp; exact hab) (fun i hi hl => by simp at hi; subst hi; exact ⟨_, _, by decide, kA.has VB.out.drew (by simp; exact fun e => hab e.symm)⟩)
  refine ⟨rfl, ((hk1.mono (by simp)).trans (((Kept.refl [a, b] w1).drew).trans (kA.mono (by simp)))).trans (kB.mono (by simp)), _, ?_, ⟨l, ?_⟩, hB'⟩
  · split
    · exact ⟨hs.1, hs.2.1, fun h => by (cases h), hs.2.2.2⟩
    · exact hs
  · unfold M.raise at hN3
    have hr : MeterC.raised (s.m l) v = MeterC.raised (s.m none) v := rfl
    rw [hr] at hN3
    split
    · rename_i h; rw [if_pos h] at hN3; exact hN3
    · rename_i h; rw [if_neg h] at hN3; exact hN3

set_option maxRecDepth 100000 in
set_option maxHeartbeats 1600000 in
theorem step_set (a b : Nat) (s : St) (w : World) (ha : IsA w a s) (hb : IsV w b s) (hs : s.ok) (wh A B c0 c1 c2 c3 : Int) (hA : 0 ≤ A ∧ A ≤ 18446744073709551615) (hB : 0 ≤ B ∧ B ≤ 18446744073709551615) :
    Calls Try.prog 23 #[.pointer (some ⟨a, 0, none⟩), .pointer (some ⟨b, 0, none⟩), .agg #[.int .i64 5, .int .i64 wh, .int .u64 A, .int .u64 B, .int .i64 c0, .int .i64 c1, .int .u32 c2, .int .u32 c3]] w (StepPost w a b) := by
  obtain ⟨l, hN⟩ := ha
  have hO := Has.new w 49 (opCells 5 wh A B c0 c1 c2 c3)
  have hN1 : IsN (w.alloc (.cells (opCells 5 wh A B c0 c1 c2 c3).toArray 49)) a (s.m l) s.note := ⟨hN.1.alloc _, hN.2.alloc _⟩
  have hV1 : IsV (w.alloc (.cells (opCells 5 wh A B c0 c1 c2 c3).toArray 49)) b s := hb.alloc _
  have hk1 : Kept [] w (w.alloc (.cells (opCells 5 wh A B c0 c1 c2 c3).toArray 49)) := (Kept.refl _ _).alloc _
  have hao : a ≠ w.heap.size := Nat.ne_of_lt hN.1.lt
  have hbo : b ≠ w.heap.size := Nat.ne_of_lt hb.lt
  have hab : a ≠ b := Has.ne hN.1 hb (by decide)
  clear hN hb
  have e0 : (opCells 5 wh A B c0 c1 c2 c3).toArray = #[.int .i64 5, .int .i64 wh, .int .u64 A, .int .u64 B, .int .i64 c0, .int .i64 c1, .int .u32 c2, .int .u32 c3] := rfl
  rw [e0] at hO hN1 hV1 hk1
  clear e0
  have hn := hnot
  go_enter Try.func23, Try.ntmps23
  go_upto_region 1 with (fail)
  generalize w.alloc (.cells #[.int .i64 5, .int .i64 wh, .int .u64 A, .int .u64 B, .int .i64 c0, .int .i64 c1, .int .u32 c2, .int .u32 c3] 49) = w1 at *
  generalize w.heap.size = o at *
  have o0 := hO.cell 0 (v := .int .i64 5) rfl
  have o2 := hO.cell 2 (v := .int .u64 A) rfl
  have o3 := hO.cell 3 (v := .int .u64 B) rfl
  have v3 := hV1.cell 3 (v := .int .u32 s.flags) rfl
  have z3 := hV1.free 3
  have S : ∀ W, IsM W a (s.m l) → Calls Try.prog 19 #[.pointer (some ⟨a, 0, none⟩), .int .u32 (A % 4294967296)] W fun e w' => e = .returned (.int .u32 s.flags) ∧ Kept [a] W w' ∧ IsM w' a (({ s with flags := bits .or .u32 s.flags (A % 4294967296) } : St).m l) := fun W h => set_call a (s.m l) (A % 4294967296) W h
  have S' := Lib.hid S
  have hbd : 0 ≤ bits .or .u32 s.flags (A % 4294967296) ∧ bits .or .u32 s.flags (A % 4294967296) ≤ 4294967295 := by
    rw [bits_or32]; exact bits32_bd _
  have B' := Lib.hid hbd
  have hs0 : IntKind.u32.signed = false := rfl
  have hmx : IntKind.u32.max = 4294967295 := rfl
  clear S hbd
  go_wp2_with fail
  go_region
  go_wp2_with fail
  have k2 : Kept [b] w1 ((w1.setCell ⟨b, 3, none⟩ (.int .u32 (bits .or .u32 s.flags (A % 4294967296)))).drew) := ((Kept.refl [b] w1).set ⟨b, 3, none⟩ _ (by simp)).drew
  have hN2 := hN1.kept k2 (by simp; exact hab) (fun i hi hl => by simp at hi; subst hi; exact ⟨_, _, by decide, hV1⟩)
  have hV2 : IsV ((w1.setCell ⟨b, 3, none⟩ (.int .u32 (bits .or .u32 s.flags (A % 4294967296)))).drew) b { s with flags := bits .or .u32 s.flags (A % 4294967296) } := (hV1.set 3 _).drew
  have hO2 := k2.has hO (by simp; exact fun e => hbo e.symm)
  clear o2 o3 o0
  refine (S'.out _ hN2.1).mono ?_
  rintro e w3 ⟨rfl, k3, h3⟩
  have hN3 := hN2.turn k3 h3 rfl
  have hV3 := hV2.kept k3 (by simp; exact fun e => hab e.symm)
  have k2' := Lib.hid k2
  clear k2 h3
  go_wp2_with fail
  go_ret
  exact ⟨rfl, ((hk1.mono (by simp)).trans (k2'.out.mono (by simp))).trans (k3.mono (by simp)), { s with flags := bits .or .u32 s.flags (A % 4294967296) }, ⟨hs.1, hs.2.1, hs.2.2.1, B'.out⟩, ⟨l, hN3⟩, hV3⟩

set_option maxRecDepth 100000 in
set_option maxHeartbeats 1600000 in
theorem step_clear (a b : Nat) (s : St) (w : World) (ha : IsA w a s) (hb : IsV w b s) (hs : s.ok) (wh A B c0 c1 c2 c3 : Int) (hA : 0 ≤ A ∧ A ≤ 18446744073709551615) (hB : 0 ≤ B ∧ B ≤ 18446744073709551615) :
    Calls Try.prog 23 #[.pointer (some ⟨a, 0, none⟩), .pointer (some ⟨b, 0, none⟩), .agg #[.int .i64 6, .int .i64 wh, .int .u64 A, .int .u64 B, .int .i64 c0, .int .i64 c1, .int .u32 c2, .int .u32 c3]] w (StepPost w a b) := by
  obtain ⟨l, hN⟩ := ha
  have hO := Has.new w 49 (opCells 6 wh A B c0 c1 c2 c3)
  have hN1 : IsN (w.alloc (.cells (opCells 6 wh A B c0 c1 c2 c3).toArray 49)) a (s.m l) s.note := ⟨hN.1.alloc _, hN.2.alloc _⟩
  have hV1 : IsV (w.alloc (.cells (opCells 6 wh A B c0 c1 c2 c3).toArray 49)) b s := hb.alloc _
  have hk1 : Kept [] w (w.alloc (.cells (opCells 6 wh A B c0 c1 c2 c3).toArray 49)) := (Kept.refl _ _).alloc _
  have hao : a ≠ w.heap.size := Nat.ne_of_lt hN.1.lt
  have hbo : b ≠ w.heap.size := Nat.ne_of_lt hb.lt
  have hab : a ≠ b := Has.ne hN.1 hb (by decide)
  clear hN hb
  have e0 : (opCells 6 wh A B c0 c1 c2 c3).toArray = #[.int .i64 6, .int .i64 wh, .int .u64 A, .int .u64 B, .int .i64 c0, .int .i64 c1, .int .u32 c2, .int .u32 c3] := rfl
  rw [e0] at hO hN1 hV1 hk1
  clear e0
  have hn := hnot
  go_enter Try.func23, Try.ntmps23
  go_upto_region 1 with (fail)
  generalize w.alloc (.cells #[.int .i64 6, .int .i64 wh, .int .u64 A, .int .u64 B, .int .i64 c0, .int .i64 c1, .int .u32 c2, .int .u32 c3] 49) = w1 at *
  generalize w.heap.size = o at *
  have o0 := hO.cell 0 (v := .int .i64 6) rfl
  have o2 := hO.cell 2 (v := .int .u64 A) rfl
  have o3 := hO.cell 3 (v := .int .u64 B) rfl
  have v3 := hV1.cell 3 (v := .int .u32 s.flags) rfl
  have z3 := hV1.free 3
  have S : ∀ W, IsM W a (s.m l) → Calls Try.prog 20 #[.pointer (some ⟨a, 0, none⟩), .int .u32 (A % 4294967296)] W fun e w' => e = .returned (.int .u32 s.flags) ∧ Kept [a] W w' ∧ IsM w' a (({ s with flags := bits .and .u32 s.flags (bits .xor .u32 4294967295 (A % 4294967296)) } : St).m l) := fun W h => clear_call a (s.m l) (A % 4294967296) W h
  have S' := Lib.hid S
  have hbd : 0 ≤ bits .and .u32 s.flags (bits .xor .u32 4294967295 (A % 4294967296)) ∧ bits .and .u32 s.flags (bits .xor .u32 4294967295 (A % 4294967296)) ≤ 4294967295 := by
    rw [bits_and32]; exact bits32_bd _
  have B' := Lib.hid hbd
  have hs0 : IntKind.u32.signed = false := rfl
  have hmx : IntKind.u32.max = 4294967295 := rfl
  clear S hbd
  go_wp2_with fail
  go_region
  go_wp2_with fail
  have k2 : Kept [b] w1 ((w1.setCell ⟨b, 3, none⟩ (.int .u32 (bits .and .u32 s.flags (bits .xor .u32 4294967295 (A % 4294967296))))).drew) := ((Kept.refl [b] w1).set ⟨b, 3, none⟩ _ (by simp)).drew
  have hN2 := hN1.kept k2 (by simp; exact hab) (fun i hi hl => by simp at hi; subst hi; exact ⟨_, _, by decide, hV1⟩)
  have hV2 : IsV ((w1.setCell ⟨b, 3, none⟩ (.int .u32 (bits .and .u32 s.flags (bits .xor .u32 4294967295 (A % 4294967296))))).drew) b { s with flags := bits .and .u32 s.flags (bits .xor .u32 4294967295 (A % 4294967296)) } := (hV1.set 3 _).drew
  have hO2 := k2.has hO (by simp; exact fun e => hbo e.symm)
  clear o2 o3 o0
  refine (S'.out _ hN2.1).mono ?_
  rintro e w3 ⟨rfl, k3, h3⟩
  have hN3 := hN2.turn k3 h3 rfl
  have hV3 := hV2.kept k3 (by simp; exact fun e => hab e.symm)
  have k2' := Lib.hid k2
  clear k2 h3
  go_wp2_with fail
  go_ret
  exact ⟨rfl, ((hk1.mono (by simp)).trans (k2'.out.mono (by simp))).trans (k3.mono (by simp)), { s with flags := bits .and .u32 s.flags (bits .xor .u32 4294967295 (A % 4294967296)) }, ⟨hs.1, hs.2.1, hs.2.2.1, B'.out⟩, ⟨l, hN3⟩, hV3⟩

set_option maxRecDepth 100000 in
set_option maxHeartbeats 1600000 in
theorem step_turn (a b : Nat) (s : St) (w : World) (ha : IsA w a s) (hb : IsV w b s) (hs : s.ok) (wh A B c0 c1 c2 c3 : Int) (hA : 0 ≤ A ∧ A ≤ 18446744073709551615) (hB : 0 ≤ B ∧ B ≤ 18446744073709551615) :
    Calls Try.prog 23 #[.pointer (some ⟨a, 0, none⟩), .pointer (some ⟨b, 0, none⟩), .agg #[.int .i64 7, .int .i64 wh, .int .u64 A, .int .u64 B, .int .i64 c0, .int .i64 c1, .int .u32 c2, .int .u32 c3]] w (StepPost w a b) := by
  obtain ⟨l, hN⟩ := ha
  have hO := Has.new w 49 (opCells 7 wh A B c0 c1 c2 c3)
  have hN1 : IsN (w.alloc (.cells (opCells 7 wh A B c0 c1 c2 c3).toArray 49)) a (s.m l) s.note := ⟨hN.1.alloc _, hN.2.alloc _⟩
  have hV1 : IsV (w.alloc (.cells (opCells 7 wh A B c0 c1 c2 c3).toArray 49)) b s := hb.alloc _
  have hk1 : Kept [] w (w.alloc (.cells (opCells 7 wh A B c0 c1 c2 c3).toArray 49)) := (Kept.refl _ _).alloc _
  have hao : a ≠ w.heap.size := Nat.ne_of_lt hN.1.lt
  have hbo : b ≠ w.heap.size := Nat.ne_of_lt hb.lt
  have hab : a ≠ b := Has.ne hN.1 hb (by decide)
  clear hN hb
  have e0 : (opCells 7 wh A B c0 c1 c2 c3).toArray = #[.int .i64 7, .int .i64 wh, .int .u64 A, .int .u64 B, .int .i64 c0, .int .i64 c1, .int .u32 c2, .int .u32 c3] := rfl
  rw [e0] at hO hN1 hV1 hk1
  clear e0
  have hn := hnot
  go_enter Try.func23, Try.ntmps23
  go_upto_region 1 with (fail)
  generalize w.alloc (.cells #[.int .i64 7, .int .i64 wh, .int .u64 A, .int .u64 B, .int .i64 c0, .int .i64 c1, .int .u32 c2, .int .u32 c3] 49) = w1 at *
  generalize w.heap.size = o at *
  have o0 := hO.cell 0 (v := .int .i64 7) rfl
  have o2 := hO.cell 2 (v := .int .u64 A) rfl
  have o3 := hO.cell 3 (v := .int .u64 B) rfl
  have v4 := hV1.cell 4 (v := .bool s.on) rfl
  have z4 := hV1.free 4
  have S : ∀ W, IsM W a (s.m l) → Calls Try.prog 28 #[.pointer (some ⟨a, 0, none⟩), .bool (A % 2 != 0)] W fun e w' => e = .returned (.bool s.on) ∧ Kept [a] W w' ∧ IsM w' a (({ s with on := A % 2 != 0 } : St).m l) := fun W h => turn_call a (s.m l) (A % 2 != 0) W h
  have S' := Lib.hid S
  clear S
  go_wp2_with fail
  have k2 : Kept [b] w1 (w1.setCell ⟨b, 4, none⟩ (.bool (A % 2 != 0))) := (Kept.refl [b] w1).set ⟨b, 4, none⟩ _ (by simp)
  have hN2 := hN1.kept k2 (by simp; exact hab) (fun i hi hl => by simp at hi; subst hi; exact ⟨_, _, by decide, hV1⟩)
  have hV2 : IsV (w1.setCell ⟨b, 4, none⟩ (.bool (A % 2 != 0))) b { s with on := A % 2 != 0 } := hV1.set 4 _
  have hO2 := k2.has hO (by simp; exact fun e => hbo e.symm)
  clear o2 o3 o0
  refine (S'.out _ hN2.1).mono ?_
  rintro e w3 ⟨rfl, k3, h3⟩
  have hN3 := hN2.turn k3 h3 rfl
  have hV3 := hV2.kept k3 (by simp; exact fun e => hab e.symm)
  have k2' := Lib.hid k2
  clear k2 h3
  go_wp2_with fail
  go_ret
  exact ⟨rfl, ((hk1.mono (by simp)).trans (k2'.out.mono (by simp))).trans (k3.mono (by simp)), { s with on := A % 2 != 0 }, hs, ⟨l, hN3⟩, hV3⟩

set_option maxRecDepth 100000 in
set_option maxHeartbeats 1600000 in
theorem step_note (a b : Nat) (s : St) (w : World) (ha : IsA w a s) (hb : IsV w b s) (hs : s.ok) (wh A B c0 c1 c2 c3 : Int) (hA : 0 ≤ A ∧ A ≤ 18446744073709551615) (hB : 0 ≤ B ∧ B ≤ 18446744073709551615) :
    Calls Try.prog 23 #[.pointer (some ⟨a, 0, none⟩), .pointer (some ⟨b, 0, none⟩), .agg #[.int .i64 8, .int .i64 wh, .int .u64 A, .int .u64 B, .int .i64 c0, .int .i64 c1, .int .u32 c2, .int .u32 c3]] w (StepPost w a b) := by
  obtain ⟨l, hN⟩ := ha
  have hO := Has.new w 49 (opCells 8 wh A B c0 c1 c2 c3)
  have hN1 : IsN (w.alloc (.cells (opCells 8 wh A B c0 c1 c2 c3).toArray 49)) a (s.m l) s.note := ⟨hN.1.alloc _, hN.2.alloc _⟩
  have hV1 : IsV (w.alloc (.cells (opCells 8 wh A B c0 c1 c2 c3).toArray 49)) b s := hb.alloc _
  have hk1 : Kept [] w (w.alloc (.cells (opCells 8 wh A B c0 c1 c2 c3).toArray 49)) := (Kept.refl _ _).alloc _
  have hao : a ≠ w.heap.size := Nat.ne_of_lt hN.1.lt
  have hbo : b ≠ w.heap.size := Nat.ne_of_lt hb.lt
  have hab : a ≠ b := Has.ne hN.1 hb (by decide)
  clear hN hb
  have e0 : (opCells 8 wh A B c0 c1 c2 c3).toArray = #[.int .i64 8, .int .i64 wh, .int .u64 A, .int .u64 B, .int .i64 c0, .int .i64 c1, .int .u32 c2, .int .u32 c3] := rfl
  rw [e0] at hO hN1 hV1 hk1
  clear e0
  have hn := hnot
  go_enter Try.func23, Try.ntmps23
  go_upto_region 1 with (fail)
  generalize w.alloc (.cells #[.int .i64 8, .int .i64 wh, .int .u64 A, .int .u64 B, .int .i64 c0, .int .i64 c1, .int .u32 c2, .int .u32 c3] 49) = w1 at *
  generalize w.heap.size = o at *
  have o0 := hO.cell 0 (v := .int .i64 8) rfl
  have o2 := hO.cell 2 (v := .int .u64 A) rfl
  have o3 := hO.cell 3 (v := .int .u64 B) rfl
  have o4 := hO.cell 4 (v := .int .i64 c0) rfl
  have o5 := hO.cell 5 (v := .int .i64 c1) rfl
  have o6 := hO.cell 6 (v := .int .u32 c2) rfl
  have o7 := hO.cell 7 (v := .int .u32 c3) rfl
  have v5 := hV1.cell 5 (v := .int .i64 (recOf s.note).at_) rfl
  have v6 := hV1.cell 6 (v := .int .i64 (recOf s.note).code) rfl
  have v7 := hV1.cell 7 (v := .int .u32 (recOf s.note).session) rfl
  have v8 := hV1.cell 8 (v := .int .u32 (recOf s.note).number) rfl
  have v9 := hV1.cell 9 (v := .bool s.note.isSome) rfl
  have hbl := hV1.lt
  have hol := hO.lt
  go_wp2_with fail
  go_region
  have hP := (Has.new w1 44 (recOf s.note).cells).drew
  have k2 : Kept [] w1 (w1.alloc (.cells (recOf s.note).cells.toArray 44)).drew := ((Kept.refl [] w1).alloc _).drew
  have hN2 := hN1.kept k2 (by simp) (by simp)
  have hV2 := hV1.kept k2 (by simp)
  have hO2 := k2.has hO (by simp)
  have e1 : (recOf s.note).cells.toArray = #[.int .i64 (recOf s.note).at_, .int .i64 (recOf s.note).code, .int .u32 (recOf s.note).session, .int .u32 (recOf s.note).number] := rfl
  rw [e1] at hP k2 hN2 hV2 hO2
  have hbp : b ≠ w1.heap.size := Nat.ne_of_lt hV1.lt
  have hap : a ≠ w1.heap.size := Nat.ne_of_lt hN1.1.lt
  have hop : o ≠ w1.heap.size := Nat.ne_of_lt hO.lt
  have hpl : w1.heap.size < (w1.alloc (.cells #[.int .i64 (recOf s.note).at_, .int .i64 (recOf s.note).code, .int .u32 (recOf s.note).session, .int .u32 (recOf s.note).number] 44)).drew.heap.size := by simp
  clear o0 o2 o3 o4 o5 o6 o7 v5 v6 v7 v8 v9 hV1 hO hbl hol e1 hn
  clear hN1
  generalize (w1.alloc (.cells #[.int .i64 (recOf s.note).at_, .int .i64 (recOf s.note).code, .int .u32 (recOf s.note).session, .int .u32 (recOf s.note).number] 44)).drew = w2 at *
  generalize w1.heap.size = p at *
  have o4 := hO2.cell 4 (v := .int .i64 c0) rfl
  have o5 := hO2.cell 5 (v := .int .i64 c1) rfl
  have o6 := hO2.cell 6 (v := .int .u32 c2) rfl
  have o7 := hO2.cell 7 (v := .int .u32 c3) rfl
  have v5 := hV2.cell 5 (v := .int .i64 (recOf s.note).at_) rfl
  have v6 := hV2.cell 6 (v := .int .i64 (recOf s.note).code) rfl
  have v7 := hV2.cell 7 (v := .int .u32 (recOf s.note).session) rfl
  have v8 := hV2.cell 8 (v := .int .u32 (recOf s.note).number) rfl
  have v9 := hV2.cell 9 (v := .bool s.note.isSome) rfl
  have z5 := hV2.free 5
  have z6 := hV2.free 6
  have z7 := hV2.free 7
  have z8 := hV2.free 8
  have z9 := hV2.free 9
  go_wp2_with fail
  clear o4 o5 o6 o7 v5 v6 v7 v8 v9
  have k3 : Kept [b] w2 (((((w2.setCell ⟨b, 5, none⟩ (.int .i64 c0)).setCell ⟨b, 6, none⟩ (.int .i64 c1)).setCell ⟨b, 7, none⟩ (.int .u32 c2)).setCell ⟨b, 8, none⟩ (.int .u32 c3)).setCell ⟨b, 9, none⟩ (.bool true)) :=
    ((((((Kept.refl [b] w2).set _ _ (by simp)).set _ _ (by simp)).set _ _ (by simp)).set _ _ (by simp)).set _ _ (by simp))
  have hV3 : IsV (((((w2.setCell ⟨b, 5, none⟩ (.int .i64 c0)).setCell ⟨b, 6, none⟩ (.int .i64 c1)).setCell ⟨b, 7, none⟩ (.int .u32 c2)).setCell ⟨b, 8, none⟩ (.int .u32 c3)).setCell ⟨b, 9, none⟩ (.bool true)) b { s with note := some ⟨c0, c1, c2, c3⟩ } :=
    ((((hV2.set 5 _).set 6 _).set 7 _).set 8 _).set 9 _
  have hN3 := hN2.kept k3 (by simp; exact hab) (fun i hi hl => by simp at hi; subst hi; exact ⟨_, _, by decide, hV2⟩)
  have hP3 := k3.has hP (by simp; exact fun e => hbp e.symm)
  generalize (((((w2.setCell ⟨b, 5, none⟩ (.int .i64 c0)).setCell ⟨b, 6, none⟩ (.int .i64 c1)).setCell ⟨b, 7, none⟩ (.int .u32 c2)).setCell ⟨b, 8, none⟩ (.int .u32 c3)).setCell ⟨b, 9, none⟩ (.bool true)) = w3 at *
  refine (note_call a (s.m l) s.note ⟨c0, c1, c2, c3⟩ w3 hN3).mono ?_
  rintro e w4 ⟨rfl, k4, m', hN4, e1, e2, e3, e4, e5⟩
  simp only [R.val]
  have hP4 := k4.has hP3 (by simp; exact fun e => hap e.symm)
  have hV4 := hV3.kept k4 (by simp; exact fun e => hab e.symm)
  have hm : m' = ({ s with note := some ⟨c0, c1, c2, c3⟩ } : St).m m'.last := by
    cases m'; simp only [St.m] at *; simp_all [St.m]
  have hm' := Lib.hid hm
  clear hm e1 e2 e3 e4 e5 z5 z6 z7 z8 z9
  have hpl4 := hP4.lt
  have p0 := hP4.cell 0 (v := .int .i64 (recOf s.note).at_) rfl
  have p1 := hP4.cell 1 (v := .int .i64 (recOf s.note).code) rfl
  have p2 := hP4.cell 2 (v := .int .u32 (recOf s.note).session) rfl
  have p3 := hP4.cell 3 (v := .int .u32 (recOf s.note).number) rfl
  go_wp2_with fail
  go_ret
  rw [hm'.out] at hN4
  exact ⟨rfl, (((hk1.mono (by simp)).trans (k2.mono (by simp))).trans ((k3.mono (by simp)).trans (k4.mono (by simp)))).alloc _, { s with note := some ⟨c0, c1, c2, c3⟩ }, hs, IsA.alloc ⟨_, hN4⟩ _, hV4.alloc _⟩
end Go.Proofs.Ytlafkeijikbenaa.Law05
