/- The law MeterPlays: any call, on both meters; the walk. -/
import Derived.Test.YtlafkeijikbenaaS05h
import Derived.Test.YtlafkeijikbenaaS05e
namespace Go.Proofs.Ytlafkeijikbenaa.Law05
open Go Go.RowKit Go.Proofs.Ytlafkeijikbenaa.Hp Go.Proofs.Ytlafkeijikbenaa.Atom Go.Proofs.Ytlafkeijikbenaa.AtomC Go.Proofs.Ytlafkeijikbenaa.MeterC Go.Proofs.Ytlafkeijikbenaa.Fit
set_option linter.unusedVariables false
set_option linter.unusedSimpArgs false
set_option maxRecDepth 100000 in
set_option maxHeartbeats 1600000 in
theorem step_other (a b : Nat) (s : St) (w : World) (ha : IsA w a s) (hb : IsV w b s) (hs : s.ok) (kd wh A B c0 c1 c2 c3 : Int) (hA : 0 ≤ A ∧ A ≤ 18446744073709551615) (hB : 0 ≤ B ∧ B ≤ 18446744073709551615) (hk : ∀ j : Int, 1 ≤ j → j ≤ 8 → kd ≠ j) :
    Calls Try.prog 23 #[.pointer (some ⟨a, 0, none⟩), .pointer (some ⟨b, 0, none⟩), .agg #[.int .i64 kd, .int .i64 wh, .int .u64 A, .int .u64 B, .int .i64 c0, .int .i64 c1, .int .u32 c2, .int .u32 c3]] w (StepPost w a b) := by
  have q1 : (kd == 1) = false := by simpa using hk 1 (by decide) (by decide)
  have q2 : (kd == 2) = false := by simpa using hk 2 (by decide) (by decide)
  have q3 : (kd == 3) = false := by simpa using hk 3 (by decide) (by decide)
  have q4 : (kd == 4) = false := by simpa using hk 4 (by decide) (by decide)
  have q5 : (kd == 5) = false := by simpa using hk 5 (by decide) (by decide)
  have q6 : (kd == 6) = false := by simpa using hk 6 (by decide) (by decide)
  have q7 : (kd == 7) = false := by simpa using hk 7 (by decide) (by decide)
  have q8 : (kd == 8) = false := by simpa using hk 8 (by decide) (by decide)
  clear hk
  obtain ⟨l, hN⟩ := ha
  have hO := Has.new w 49 (opCells kd wh A B c0 c1 c2 c3)
  have hN1 : IsN (w.alloc (.cells (opCells kd wh A B c0 c1 c2 c3).toArray 49)) a (s.m l) s.note := ⟨hN.1.alloc _, hN.2.alloc _⟩
  have hV1 : IsV (w.alloc (.cells (opCells kd wh A B c0 c1 c2 c3).toArray 49)) b s := hb.alloc _
  have hk1 : Kept [] w (w.alloc (.cells (opCells kd wh A B c0 c1 c2 c3).toArray 49)) := (Kept.refl _ _).alloc _
  have hao : a ≠ w.heap.size := Nat.ne_of_lt hN.1.lt
  have hbo : b ≠ w.heap.size := Nat.ne_of_lt hb.lt
  have hab : a ≠ b := Has.ne hN.1 hb (by decide)
  clear hN hb
  have e0 : (opCells kd wh A B c0 c1 c2 c3).toArray = #[.int .i64 kd, .int .i64 wh, .int .u64 A, .int .u64 B, .int .i64 c0, .int .i64 c1, .int .u32 c2, .int .u32 c3] := rfl
  rw [e0] at hO hN1 hV1 hk1
  clear e0
  have hn := hnot
  go_enter Try.func23, Try.ntmps23
  go_upto_region 1 with (fail)
  generalize w.alloc (.cells #[.int .i64 kd, .int .i64 wh, .int .u64 A, .int .u64 B, .int .i64 c0, .int .i64 c1, .int .u32 c2, .int .u32 c3] 49) = w1 at *
  generalize w.heap.size = o at *
  have o0 := hO.cell 0 (v := .int .i64 kd) rfl
  have o2 := hO.cell 2 (v := .int .u64 A) rfl
  have o3 := hO.cell 3 (v := .int .u64 B) rfl
  clear o2 o3
  go_wp2_with fail
  go_ret
  exact ⟨rfl, hk1.mono (by simp), s, hs, ⟨l, hN1⟩, hV1⟩
theorem step_any (a b : Nat) (s : St) (w : World) (ha : IsA w a s) (hb : IsV w b s) (hs : s.ok) (kd wh A B c0 c1 c2 c3 : Int) (hA : 0 ≤ A ∧ A ≤ 18446744073709551615) (hB : 0 ≤ B ∧ B ≤ 18446744073709551615) :
    Calls Try.prog 23 #[.pointer (some ⟨a, 0, none⟩), .pointer (some ⟨b, 0, none⟩), .agg #[.int .i64 kd, .int .i64 wh, .int .u64 A, .int .u64 B, .int .i64 c0, .int .i64 c1, .int .u32 c2, .int .u32 c3]] w (StepPost w a b) := by
  by_cases h1 : kd = 1
  · subst h1; exact step_add a b s w ha hb hs wh A B c0 c1 c2 c3 hA hB
  by_cases h2 : kd = 2
  · subst h2; exact step_swap a b s w ha hb hs wh A B c0 c1 c2 c3 hA hB
  by_cases h3 : kd = 3
  · subst h3; exact step_move a b s w ha hb hs wh A B c0 c1 c2 c3 hA hB
  by_cases h4 : kd = 4
  · subst h4; exact step_raise a b s w ha hb hs wh A B c0 c1 c2 c3 hA hB
  by_cases h5 : kd = 5
  · subst h5; exact step_set a b s w ha hb hs wh A B c0 c1 c2 c3 hA hB
  by_cases h6 : kd = 6
  · subst h6; exact step_clear a b s w ha hb hs wh A B c0 c1 c2 c3 hA hB
  by_cases h7 : kd = 7
  · subst h7; exact step_turn a b s w ha hb hs wh A B c0 c1 c2 c3 hA hB
  by_cases h8 : kd = 8
  · subst h8; exact step_note a b s w ha hb hs wh A B c0 c1 c2 c3 hA hB
  exact step_other a b s w ha hb hs kd wh A B c0 c1 c2 c3 hA hB (fun j hj hj' => by omega)
def PlaysRel (W0 : World) (a b v u len : Nat) (i : Value) (w : World) : Prop :=
  ∃ (k : Nat) (s t : St), k ≤ len ∧ i = .int .i64 k ∧ s.ok ∧ t.ok ∧ IsA w a s ∧ IsV w v s ∧ IsA w b t ∧ IsV w u t ∧ Kept [a, b, v, u] W0 w
theorem IsA.has {w : World} {a : Nat} {s : St} (h : IsA w a s) : ∃ T cs, T ≠ 44 ∧ Has w a T cs := by
  obtain ⟨l, h, _⟩ := h; exact ⟨_, _, by decide, h⟩
set_option maxRecDepth 100000 in
set_option maxHeartbeats 1600000 in
theorem MeterPlays_walk (x : Option Addr) (len cap : Nat) (w : World) (hf : ∃ n, Fits Try.prog w n 41 [.slice x len cap]) :
    Calls Try.prog 6 #[.slice x len cap] w fun e w' => e = .returned (.bool true) ∧ Below w.heap.size w w' := by
  obtain ⟨n, hf⟩ := hf
  obtain ⟨_, hm, _, _, hp⟩ := fits_elems Try.underlying41 hf 8 56 (by kernel_rfl) (by kernel_rfl) (by decide)
  unfold maxLen at hm
  have P' := Lib.hid hp
  clear hp hf
  have hn := hnot
  go_enter Try.func6, Try.ntmps6
  go_wp2_with fail
  refine (awake_call _).mono ?_
  rintro e w0 ⟨rfl, k0⟩
  go_wp2_with fail
  refine (new_call _).mono ?_
  rintro e w1 ⟨rfl, k1, h1⟩
  go_wp2_with fail
  refine (new_call _).mono ?_
  rintro e w2 ⟨rfl, k2, h2⟩
  go_wp2_with fail
  have s0 := k0.size
  have s1 := k1.size
  have s2 := k2.size
  have l1 := h1.lt
  have l2 := h2.lt
  have hA : IsA ((w2.alloc (.cells #[.int .u64 0, .int .i64 0, .bool false, .int .u32 0, .bool false, .int .i64 0, .int .i64 0, .int .u32 0, .int .u32 0, .bool false] 46)).alloc (.cells #[.int .u64 0, .int .i64 0, .bool false, .int .u32 0, .bool false, .int .i64 0, .int .i64 0, .int .u32 0, .int .u32 0, .bool false] 46)) w0.heap.size St.zero := ⟨none, ((k2.has h1 (by simp)).alloc _).alloc _, rfl⟩
  have hB : IsA ((w2.alloc (.cells #[.int .u64 0, .int .i64 0, .bool false, .int .u32 0, .bool false, .int .i64 0, .int .i64 0, .int .u32 0, .int .u32 0, .bool false] 46)).alloc (.cells #[.int .u64 0, .int .i64 0, .bool false, .int .u32 0, .bool false, .int .i64 0, .int .i64 0, .int .u32 0, .int .u32 0, .bool false] 46)) w1.heap.size St.zero := ⟨none, (h2.alloc _).alloc _, rfl⟩
  have hV : IsV ((w2.alloc (.cells #[.int .u64 0, .int .i64 0, .bool false, .int .u32 0, .bool false, .int .i64 0, .int .i64 0, .int .u32 0, .int .u32 0, .bool false] 46)).alloc (.cells #[.int .u64 0, .int .i64 0, .bool false, .int .u32 0, .bool false, .int .i64 0, .int .i64 0, .int .u32 0, .int .u32 0, .bool false] 46)) w2.heap.size St.zero := (Has.new w2 46 St.zero.cells).alloc _
  have hU : IsV ((w2.alloc (.cells #[.int .u64 0, .int .i64 0, .bool false, .int .u32 0, .bool false, .int .i64 0, .int .i64 0, .int .u32 0, .int .u32 0, .bool false] 46)).alloc (.cells #[.int .u64 0, .int .i64 0, .bool false, .int .u32 0, .bool false, .int .i64 0, .int .i64 0, .int .u32 0, .int .u32 0, .bool false] 46)) (w2.heap.size + 1) St.zero := by
    have := Has.new (w2.alloc (.cells #[.int .u64 0, .int .i64 0, .bool false, .int .u32 0, .bool false, .int .i64 0, .int .i64 0, .int .u32 0, .int .u32 0, .bool false] 46)) 46 St.zero.cells
    rw [World.size_alloc] at this
    exact this
  have hK : Kept [] w ((w2.alloc (.cells #[.int .u64 0, .int .i64 0, .bool false, .int .u32 0, .bool false, .int .i64 0, .int .i64 0, .int .u32 0, .int .u32 0, .bool false] 46)).alloc (.cells #[.int .u64 0, .int .i64 0, .bool false, .int .u32 0, .bool false, .int .i64 0, .int .i64 0, .int .u32 0, .int .u32 0, .bool false] 46)) := ((((k0.trans k1).trans k2).alloc _).alloc _)
  clear h1 h2 k0 k1 k2
  generalize ((w2.alloc (.cells #[.int .u64 0, .int .i64 0, .bool false, .int .u32 0, .bool false, .int .i64 0, .int .i64 0, .int .u32 0, .int .u32 0, .bool false] 46)).alloc (.cells #[.int .u64 0, .int .i64 0, .bool false, .int .u32 0, .bool false, .int .i64 0, .int .i64 0, .int .u32 0, .int .u32 0, .bool false] 46)) = w3 at *
  generalize w2.heap.size = v at *
  generalize hu : v + 1 = u at *
  generalize w1.heap.size = b at *
  generalize w0.heap.size = a at *
  have hvu : v < u := by omega
  clear hu
  have hK' := Lib.hid hK
  clear hK
  refine (shows_call a v St.zero w3 hA hV St.zero_ok).mono ?_
  rintro e w4 ⟨rfl, k4⟩
  have hA := hA.kept k4 (by simp) (by simp)
  have hB := hB.kept k4 (by simp) (by simp)
  have hV := hV.kept k4 (by simp)
  have hU := hU.kept k4 (by simp)
  go_wp2_with fail
  go_loopw [7] (PlaysRel w4 a b v u len) (fun i _ => len - (intOf i).toNat)
  case atStart => exact ⟨0, St.zero, St.zero, Nat.zero_le _, rfl, St.zero_ok, St.zero_ok, hA, hV, hB, hU, Kept.refl _ _⟩
  case round =>
    clear hA hB hV hU
    obtain ⟨k, s, t, hk, rfl, hs, ht, hA, hV, hB, hU, hK⟩ := hrel
    rename_i wr
    rcases Nat.lt_or_ge k len with hlt | hge
    · obtain ⟨bs, off, rfl, hbs, hel⟩ := P'.out.resolve_left (by omega)
      obtain ⟨m, cs, hcl, hcc, hfit⟩ := hel k hlt
      clear hel
      obtain ⟨kd, wh, A, B, c0, c1, c2, c3, rfl, -, -, wA, wB, -, -, -, -⟩ := op_cells hfit
      have hAb := wf_u64 wA
      have hBb := wf_u64 wB
      have hcell : ∀ W, Kept [a, b, v, u] w4 W → ∀ j x, [Value.int .i64 kd, .int .i64 wh, .int .u64 A, .int .u64 B, .int .i64 c0, .int .i64 c1, .int .u32 c2, .int .u32 c3][j]? = some x → W.cell? ⟨bs, off + k * 8 + j, none⟩ = some x := by
        intro W hKW j x hx
        have hj : j < 8 := by
          rcases Nat.lt_or_ge j 8 with h | h
          · exact h
          · rw [List.getElem?_eq_none (by simpa using h)] at hx; cases hx
        have z1 := hK'.out.size
        have z2 := k4.size
        rw [hKW.cell (by simp; omega) (by simp; omega), k4.cell (by simp; omega) (by simp), hK'.out.cell (by simp; omega) (by simp), hcc j hj]; exact hx
      clear hfit wA wB hcc hcl
      have C := hcell wr hK
      have q0 : wr.cell? ⟨bs, off + k * 8, none⟩ = some (.int .i64 kd) := C 0 _ rfl
      have q1 := C 1 _ rfl
      have q2 := C 2 _ rfl
      have q3 := C 3 _ rfl
      have q4 := C 4 _ rfl
      have q5 := C 5 _ rfl
      have q6 := C 6 _ rfl
      have q7 := C 7 _ rfl
      clear C hcell
      have hK2 := Lib.hid hK
      clear hK
      have hav := hA.ne hV
      have hau := hA.ne hU
      have hbv := hB.ne hV
      have hbu := hB.ne hU
      by_cases hw : wh.tmod 2 = 0
      · have hd : (wh.tmod 2 == 0) = true := by simpa using hw
        clear hw
        go_wp2_with fail
        refine (step_any a v s wr hA hV hs kd wh A B c0 c1 c2 c3 hAb hBb).mono ?_
        rintro e w5 ⟨rfl, k5, s', hs', hA', hV'⟩
        have hxx : ∀ i, i ∈ [a, v] → i < wr.heap.size → ∃ T cs, T ≠ 44 ∧ Has wr i T cs := by
          intro i hi _
          simp at hi
          rcases hi with rfl | rfl
          · exact hA.has
          · exact ⟨_, _, by decide, hV⟩
        have hB' := hB.kept k5 (by simp; omega) hxx
        have hU' := hU.kept k5 (by simp; omega)
        clear hxx q0 q1 q2 q3 q4 q5 q6 q7
        go_wp2_with fail
        refine (shows_call a v s' w5 hA' hV' hs').mono ?_
        rintro e w6 ⟨rfl, k6⟩
        have hA6 := hA'.kept k6 (by simp) (by simp)
        have hB6 := hB'.kept k6 (by simp) (by simp)
        have hV6 := hV'.kept k6 (by simp)
        have hU6 := hU'.kept k6 (by simp)
        clear hA' hB' hV' hU' hA hB hV hU
        go_wp2_with fail
        refine (shows_call b u t w6 hB6 hU6 ht).mono ?_
        rintro e w7 ⟨rfl, k7⟩
        have hA7 := hA6.kept k7 (by simp) (by simp)
        have hB7 := hB6.kept k7 (by simp) (by simp)
        have hV7 := hV6.kept k7 (by simp)
        have hU7 := hU6.kept k7 (by simp)
        clear hA6 hB6 hV6 hU6
        go_wp2_with fail
        go_roundw
        case rel => exact ⟨k + 1, s', t, by omega, by go_num, hs', ht, hA7, hV7, hB7, hU7, ((hK2.out.trans (k5.mono (by simp))).trans (k6.mono (by simp))).trans (k7.mono (by simp))⟩
        case measure => simp [intOf]; omega
      · have hd : (wh.tmod 2 == 0) = false := by simpa using hw
        clear hw
        go_wp2_with fail
        refine (step_any b u t wr hB hU ht kd wh A B c0 c1 c2 c3 hAb hBb).mono ?_
        rintro e w5 ⟨rfl, k5, s', hs', hB', hU'⟩
        have hxx : ∀ i, i ∈ [b, u] → i < wr.heap.size → ∃ T cs, T ≠ 44 ∧ Has wr i T cs := by
          intro i hi _
          simp at hi
          rcases hi with rfl | rfl
          · exact hB.has
          · exact ⟨_, _, by decide, hU⟩
        have hA' := hA.kept k5 (by simp; omega) hxx
        have hV' := hV.kept k5 (by simp; omega)
        clear hxx q0 q1 q2 q3 q4 q5 q6 q7
        go_wp2_with fail
        refine (shows_call a v s w5 hA' hV' hs).mono ?_
        rintro e w6 ⟨rfl, k6⟩
        have hA6 := hA'.kept k6 (by simp) (by simp)
        have hB6 := hB'.kept k6 (by simp) (by simp)
        have hV6 := hV'.kept k6 (by simp)
        have hU6 := hU'.kept k6 (by simp)
        clear hA' hB' hV' hU' hA hB hV hU
        go_wp2_with fail
        refine (shows_call b u s' w6 hB6 hU6 hs').mono ?_
        rintro e w7 ⟨rfl, k7⟩
        have hA7 := hA6.kept k7 (by simp) (by simp)
        have hB7 := hB6.kept k7 (by simp) (by simp)
        have hV7 := hV6.kept k7 (by simp)
        have hU7 := hU6.kept k7 (by simp)
        clear hA6 hB6 hV6 hU6
        go_wp2_with fail
        go_roundw
        case rel => exact ⟨k + 1, s, s', by omega, by go_num, hs, hs', hA7, hV7, hB7, hU7, ((hK2.out.trans (k5.mono (by simp))).trans (k6.mono (by simp))).trans (k7.mono (by simp))⟩
        case measure => simp [intOf]; omega
    · go_wp2_with fail
      go_ret
      exact ⟨rfl, (hK'.out.fresh ((k4.mono (by simp)).trans hK) (S := [a, b, v, u]) (S' := []) (by intro i hi hl; simp at hi; omega)).toBelow (by simp)⟩
end Go.Proofs.Ytlafkeijikbenaa.Law05
