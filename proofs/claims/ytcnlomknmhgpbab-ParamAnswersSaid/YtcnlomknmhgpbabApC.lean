/- parapethand.Spare and Kept. -/
import Derived.Test.YtcnlomknmhgpbabApB
import Derived.Laws.CopyRow
import Derived.Laws.IdiomCopy
import Derived.Deep.QuietTactic
namespace Go.Proofs.Ytcnlomknmhgpbab.Ap
open Go Go.RowKit Go.Proofs.Ytcnlomknmhgpbab.Hp Go.Proofs.Ytcnlomknmhgpbab.Sl
set_option linter.unusedVariables false
set_option linter.unusedSimpArgs false
theorem size5 : (Try.prog.info? 5).map (·.size) = some 1 := by kernel_rfl
set_option maxRecDepth 100000 in
/-- 'copy(whole, b)' into a new row with room for nine more. -/
theorem run_copy9 (ty : TypeId) (w : World) (g : Nat) (s : Value) (l : List Int) (hB : Bytes w s l) (hg : Has w g 5 (U8 (List.replicate (l.length + 9) 0))) :
    ∃ w', (Builtin.copy_ #[25, 25] ty #[.slice (some ⟨g, 0, none⟩) (l.length + 9) (l.length + 9), s]).run Try.prog w = .ok (goInt l.length) w' ∧ Has w' g 5 (U8 (l ++ List.replicate 9 0)) ∧ Kept [g] w w' := by
  by_cases hl : l = []
  · subst hl
    obtain ⟨p, c, rfl⟩ : ∃ p c, s = .slice p 0 c := by
      rcases hB with ⟨rfl, _⟩ | ⟨x, cap, rfl, _⟩
      · exact ⟨_, _, rfl⟩
      · exact ⟨_, _, rfl⟩
    exact ⟨w, run_copy_none (P := Try.prog) w 25 25 ty 5 _ _ _ _ _ _ Try.underlying25 size5 (by simp), by simpa using hg, Kept.refl _ _⟩
  · rcases hB with ⟨_, h⟩ | ⟨x, cap, rfl, h1, h2, h3⟩
    · exact absurd h hl
    · obtain ⟨b, off, rfl, hb, hc⟩ := h3.resolve_left hl
      have hr := run_copy_row (P := Try.prog) w 25 25 ty 5 g 0 (l.length + 9) (l.length + 9) ⟨b, off, none⟩ l.length cap (U8 (List.replicate (l.length + 9) 0)).toArray 5 (U8 l) Try.underlying25 size5 (by unfold Has at hg; exact hg) (by simp [U8]) (by
          intro j v hj
          have hj' : j < l.length := by
            rcases Nat.lt_or_ge j l.length with h | h
            · exact h
            · rw [List.getElem?_eq_none (by simpa [U8] using h)] at hj; cases hj
          rw [Go.WideShapes.add_plain, hc j hj', ← hj]
          simp [U8, List.getElem?_map, List.getElem?_eq_getElem hj']) (by simp [U8]) (u8_oneCell l)
      have he : ((U8 (List.replicate (l.length + 9) 0)).toArray.toList.take 0 ++ U8 l ++ (U8 (List.replicate (l.length + 9) 0)).toArray.toList.drop (0 + (U8 l).length)).toArray = (U8 (l ++ List.replicate 9 0)).toArray := by
        congr 1
        simp [U8]
      rw [he] at hr
      refine ⟨_, by simpa [U8] using hr, setRow_heap w g (U8 (List.replicate (l.length + 9) 0)).toArray _ 5 _ (by unfold Has at hg; exact hg), rfl, rfl, rfl, by simp, fun k _ hk => setRow_other w g k _ (fun e => hk (by simp [e]))⟩
/-- The byte behind the row, in place i. -/
def tl (i : Int) : Int := (201 + i) % 256
/-- The row with j of the nine bytes behind it written. -/
def tailed (l : List Int) (j : Nat) : List Int := l ++ (List.range j).map (fun i : Nat => tl ((l.length + i : Nat) : Int)) ++ List.replicate (9 - j) 0
def whole (l : List Int) : List Int := tailed l 9
theorem tailed_len (l : List Int) (j : Nat) (hj : j ≤ 9) : (tailed l j).length = l.length + 9 := by simp [tailed]; omega
theorem tailed_zero (l : List Int) : tailed l 0 = l ++ List.replicate 9 0 := by simp [tailed]
def SpRel (W : World) (g : Nat) (l : List Int) (x : Value) (w : World) : Prop :=
  ∃ j ws, ws = w ∧ j ≤ 9 ∧ x = .int .i64 ((l.length + j : Nat) : Int) ∧ Kept [] W w ∧ Has w g 5 (U8 (tailed l j))
theorem tailed_step (l : List Int) (j : Nat) (hj : j < 9) : (U8 (tailed l j)).set (l.length + j) (.int .u8 (tl ((l.length + j : Nat) : Int))) = U8 (tailed l (j + 1)) := by
  have h9 : 9 - j = (9 - (j + 1)) + 1 := by omega
  simp only [tailed, U8, h9, List.replicate_succ, List.map_append, List.map_cons, List.range_succ, List.map_nil]
  rw [List.set_append_right _ _ (by simp)]
  simp
theorem made_u8 (n : Nat) : (madeCells (Value.int .u8 0).cells n).toList = U8 (List.replicate n 0) := by
  apply List.ext_getElem?
  intro i
  rcases Nat.lt_or_ge i n with h | h
  · simp [madeCells, Value.cells, U8, h, Nat.mod_one, List.getElem?_map, List.getElem?_range h]
  · simp [madeCells, Value.cells, U8, h]
theorem run_make9 (n : Nat) (h : n ≤ 1000000) (W : World) : (Instr.makeSlice 25 (.int .i64 ((n : Int) + 9)) (.int .i64 ((n : Int) + 9))).run Try.prog W = .ok (.slice (some ⟨W.heap.size, 0, none⟩) (n + 9) (n + 9)) (W.alloc (.cells (U8 (List.replicate (n + 9) 0)).toArray 5)) := by
  obtain ⟨i0, hi, hz0, hz1, hz2⟩ := info_parts info5
  have := run_make (P := Try.prog) W 25 5 i0 (.int .u8 0) Try.underlying25 hi hz0 .i64 .i64 ((n : Int) + 9) ((n : Int) + 9) (by omega) (by omega) (by rw [hz2]; omega) (by omega)
  have e : ((n : Int) + 9).toNat = n + 9 := by omega
  rw [this, hz1, Nat.mul_one, e, ← made_u8]
/-- What Spare gives. -/
def Spared (w w' : World) (g : Nat) (l : List Int) : Prop := w.heap.size ≤ g ∧ Has w' g 5 (U8 (whole l))
set_option maxRecDepth 100000 in
set_option maxHeartbeats 1600000 in
theorem spare_call (s : Value) (l : List Int) (w : World) (hB : Bytes w s l) (hl : l.length ≤ 1000000) :
    Calls Try.prog 24 #[s] w fun e w' => ∃ g, e = .returned (.tuple #[.slice (some ⟨g, 0, none⟩) l.length (l.length + 9), .slice (some ⟨g, 0, none⟩) (l.length + 9) (l.length + 9)]) ∧ Kept [] w w' ∧ Spared w w' g l := by
  obtain ⟨p, c, hs⟩ : ∃ p c, s = .slice p l.length c := by
    rcases hB with ⟨rfl, rfl⟩ | ⟨x, cap, rfl, _⟩
    · exact ⟨_, _, rfl⟩
    · exact ⟨_, _, rfl⟩
  subst hs
  have hm := run_make9 l.length hl
  have hH := Has.new w 5 (U8 (List.replicate (l.length + 9) 0))
  have k0 := (Kept.refl [] w).alloc (.cells (U8 (List.replicate (l.length + 9) 0)).toArray 5)
  have hB0 := hB.kept k0 (by simp)
  obtain ⟨w1, hcp, h1, k1⟩ := run_copy9 3 _ w.heap.size _ l hB0 hH
  have K1 := k0.fresh k1 (by intro i hi hl; simp at hi; omega)
  have HH := Lib.hid h1
  have KK := Lib.hid K1
  clear hH k0 hB0 h1 k1 K1 hB
  go_enter Try.func24, Try.ntmps24
  go_wp2_with fail
  have hgs := HH.out.lt
  generalize hg0 : w.heap.size = g at *
  have HG := Lib.hid (Nat.le_of_eq hg0)
  clear hg0
  go_loopw [5] (SpRel w g l) (fun i _ => l.length + 9 - (intOf i).toNat)
  case atStart => exact ⟨0, _, rfl, by omega, rfl, KK.out, by rw [tailed_zero]; exact HH.out⟩
  case round =>
    clear KK HH hcp hm
    obtain ⟨j, ws, rfl, hj, rfl, hK, hH⟩ := hrel
    have KK := Lib.hid hK
    have HH := Lib.hid hH
    rcases Nat.lt_or_ge j 9 with hj9 | hj9
    · have hlen : (U8 (tailed l j)).length = l.length + 9 := by simp [U8, tailed_len l j hj]
      have q1 : ∃ v, ws.cell? ⟨g, l.length + j, none⟩ = some v := ⟨_, hH.cell (l.length + j) (List.getElem?_eq_getElem (by omega))⟩
      obtain ⟨v1, q1⟩ := q1
      have z1 := hH.free (l.length + j)
      clear hK hH hlen
      go_wp2_with fail
      go_roundw
      case rel => exact ⟨j + 1, _, rfl, by omega, by go_num, KK.out.fresh ((Kept.refl [g] ws).set ⟨g, l.length + j, none⟩ _ (by simp)) (by intro i hi hl; simp at hi; have := HG.out; have := KK.out.size; omega), by rw [← tailed_step l j hj9, show tl ((l.length + j : Nat) : Int) = (201 + ((l.length : Int) + (j : Int))) % 256 by simp [tl]]; exact HH.out.set _ _⟩
      case measure => simp [intOf]; omega
    · obtain rfl : j = 9 := by omega
      clear hK hH
      go_wp2_with fail
      go_ret2
      exact ⟨g, rfl, KK.out, HG.out, HH.out⟩
theorem own_whole {w : World} {g : Nat} {l : List Int} (h : Has w g 5 (U8 (whole l))) (hl : l.length ≤ 1000000) : Own w g (.slice (some ⟨g, 0, none⟩) l.length (l.length + 9)) l := by
  refine ⟨l.length + 9, _, rfl, h, by omega, by unfold maxLen; omega, by simp [U8, whole, tailed_len l 9 (Nat.le_refl _)], ?_⟩
  simp [whole, tailed, U8, List.take_append]
theorem whole_get (l : List Int) (j : Nat) (hj : j < 9) : (U8 (whole l))[l.length + j]? = some (.int .u8 (tl ((l.length + j : Nat) : Int))) := by
  simp [U8, whole, tailed, List.getElem?_append_right, hj]
end Go.Proofs.Ytcnlomknmhgpbab.Ap
