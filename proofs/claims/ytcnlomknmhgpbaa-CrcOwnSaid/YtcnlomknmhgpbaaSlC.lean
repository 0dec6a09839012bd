/- Rows of bytes: heads of what came in; copies into new rows; one byte of a row. -/
import Derived.Test.YtcnlomknmhgpbaaApA
import Derived.Laws.CopyRow
import Derived.Laws.IdiomCopy
namespace Go.Proofs.Ytcnlomknmhgpbaa.SlC
open Go Go.RowKit Go.Proofs.Ytcnlomknmhgpbaa.Hp Go.Proofs.Ytcnlomknmhgpbaa.Sl Go.Proofs.Ytcnlomknmhgpbaa.Ap
set_option linter.unusedVariables false
set_option linter.unusedSimpArgs false
theorem sl_shape {w : World} {v : Value} {l : List Int} (h : Bytes w v l) : ∃ p c, v = .slice p l.length c ∧ l.length ≤ c := by
  rcases h with ⟨rfl, rfl⟩ | ⟨x, cap, rfl, h1, _⟩
  · exact ⟨_, _, rfl, Nat.le_refl _⟩
  · exact ⟨_, _, rfl, h1⟩
/-- The head of what reads as l. -/
theorem Bytes.head {w : World} {p : Option Addr} {c : Nat} {l : List Int} (h : Bytes w (.slice p l.length c) l) (n : Nat) (hn : n ≤ l.length) : Bytes w (.slice p n c) (l.take n) := by
  have hl : (l.take n).length = n := by rw [List.length_take]; omega
  rcases h with ⟨e, rfl⟩ | ⟨x, cap, e, h1, h2, h3⟩
  · have : n = 0 := by simpa using hn
    subst this
    obtain ⟨rfl, rfl⟩ : p = none ∧ c = 0 := by simpa using e
    exact .inl ⟨rfl, by simp⟩
  · obtain ⟨rfl, rfl⟩ : p = some x ∧ c = cap := by simpa using e
    refine .inr ⟨x, c, by rw [hl], by omega, h2, ?_⟩
    rcases h3 with rfl | ⟨b, off, rfl, hb, h4⟩
    · exact .inl (by simp)
    · refine .inr ⟨b, off, rfl, hb, fun i hi => ?_⟩
      rw [hl] at hi
      rw [h4 i (by omega), List.getD_eq_getElem?_getD, List.getD_eq_getElem?_getD, List.getElem?_take_of_lt hi]
/-- A byte of what reads as l. -/
theorem Bytes.at_ {w : World} {p : Option Addr} {c : Nat} {l : List Int} (h : Bytes w (.slice p l.length c) l) (i : Nat) (hi : i < l.length) : ∃ b off, p = some ⟨b, off, none⟩ ∧ w.cell? ⟨b, off + i, none⟩ = some (.int .u8 (l.getD i 0)) := by
  rcases h with ⟨_, rfl⟩ | ⟨x, cap, e, h1, h2, h3⟩
  · simp at hi
  · obtain ⟨rfl, rfl⟩ : p = some x ∧ c = cap := by simpa using e
    rcases h3 with rfl | ⟨b, off, rfl, hb, h4⟩
    · simp at hi
    · exact ⟨b, off, rfl, h4 i hi⟩
theorem Own.cellAt {w : World} {g : Nat} {v : Value} {l : List Int} (h : Own w g v l) (k : Nat) (hk : k < l.length) : w.cell? ⟨g, k, none⟩ = some (.int .u8 (l.getD k 0)) := by
  obtain ⟨cap, cur, e, h1, h2, h3, h4, h5⟩ := h
  refine h1.cell k ?_
  have : (cur.take l.length)[k]? = (U8 l)[k]? := by rw [h5]
  rw [List.getElem?_take_of_lt hk] at this
  rw [this]
  simp [U8, List.getElem?_map, List.getElem?_eq_getElem hk]
theorem Own.free {w : World} {g : Nat} {v : Value} {l : List Int} (h : Own w g v l) (k : Nat) : w.frozen? ⟨g, k, none⟩ = false := by
  obtain ⟨cap, cur, e, h1, _⟩ := h; exact h1.free k
theorem Own.set {w : World} {g : Nat} {v : Value} {l : List Int} (h : Own w g v l) (k : Nat) (y : Int) (hk : k < l.length) : Own (w.setCell ⟨g, k, none⟩ (.int .u8 y)) g v (l.set k y) := by
  obtain ⟨cap, cur, e, h1, h2, h3, h4, h5⟩ := h
  refine ⟨cap, cur.set k (.int .u8 y), by simpa using e, h1.set k _, by simpa using h2, h3, by simpa using h4, ?_⟩
  rw [List.length_set, List.take_set, h5]
  simp [U8, List.map_set]
theorem size5 : (Try.prog.info? 5).map (·.size) = some 1 := by kernel_rfl
theorem made_u8 (n : Nat) : (madeCells (Value.int .u8 0).cells n).toList = U8 (List.replicate n 0) := by
  apply List.ext_getElem?
  intro i
  rcases Nat.lt_or_ge i n with h | h
  · simp [madeCells, Value.cells, U8, h, Nat.mod_one, List.getElem?_map, List.getElem?_range h]
  · simp [madeCells, Value.cells, U8, h]
theorem run_makeN (n : Nat) (h : n ≤ 1000000) (W : World) : (Instr.makeSlice 22 (.int .i64 (n : Int)) (.int .i64 (n : Int))).run Try.prog W = .ok (.slice (some ⟨W.heap.size, 0, none⟩) n n) (W.alloc (.cells (U8 (List.replicate n 0)).toArray 5)) := by
  obtain ⟨i0, hi, hz0, hz1, hz2⟩ := info_parts info5
  have := run_make (P := Try.prog) W 22 5 i0 (.int .u8 0) Try.underlying22 hi hz0 .i64 .i64 (n : Int) (n : Int) (by omega) (by omega) (by rw [hz2]; omega) (by omega)
  rw [this, hz1, Nat.mul_one, ← made_u8, Int.toNat_natCast]
/-- 'copy' into a row of n zeros. -/
theorem run_copyN (ty : TypeId) (w : World) (g n : Nat) (s : Value) (l : List Int) (hB : Bytes w s l) (hg : Has w g 5 (U8 (List.replicate n 0))) :
    ∃ k w', (Builtin.copy_ #[22, 22] ty #[.slice (some ⟨g, 0, none⟩) n n, s]).run Try.prog w = .ok k w' ∧ Has w' g 5 (U8 (l.take n ++ List.replicate (n - l.length) 0)) ∧ Kept [g] w w' := by
  by_cases hl : l = []
  · subst hl
    obtain ⟨p, c, rfl⟩ : ∃ p c, s = .slice p 0 c := by
      rcases hB with ⟨rfl, _⟩ | ⟨x, cap, rfl, _⟩
      · exact ⟨_, _, rfl⟩
      · exact ⟨_, _, rfl⟩
    exact ⟨_, w, run_copy_none (P := Try.prog) w 22 22 ty 5 _ _ _ _ _ _ Try.underlying22 size5 (by simp), by simpa using hg, Kept.refl _ _⟩
  · rcases hB with ⟨_, h⟩ | ⟨x, cap, rfl, h1, h2, h3⟩
    · exact absurd h hl
    · obtain ⟨b, off, rfl, hb, hc⟩ := h3.resolve_left hl
      have hlen : (U8 (l.take n)).length = Nat.min l.length n := by
        show (U8 (l.take n)).length = min l.length n
        simp [U8, Nat.min_comm]
      have hr := run_copy_row (P := Try.prog) w 22 22 ty 5 g 0 n n ⟨b, off, none⟩ l.length cap (U8 (List.replicate n 0)).toArray 5 (U8 (l.take n)) Try.underlying22 size5 (by unfold Has at hg; exact hg) hlen (by
          intro j v hj
          have hj' : j < (l.take n).length := by
            rcases Nat.lt_or_ge j (l.take n).length with h | h
            · exact h
            · rw [List.getElem?_eq_none (by simpa [U8] using h)] at hj; cases hj
          have hjl : j < l.length := by rw [List.length_take] at hj'; omega
          have hjn : j < n := by rw [List.length_take] at hj'; omega
          rw [Go.WideShapes.add_plain, hc j hjl, ← hj]
          simp [U8, List.getElem?_map, List.getElem?_take_of_lt hjn, List.getElem?_eq_getElem hjl]) (by simp [U8]; omega) (u8_oneCell _)
      have he : ((U8 (List.replicate n 0)).toArray.toList.take 0 ++ U8 (l.take n) ++ (U8 (List.replicate n 0)).toArray.toList.drop (0 + (U8 (l.take n)).length)) = U8 (l.take n ++ List.replicate (n - l.length) 0) := by
        have e2 : n - min n l.length = n - l.length := by omega
        simp [U8, e2]
      rw [he] at hr
      exact ⟨_, _, hr, setRow_heap w g (U8 (List.replicate n 0)).toArray _ 5 _ (by unfold Has at hg; exact hg), rfl, rfl, rfl, by simp, fun k _ hk => setRow_other w g k _ (fun e => hk (by simp [e]))⟩
end Go.Proofs.Ytcnlomknmhgpbaa.SlC
