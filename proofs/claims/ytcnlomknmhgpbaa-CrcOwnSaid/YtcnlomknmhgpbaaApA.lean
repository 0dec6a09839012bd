/- parapethand.Apart, first part: rows of bytes, one byte put behind. -/
import Derived.Test.YtcnlomknmhgpbaaSl
namespace Go.Proofs.Ytcnlomknmhgpbaa.Ap
open Go Go.RowKit Go.Proofs.Ytcnlomknmhgpbaa.Hp Go.Proofs.Ytcnlomknmhgpbaa.Sl
set_option linter.unusedVariables false
set_option linter.unusedSimpArgs false
/-- A row of the program's own, or none. -/
def Row (w : World) (v : Value) (l : List Int) : Prop := (v = .slice none 0 0 ∧ l = []) ∨ ∃ g, Own w g v l
theorem Own.block {w : World} {g : Nat} {v : Value} {l : List Int} (h : Own w g v l) : v.ownBlock = some g := by
  obtain ⟨cap, cur, rfl, _⟩ := h; rfl
theorem Row.lt {w : World} {v : Value} {l : List Int} (h : Row w v l) {k : Nat} (hk : v.ownBlock = some k) : k < w.heap.size := by
  rcases h with ⟨rfl, _⟩ | ⟨g, h⟩
  · cases hk
  · rw [Own.block h] at hk; cases hk; exact h.lt
theorem Row.kept {w w' : World} {v : Value} {l : List Int} {S : List Nat} (h : Row w v l) (k : Kept S w w') (hS : ∀ b, v.ownBlock = some b → b ∉ S) : Row w' v l := by
  rcases h with h | ⟨g, h⟩
  · exact .inl h
  · exact .inr ⟨g, h.kept k (hS g (Own.block h))⟩
theorem Row.shape {w : World} {v : Value} {l : List Int} (h : Row w v l) : (v = .slice none 0 0 ∧ l = []) ∨ ∃ g cap, v = .slice (some ⟨g, 0, none⟩) l.length cap ∧ l.length ≤ cap ∧ Own w g v l := by
  rcases h with h | ⟨g, h⟩
  · exact .inl h
  · obtain ⟨cap, cur, e, h1, h2, h3⟩ := id h; exact .inr ⟨g, cap, e, h2, h⟩
theorem u8_app (l : List Int) (y : Int) : U8 (l ++ [y]) = U8 l ++ [.int .u8 y] := by simp [U8]
/-- A block whose cells change behind a row's end keeps the row. -/
theorem Own.behind {w w' : World} {g : Nat} {v : Value} {l : List Int} (h : Own w g v l) (n : Nat) (y : Value) (hn : l.length ≤ n) (hc : ∀ cur, Has w g 5 cur → n < cur.length → Has w' g 5 (cur.set n y)) (hlt : ∀ cur, Has w g 5 cur → n < cur.length) : Own w' g v l := by
  obtain ⟨cap, cur, e, h1, h2, h3, h4, h5⟩ := h
  have hl := hlt cur h1
  refine ⟨cap, cur.set n y, e, hc cur h1 hl, h2, h3, by simpa using h4, ?_⟩
  rw [List.take_set_of_le hn]
  exact h5
/-- What a byte put behind a row does. -/
structure Pushed (w w' : World) (u u' : Value) (l : List Int) (y : Int) : Prop where
  row : Row w' u' (l ++ [y])
  kept : Kept u.ownBlock.toList w w'
  block : u'.ownBlock = u.ownBlock ∨ u'.ownBlock = some w.heap.size
  other : ∀ v l0, Row w v l0 → (∀ k, v.ownBlock = some k → u.ownBlock = some k → l0.length ≤ l.length) → Row w' v l0
set_option maxRecDepth 100000 in
theorem run_push (ty : TypeId) (w : World) (u : Value) (l : List Int) (t : Nat) (y : Int) (ho : Row w u l) (ht : Has w t 5 [.int .u8 y]) (hl : l.length ≤ 70368744177664) :
    ∃ u' w', (Builtin.append_ #[22, 22] ty #[u, .slice (some ⟨t, 0, none⟩) 1 1]).run Try.prog w = .ok u' w' ∧ Pushed w w' u u' l y := by
  obtain ⟨i0, hi, hz0, hz1, hz2⟩ := info_parts info5
  have hnews : ∀ j v, [Value.int .u8 y][j]? = some v → w.cell? (Addr.add ⟨t, 0, none⟩ j) = some v := by
    intro j v hj
    rw [Go.WideShapes.add_plain]
    exact (Nat.zero_add j).symm ▸ ht.cell j hj
  have grow : ∀ (u : Value) (cap2 : Nat) (o : Obj) (cs : List Value), o = .cells cs.toArray 5 → l.length + 1 ≤ cap2 → cap2 ≤ maxLen → cs.length = cap2 → cs.take (l.length + 1) = U8 (l ++ [y]) → Pushed w (w.drew.alloc o) u (.slice (some ⟨w.heap.size, 0, none⟩) (l.length + 1) cap2) l y := by
    rintro u cap2 o cs rfl h1 h2 h3 h4
    have hk := ((Kept.refl [] w).drew).alloc (.cells cs.toArray 5)
    refine ⟨.inr ⟨w.heap.size, cap2, cs, by simp, Has.new w.drew _ _, by simpa using h1, h2, h3, by simpa using h4⟩, hk.mono (by simp), .inr rfl, fun v l0 hv _ => hv.kept hk (by simp)⟩
  rcases ho with ⟨rfl, rfl⟩ | ⟨g, ho⟩
  · have hr := run_append_nil (P := Try.prog) w 22 ty 5 i0 (.int .u8 0) Try.underlying22 hi hz0 ⟨t, 0, none⟩ 1 1 [.int .u8 y] (by simp [hz1]) hnews (by decide) (by decide) (by rw [hz2]; decide)
    refine ⟨_, _, hr, ?_⟩
    have hge := grownCap_ge w 1 0 5
    have hcm := grownCap_le_maxLen w 1 0 5 (by decide)
    refine grow _ _ _ (Value.int .u8 y :: (Builtin.zeroCells (Value.int .u8 0).cells (grownCap w 1 0 5 - 1)).toList) ?_ hge hcm ?_ ?_
    · congr 1; apply Array.ext'; simp
    · simp [size_zeroCells, Value.cells]; omega
    · simp [U8]
  · obtain ⟨cap, cur, rfl, h1, h2, h3, h4, h5⟩ := ho
    have holds : ∀ j v, (U8 l)[j]? = some v → w.cell? (Addr.add ⟨g, 0, none⟩ j) = some v := by
      intro j v hj
      rw [Go.WideShapes.add_plain, Nat.zero_add]
      have hj' : j < l.length := by
        rcases Nat.lt_or_ge j l.length with h | h
        · exact h
        · rw [List.getElem?_eq_none (by simpa [U8] using h)] at hj; cases hj
      refine h1.cell j ?_
      rw [← h5, List.getElem?_take_of_lt hj'] at hj
      exact hj
    by_cases hroom : l.length + 1 ≤ cap
    · have hr := run_append_room (P := Try.prog) w 22 ty 5 i0 Try.underlying22 hi g l.length cap cur.toArray (by unfold Has at h1; exact h1) ⟨t, 0, none⟩ 1 1 [.int .u8 y] (by simp [hz1]) hnews (by intro u hu; simp at hu; subst hu; rfl) hroom (by simp [hz1]; omega)
      refine ⟨_, _, hr, ?_⟩
      have hset : ((cur.toArray.toList.take (l.length * i0.size) ++ [Value.int .u8 y] ++ cur.toArray.toList.drop (l.length * i0.size + [Value.int .u8 y].length)).toArray) = (cur.set l.length (.int .u8 y)).toArray := by
        rw [hz1, Nat.mul_one]
        congr 1
        simp only [List.length_singleton]
        rw [List.set_eq_take_append_cons_drop, if_pos (by omega)]
        simp
      rw [hset]
      have hnew : Has (w.setRow g (cur.set l.length (.int .u8 y)).toArray) g 5 (cur.set l.length (.int .u8 y)) := setRow_heap w g cur.toArray _ 5 _ (by unfold Has at h1; exact h1)
      have hk : Kept [g] w (w.setRow g (cur.set l.length (.int .u8 y)).toArray) := ⟨rfl, rfl, rfl, by simp, fun k _ hk => setRow_other w g k _ (fun e => hk (by simp [e]))⟩
      refine ⟨.inr ⟨g, cap, cur.set l.length (.int .u8 y), by simp, hnew, by simpa using hroom, h3, by simpa using h4, ?_⟩, by simpa [Value.ownBlock] using hk, .inl rfl, ?_⟩
      · rw [u8_app, List.length_append, List.length_singleton, ← h5]
        rw [List.set_eq_take_append_cons_drop, if_pos (by omega)]
        have hlen : (cur.take l.length).length = l.length := by rw [List.length_take]; omega
        rw [List.take_append, hlen, List.take_of_length_le (by omega), show l.length + 1 - l.length = 1 by omega]
        rfl
      · intro v l0 hv hl0
        rcases hv with hv | ⟨b, hv⟩
        · exact .inl hv
        · by_cases e : b = g
          · subst e
            have := hl0 b (Own.block hv) rfl
            refine .inr ⟨b, Own.behind hv l.length (.int .u8 y) this (fun c hc hlt => ?_) (fun c hc => ?_)⟩
            · have : c = cur := by unfold Has at hc h1; rw [h1] at hc; simpa using (by simpa using hc : cur = c).symm
              subst this; exact hnew
            · have : c = cur := by unfold Has at hc h1; rw [h1] at hc; simpa using (by simpa using hc : cur = c).symm
              subst this; omega
          · exact .inr ⟨b, hv.kept hk (by simp [e])⟩
    · have hr := run_append_grow (P := Try.prog) w 22 ty 5 i0 (.int .u8 0) Try.underlying22 hi hz0 ⟨g, 0, none⟩ l.length cap (U8 l) (by simp [U8, hz1]) holds ⟨t, 0, none⟩ 1 1 [.int .u8 y] (by simp [hz1]) hnews (by omega) (by omega) (growslice_fits (by omega) (by rw [hz2]; omega))
      refine ⟨_, _, hr, ?_⟩
      have hge := grownCap_ge w (l.length + 1) cap 5
      have hcm := grownCap_le_maxLen w (l.length + 1) cap 5 (by unfold maxLen; omega)
      refine grow _ _ _ (U8 l ++ [Value.int .u8 y] ++ (Builtin.zeroCells (Value.int .u8 0).cells (grownCap w (l.length + 1) cap 5 - (l.length + 1))).toList) ?_ hge hcm ?_ ?_
      · congr 1; apply Array.ext'; simp
      · simp [size_zeroCells, Value.cells, U8]; omega
      · rw [← u8_app]; rw [List.take_append_of_le_length (by simp [U8])]; exact List.take_of_length_le (by simp [U8])
end Go.Proofs.Ytcnlomknmhgpbaa.Ap
