/- Rows of bytes: many bytes put behind, in a region that draws its order too. -/
import Derived.Test.YtcnlomknmhgpbabApA
import Derived.Maps.AppendAt
namespace Go.Proofs.Ytcnlomknmhgpbab.SlM
open Go Go.RowKit Go.Proofs.Ytcnlomknmhgpbab.Hp Go.Proofs.Ytcnlomknmhgpbab.Sl Go.Proofs.Ytcnlomknmhgpbab.Ap
set_option linter.unusedVariables false
set_option linter.unusedSimpArgs false
theorem row_owns {w : World} {u : Value} {l : List Int} (h : Row w u l) : w.ownsRow 0 5 1 u l.length (U8 l) := by
  rcases h with ⟨rfl, rfl⟩ | ⟨g, cap, cur, rfl, h1, h2, h3, h4, h5⟩
  · exact ⟨rfl, .inl ⟨rfl, rfl⟩⟩
  · refine ⟨by simp [U8], .inr ⟨g, cap, cur.toArray, rfl, Nat.zero_le _, ?_, h2, h3, by simpa using h4, by simpa using h5⟩⟩
    unfold Has at h1; rw [h1]
theorem row_of_owns {w : World} {B : Nat} {v : Value} {l : List Int} (h : w.ownsRow B 5 1 v l.length (U8 l)) : Row w v l := by
  obtain ⟨_, ⟨e, hn⟩ | ⟨g, cap, cur, e, hb, hh, h1, h2, h3, h4⟩⟩ := h
  · exact .inl ⟨e, List.length_eq_zero_iff.1 hn⟩
  · refine .inr ⟨g, cap, cur.toList, e, ?_, h1, h2, by simpa using h3, by simpa using h4⟩
    unfold Has; rw [hh]
/-- What bytes put behind a row do. -/
structure Many (w w' : World) (u u' : Value) (l : List Int) : Prop where
  row : Row w' u' l
  kept : Kept u.ownBlock.toList w w'
  block : u'.ownBlock = u.ownBlock ∨ ∃ g, u'.ownBlock = some g ∧ w.heap.size ≤ g
theorem Many.from_ {w w' : World} {u u' : Value} {l : List Int} {B : Nat} (h : Many w w' u u' l) (hB : ∀ i, u.ownBlock = some i → B ≤ i) (hw : B ≤ w.heap.size) : ∀ i, u'.ownBlock = some i → B ≤ i := by
  intro i hi
  rcases h.block with e | ⟨g, e, hg⟩
  · exact hB i (e ▸ hi)
  · rw [e] at hi; cases hi; exact Nat.le_trans hw hg
theorem run_many (ty : TypeId) (w : World) (u : Value) (l : List Int) (src : Value) (l2 : List Int) (hu : Row w u l) (hB : Bytes w src l2) (hl : l.length + l2.length ≤ 70368744177664) :
    ∃ u' w', (Builtin.append_ #[25, 25] ty #[u, src]).run Try.prog w = .ok u' w' ∧ Many w w' u u' (l ++ l2) := by
  obtain ⟨i0, hi, hz0, hz1, hz2⟩ := info_parts info5
  rcases hB with ⟨rfl, rfl⟩ | ⟨x, cap, rfl, h1, h2, h3⟩
  · have hr := run_append_owned_none (P := Try.prog) (w := w) 0 25 ty 5 i0 1 Try.underlying25 hi _ _ _ (row_owns hu)
    exact ⟨_, _, hr, ⟨by simpa using hu, (Kept.refl _ _), .inl rfl⟩⟩
  · have hc := Bytes.cells h3 (.cells #[] 5)
    have hc' : ∀ j v, (U8 l2)[j]? = some v → w.cell? (Addr.add x j) = some v := by
      intro j v hj
      have hjl : j < l2.length := by
        rcases Nat.lt_or_ge j l2.length with h | h
        · exact h
        · rw [List.getElem?_eq_none (by simpa [U8] using h)] at hj; cases hj
      rcases h3 with rfl | ⟨b, off, rfl, hb, h4⟩
      · simp at hjl
      · rw [Go.WideShapes.add_plain, h4 j hjl, ← hj]
        simp [U8, List.getElem?_map, List.getElem?_eq_getElem hjl]
    obtain ⟨v', w', hr, hown', hgrow, _, hat⟩ := run_append_own_at (P := Try.prog) w 0 25 ty 5 i0 (.int .u8 0) 1 1 Try.underlying25 hi hz0 hz1 hz2 rfl (by decide) _ _ _ (row_owns hu) x l2.length cap (U8 l2) (by simp [U8]) hc' (u8_oneCell l2) (by unfold maxLen; omega) (by omega) (Nat.zero_le _)
    have h9 : w'.ownsRow 0 5 1 v' (l ++ l2).length (U8 (l ++ l2)) := by
      have : U8 l ++ U8 l2 = U8 (l ++ l2) := by simp [U8]
      rw [← this, List.length_append]
      exact hown'
    refine ⟨v', w', hr, row_of_owns h9, kept_of_grown hgrow (by intro k hk; simp [hk]), ?_⟩
    rcases hat with h | h
    · exact .inl h
    · exact .inr ⟨_, h, Nat.le_refl _⟩
theorem wp_app_eq {o : Oper} {a : Act} {w w' : World} {K : Act → World → Prop} {Q : Exit → Act → World → Prop} {s x : Operand} {u v v' : Value} {t : TypeId}
    (ho : o.op = .call { callee := .builtin .append, args := #[s, x], argTypes := #[t, t] }) (hs : a.eval s = u) (hx : a.eval x = v)
    (hr : (Builtin.append_ #[t, t] o.type #[u, v]).run Try.prog w = .ok v' w') (h : K (a.put o.dst v') w') : o.wp Try.prog a w K Q := by
  unfold Oper.wp execOp
  simp only [ho, resolve, invoke, builtin, Sem.run_bind, Sem.run_pure, Result.andThen_ok, List.map_toArray, List.map_cons, List.map_nil, hs, hx, hr]
  exact h
theorem step_many {ops : Array Oper} {o : Oper} {a : Act} {K : Act → World → Prop} {Q : Exit → Act → World → Prop} {E : Prop} (hgd : o.guard = none) (s x : Operand)
    (ho : o.op = .call { callee := .builtin .append, args := #[s, x], argTypes := #[25, 25] }) {w : World} (u : Value) (l : List Int) (src : Value) (l2 : List Int) (hu : Row w u l) (hB : Bytes w src l2)
    (hs : a.eval s = u) (hx : a.eval x = src) (hl : l.length + l2.length ≤ 70368744177664)
    (h : ∀ v' w', Many w w' u v' (l ++ l2) → K (a.put o.dst v') w') : if Region.wanted o (yielded ops a.tmps) = true then Oper.wp Try.prog o a w K Q else E := by
  have hw : Region.wanted o (yielded ops a.tmps) = true := by simp [Region.wanted, hgd]
  rw [if_pos hw]
  obtain ⟨v', w', hr, hm⟩ := run_many o.type w u l src l2 hu hB hl
  exact wp_app_eq ho hs hx hr (h v' w' hm)
theorem row_new (w : World) (l : List Int) (h : l.length ≤ maxLen) : Row (w.alloc (.cells (U8 l).toArray 5)) (.slice (some ⟨w.heap.size, 0, none⟩) l.length l.length) l :=
  .inr ⟨w.heap.size, l.length, U8 l, rfl, Has.new w _ _, Nat.le_refl _, h, by simp [U8], by rw [List.take_of_length_le (by simp [U8])]⟩
theorem row_new2 (w : World) (o : Obj) (l : List Int) (h : l.length ≤ maxLen) : Row ((w.drew.alloc o).alloc (.cells (U8 l).toArray 5)) (.slice (some ⟨w.heap.size + 1, 0, none⟩) l.length l.length) l := by
  have := row_new (w.drew.alloc o) l h
  rw [World.size_alloc] at this
  exact this
theorem Row.bytes {w : World} {v : Value} {l : List Int} (h : Row w v l) : Bytes w v l := by
  rcases h with h | ⟨g, h⟩
  · exact .inl h
  · exact h.bytes
end Go.Proofs.Ytcnlomknmhgpbab.SlM
