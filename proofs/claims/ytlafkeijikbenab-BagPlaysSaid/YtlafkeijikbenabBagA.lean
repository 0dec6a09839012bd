/- Rows of rows of bytes: one row put behind. -/
import Derived.Test.YtlafkeijikbenabApA
namespace Go.Proofs.Ytlafkeijikbenab.BagC
open Go Go.RowKit Go.Proofs.Ytlafkeijikbenab.Hp Go.Proofs.Ytlafkeijikbenab.Sl Go.Proofs.Ytlafkeijikbenab.Ap
set_option linter.unusedVariables false
set_option linter.unusedSimpArgs false
def nth (vs : List Value) (i : Nat) : Value := vs.getD i (.slice none 0 0)
/-- A row of slices, of block a of the program's own, or none. -/
def Rows (w : World) (a : Option Nat) (v : Value) (vs : List Value) : Prop :=
  (v = .slice none 0 0 ∧ vs = [] ∧ a = none) ∨ ∃ (g cap : Nat) (cur : List Value), a = some g ∧ v = .slice (some ⟨g, 0, none⟩) vs.length cap ∧ Has w g 22 cur ∧ vs.length ≤ cap ∧ cap ≤ maxLen ∧ cur.length = cap ∧ cur.take vs.length = vs
theorem Rows.kept {w w' : World} {a : Option Nat} {v : Value} {vs : List Value} {S : List Nat} (h : Rows w a v vs) (k : Kept S w w') (hS : ∀ g, a = some g → g ∉ S) : Rows w' a v vs := by
  rcases h with h | ⟨g, cap, cur, h1, h2, h3, h4⟩
  · exact .inl h
  · exact .inr ⟨g, cap, cur, h1, h2, k.has h3 (hS g h1), h4⟩
theorem Rows.shape {w : World} {a : Option Nat} {v : Value} {vs : List Value} (h : Rows w a v vs) : ∃ p cap, v = .slice p vs.length cap ∧ vs.length ≤ cap := by
  rcases h with ⟨rfl, rfl, _⟩ | ⟨g, cap, cur, _, rfl, _, h, _⟩
  · exact ⟨none, 0, rfl, Nat.le_refl _⟩
  · exact ⟨_, cap, rfl, h⟩
theorem Rows.lt {w : World} {a : Option Nat} {v : Value} {vs : List Value} (h : Rows w a v vs) {g : Nat} (hg : a = some g) : g < w.heap.size := by
  rcases h with ⟨_, _, rfl⟩ | ⟨g', cap, cur, rfl, _, h, _⟩
  · cases hg
  · cases hg; exact h.lt
theorem Rows.cell {w : World} {a : Option Nat} {v : Value} {vs : List Value} (h : Rows w a v vs) (i : Nat) (hi : i < vs.length) : ∃ g cap, v = .slice (some ⟨g, 0, none⟩) vs.length cap ∧ vs.length ≤ cap ∧ a = some g ∧ w.cell? ⟨g, i, none⟩ = some (nth vs i) := by
  rcases h with ⟨_, rfl, _⟩ | ⟨g, cap, cur, e, e2, h1, h2, h3, h4, h5⟩
  · simp at hi
  · refine ⟨g, cap, e2, h2, e, h1.cell i ?_⟩
    have : (cur.take vs.length)[i]? = vs[i]? := by rw [h5]
    rw [List.getElem?_take_of_lt hi] at this
    rw [this]
    simp [nth, List.getD_eq_getElem?_getD, List.getElem?_eq_getElem hi]
theorem info22 : (Try.prog.info? 22).map (fun i => (i.zero, i.size, i.bytes)) = some (some (.slice none 0 0), 1, 24) := by kernel_rfl
/-- One row put behind. -/
structure Put1 (w w' : World) (a : Option Nat) (u' : Value) (vs : List Value) (y : Value) : Prop where
  rows : ∃ a', (a' = a ∨ ∃ g, a' = some g ∧ w.heap.size ≤ g) ∧ Rows w' a' u' (vs ++ [y])
  kept : Kept a.toList w w'
set_option maxRecDepth 100000 in
theorem run_put (ty : TypeId) (w : World) (a : Option Nat) (u : Value) (vs : List Value) (t : Nat) (y : Value) (ho : Rows w a u vs) (ht : Has w t 22 [y]) (hy : y.oneCell' = true) (hvs : ∀ v ∈ vs, v.oneCell' = true) (hl : vs.length ≤ 1000000) :
    ∃ u' w', (Builtin.append_ #[36, 36] ty #[u, .slice (some ⟨t, 0, none⟩) 1 1]).run Try.prog w = .ok u' w' ∧ Put1 w w' a u' vs y := by
  obtain ⟨i0, hi, hz0, hz1, hz2⟩ := info_parts info22
  have hnews : ∀ j v, [y][j]? = some v → w.cell? (Addr.add ⟨t, 0, none⟩ j) = some v := by
    intro j v hj
    rw [Go.WideShapes.add_plain]
    exact (Nat.zero_add j).symm ▸ ht.cell j hj
  have grow : ∀ (cap2 : Nat) (o : Obj) (cs : List Value), o = .cells cs.toArray 22 → vs.length + 1 ≤ cap2 → cap2 ≤ maxLen → cs.length = cap2 → cs.take (vs.length + 1) = vs ++ [y] → Put1 w (w.drew.alloc o) a (.slice (some ⟨w.heap.size, 0, none⟩) (vs.length + 1) cap2) vs y := by
    rintro cap2 o cs rfl h1 h2 h3 h4
    have hk := ((Kept.refl [] w).drew).alloc (.cells cs.toArray 22)
    exact ⟨⟨some w.heap.size, .inr ⟨_, rfl, Nat.le_refl _⟩, .inr ⟨w.heap.size, cap2, cs, rfl, by simp, Has.new w.drew _ _, by simpa using h1, h2, h3, by simpa using h4⟩⟩, hk.mono (by simp)⟩
  rcases ho with ⟨rfl, rfl, rfl⟩ | ⟨g, cap, cur, rfl, rfl, h1, h2, h3, h4, h5⟩
  · have hr := run_append_nil (P := Try.prog) w 36 ty 22 i0 (.slice none 0 0) Try.underlying36 hi hz0 ⟨t, 0, none⟩ 1 1 [y] (by simp [hz1]) hnews (by decide) (by decide) (by rw [hz2]; decide)
    refine ⟨_, _, hr, ?_⟩
    have hge := grownCap_ge w 1 0 22
    have hcm := grownCap_le_maxLen w 1 0 22 (by decide)
    refine grow _ _ (y :: (Builtin.zeroCells (Value.slice none 0 0).cells (grownCap w 1 0 22 - 1)).toList) ?_ hge hcm ?_ ?_
    · congr 1; apply Array.ext'; simp
    · simp [size_zeroCells, Value.cells]; omega
    · simp
  · have holds : ∀ j v, vs[j]? = some v → w.cell? (Addr.add ⟨g, 0, none⟩ j) = some v := by
      intro j v hj
      rw [Go.WideShapes.add_plain, Nat.zero_add]
      have hj' : j < vs.length := by
        rcases Nat.lt_or_ge j vs.length with h | h
        · exact h
        · rw [List.getElem?_eq_none h] at hj; cases hj
      refine h1.cell j ?_
      rw [← h5, List.getElem?_take_of_lt hj'] at hj
      exact hj
    by_cases hroom : vs.length + 1 ≤ cap
    · have hr := run_append_room (P := Try.prog) w 36 ty 22 i0 Try.underlying36 hi g vs.length cap cur.toArray (by unfold Has at h1; exact h1) ⟨t, 0, none⟩ 1 1 [y] (by simp [hz1]) hnews (by intro u hu; simp at hu; subst hu; exact hy) hroom (by simp [hz1]; omega)
      refine ⟨_, _, hr, ?_⟩
      have hset : ((cur.toArray.toList.take (vs.length * i0.size) ++ [y] ++ cur.toArray.toList.drop (vs.length * i0.size + [y].length)).toArray) = (cur.set vs.length y).toArray := by
        rw [hz1, Nat.mul_one]
        congr 1
        simp only [List.length_singleton]
        rw [List.set_eq_take_append_cons_drop, if_pos (by omega)]
        simp
      rw [hset]
      have hnew : Has (w.setRow g (cur.set vs.length y).toArray) g 22 (cur.set vs.length y) := setRow_heap w g cur.toArray _ 22 _ (by unfold Has at h1; exact h1)
      have hk : Kept [g] w (w.setRow g (cur.set vs.length y).toArray) := ⟨rfl, rfl, rfl, by simp, fun k _ hk => setRow_other w g k _ (fun e => hk (by simp [e]))⟩
      refine ⟨⟨some g, .inl rfl, .inr ⟨g, cap, cur.set vs.length y, rfl, by simp, hnew, by simpa using hroom, h3, by simpa using h4, ?_⟩⟩, by simpa using hk⟩
      rw [List.length_append, List.length_singleton]
      rw [List.set_eq_take_append_cons_drop, if_pos (by omega)]
      have hlen : (cur.take vs.length).length = vs.length := by rw [List.length_take]; omega
      rw [List.take_append, hlen, List.take_of_length_le (by omega), show vs.length + 1 - vs.length = 1 by omega, h5]
      rfl
    · have hr := run_append_grow (P := Try.prog) w 36 ty 22 i0 (.slice none 0 0) Try.underlying36 hi hz0 ⟨g, 0, none⟩ vs.length cap vs (by simp [hz1]) holds ⟨t, 0, none⟩ 1 1 [y] (by simp [hz1]) hnews (by omega) (by omega) (growslice_fits (by omega) (by rw [hz2]; omega))
      refine ⟨_, _, hr, ?_⟩
      have hge := grownCap_ge w (vs.length + 1) cap 22
      have hcm := grownCap_le_maxLen w (vs.length + 1) cap 22 (by unfold maxLen; omega)
      refine grow _ _ (vs ++ [y] ++ (Builtin.zeroCells (Value.slice none 0 0).cells (grownCap w (vs.length + 1) cap 22 - (vs.length + 1))).toList) ?_ hge hcm ?_ ?_
      · congr 1; apply Array.ext'; simp
      · simp [size_zeroCells, Value.cells]; omega
      · rw [List.take_append_of_le_length (by simp)]; exact List.take_of_length_le (by simp)
theorem wp_put {o : Oper} {a : Act} {w : World} {K : Act → World → Prop} {Q : Exit → Act → World → Prop} {s x : Operand}
    (ho : o.op = .call { callee := .builtin .append, args := #[s, x], argTypes := #[36, 36] }) (r : Option Nat) (u : Value) (vs : List Value) (t : Nat) (y : Value) (hR : Rows w r u vs) (hT : Has w t 22 [y]) (hy : y.oneCell' = true) (hvs : ∀ v ∈ vs, v.oneCell' = true)
    (hs : a.eval s = u) (hx : a.eval x = .slice (some ⟨t, 0, none⟩) 1 1) (hl : vs.length ≤ 1000000)
    (h : ∀ v' w', Put1 w w' r v' vs y → K (a.put o.dst v') w') : o.wp Try.prog a w K Q := by
  obtain ⟨v', w', hr, hp⟩ := run_put o.type w r u vs t y hR hT hy hvs hl
  unfold Oper.wp execOp
  simp only [ho, resolve, invoke, builtin, Sem.run_bind, Sem.run_pure, Result.andThen_ok, List.map_toArray, List.map_cons, List.map_nil, hs, hx, hr]
  exact h v' w' hp
theorem wp_app_eq {o : Oper} {a : Act} {w w' : World} {K : Act → World → Prop} {Q : Exit → Act → World → Prop} {s x : Operand} {u v v' : Value} {t : TypeId}
    (ho : o.op = .call { callee := .builtin .append, args := #[s, x], argTypes := #[t, t] }) (hs : a.eval s = u) (hx : a.eval x = v)
    (hr : (Builtin.append_ #[t, t] o.type #[u, v]).run Try.prog w = .ok v' w') (h : K (a.put o.dst v') w') : o.wp Try.prog a w K Q := by
  unfold Oper.wp execOp
  simp only [ho, resolve, invoke, builtin, Sem.run_bind, Sem.run_pure, Result.andThen_ok, List.map_toArray, List.map_cons, List.map_nil, hs, hx, hr]
  exact h
theorem step_put {ops : Array Oper} {o : Oper} {a : Act} {w : World} {K : Act → World → Prop} {Q : Exit → Act → World → Prop} {E : Prop} (hgd : o.guard = none) (s x : Operand)
    (ho : o.op = .call { callee := .builtin .append, args := #[s, x], argTypes := #[36, 36] }) (r : Option Nat) (u : Value) (vs : List Value) (t : Nat) (y : Value) (hR : Rows w r u vs) (hT : Has w t 22 [y]) (hy : y.oneCell' = true) (hvs : ∀ v ∈ vs, v.oneCell' = true)
    (hs : a.eval s = u) (hx : a.eval x = .slice (some ⟨t, 0, none⟩) 1 1) (hl : vs.length ≤ 1000000)
    (h : ∀ v' w', Put1 w w' r v' vs y → K (a.put o.dst v') w') : if Region.wanted o (yielded ops a.tmps) = true then Oper.wp Try.prog o a w K Q else E := by
  have hw : Region.wanted o (yielded ops a.tmps) = true := by simp [Region.wanted, hgd]
  rw [if_pos hw]
  exact wp_put ho r u vs t y hR hT hy hvs hs hx hl h
/-- A clone is a row. -/
theorem row_of_cloned {w w0 w1 : World} {s v : Value} {l : List Int} (hb : Bytes w s l) (h : Cloned w0 s l v w1) : Row w1 v l ∧ ∀ k, v.ownBlock = some k → w0.heap.size ≤ k := by
  rcases h with ⟨rfl, rfl⟩ | ⟨_, g, hg, ho⟩
  · refine ⟨.inl ⟨rfl, ?_⟩, fun k hk => by cases hk⟩
    rcases hb with ⟨_, h⟩ | ⟨x, cap, e, _⟩
    · exact h
    · cases e
  · exact ⟨.inr ⟨g, ho⟩, fun k hk => by rw [Own.block ho] at hk; cases hk; exact hg⟩
theorem Row.sl {w : World} {v : Value} {l : List Int} (h : Row w v l) : ∃ p c, v = .slice p l.length c := by
  rcases h with ⟨rfl, rfl⟩ | ⟨g, h⟩
  · exact ⟨_, _, rfl⟩
  · obtain ⟨_, _, rfl, _⟩ := h; exact ⟨_, _, rfl⟩
/-- The frames of a list. -/
def RowP (P : Nat → Prop) (w : World) (v : Value) (l : List Int) : Prop := Row w v l ∧ ∀ k, v.ownBlock = some k → P k
def HeldP (P : Nat → Prop) (w : World) (a : Option Nat) (v : Value) (fs : List (List Int)) : Prop :=
  ∃ vs, Rows w a v vs ∧ vs.length = fs.length ∧ ∀ i, i < fs.length → RowP P w (nth vs i) (fs.getD i [])
def All (_ : Nat) : Prop := True
abbrev Held (w : World) (a : Option Nat) (v : Value) (fs : List (List Int)) : Prop := HeldP All w a v fs
theorem Row.oneCell {w : World} {v : Value} {l : List Int} (h : Row w v l) : v.oneCell' = true := by
  rcases h with ⟨rfl, _⟩ | ⟨g, h⟩
  · rfl
  · obtain ⟨_, _, rfl, _⟩ := h; rfl
theorem Row.bytes {w : World} {v : Value} {l : List Int} (h : Row w v l) : Bytes w v l := by
  rcases h with h | ⟨g, h⟩
  · exact .inl h
  · exact h.bytes
theorem Row.keptT {w w' : World} {v : Value} {l : List Int} {S : List Nat} (h : Row w v l) (k : Kept S w w') (hS : ∀ b, b ∈ S → b < w.heap.size → ∃ T cs, Has w b T cs ∧ T ≠ 5) : Row w' v l := by
  rcases h with h | ⟨g, h⟩
  · exact .inl h
  · refine .inr ⟨g, h.kept k (fun hm => ?_)⟩
    obtain ⟨T, cs, h2, hT⟩ := hS g hm h.lt
    obtain ⟨_, _, _, h3, _⟩ := h
    unfold Has at h2 h3
    rw [h2] at h3
    simp at h3
    exact hT h3.2
theorem Row.keptP {P : Nat → Prop} {w w' : World} {v : Value} {l : List Int} {S : List Nat} (h : RowP P w v l) (k : Kept S w w') (hS : ∀ b, b ∈ S → b < w.heap.size → (∃ T cs, Has w b T cs ∧ T ≠ 5) ∨ ¬ P b) : RowP P w' v l := by
  refine ⟨?_, h.2⟩
  rcases h.1 with h1 | ⟨g, h1⟩
  · exact .inl h1
  · refine .inr ⟨g, h1.kept k (fun hm => ?_)⟩
    rcases hS g hm h1.lt with ⟨T, cs, h2, hT⟩ | hn
    · obtain ⟨_, _, _, h3, _⟩ := h1
      unfold Has at h2 h3
      rw [h2] at h3
      simp at h3
      exact hT h3.2
    · exact hn (h.2 g (Own.block h1))
theorem HeldP.all {P : Nat → Prop} {w : World} {a : Option Nat} {v : Value} {fs : List (List Int)} (h : HeldP P w a v fs) : Held w a v fs := by
  obtain ⟨vs, h1, h2, h3⟩ := h
  exact ⟨vs, h1, h2, fun i hi => ⟨(h3 i hi).1, fun _ _ => trivial⟩⟩
theorem HeldP.kept {P : Nat → Prop} {w w' : World} {a : Option Nat} {v : Value} {fs : List (List Int)} {S : List Nat} (h : HeldP P w a v fs) (k : Kept S w w') (hS : ∀ b, b ∈ S → b < w.heap.size → (∃ T cs, Has w b T cs ∧ T ≠ 5) ∨ ¬ P b) (ha : ∀ g, a = some g → g ∉ S) : HeldP P w' a v fs := by
  obtain ⟨vs, h1, h2, h3⟩ := h
  exact ⟨vs, h1.kept k ha, h2, fun i hi => Row.keptP (h3 i hi) k hS⟩
theorem Held.one {P : Nat → Prop} {w : World} {fs : List (List Int)} {vs : List Value} (h2 : vs.length = fs.length) (h3 : ∀ i, i < fs.length → RowP P w (nth vs i) (fs.getD i [])) : ∀ v ∈ vs, v.oneCell' = true := by
  intro v hv
  obtain ⟨j, hj, rfl⟩ := List.getElem_of_mem hv
  have := h3 j (by omega)
  have e : nth vs j = vs[j] := by simp [nth, List.getD_eq_getElem?_getD, List.getElem?_eq_getElem hj]
  rw [← e]; exact Row.oneCell this.1
theorem Held.put {P : Nat → Prop} {w w' : World} {a : Option Nat} {v u' y : Value} {fs : List (List Int)} {vs : List Value} {f : List Int} (h1 : Rows w a v vs) (h2 : vs.length = fs.length) (h3 : ∀ i, i < fs.length → RowP P w (nth vs i) (fs.getD i [])) (hy : RowP P w y f) (hp : Put1 w w' a u' vs y) :
    ∃ a', (a' = a ∨ ∃ g, a' = some g ∧ w.heap.size ≤ g) ∧ HeldP P w' a' u' (fs ++ [f]) := by
  obtain ⟨a', ha', hr⟩ := hp.rows
  refine ⟨a', ha', vs ++ [y], hr, by simp [h2], fun i hi => ?_⟩
  have hS : ∀ b, b ∈ a.toList → b < w.heap.size → (∃ T cs, Has w b T cs ∧ T ≠ 5) ∨ ¬ P b := by
    intro b hb _
    refine .inl ?_
    rcases h1 with ⟨_, _, rfl⟩ | ⟨g, cap, cur, rfl, _, h, _⟩
    · simp at hb
    · simp at hb; subst hb; exact ⟨_, _, h, by decide⟩
  rw [List.length_append, List.length_singleton] at hi
  by_cases e : i < fs.length
  · have e1 : nth (vs ++ [y]) i = nth vs i := by simp [nth, List.getD_eq_getElem?_getD, List.getElem?_append_left (show i < vs.length by omega)]
    have e2 : (fs ++ [f]).getD i [] = fs.getD i [] := by simp [List.getD_eq_getElem?_getD, List.getElem?_append_left e]
    rw [e1, e2]; exact Row.keptP (h3 i e) hp.kept hS
  · have : i = fs.length := by omega
    subst this
    have e1 : nth (vs ++ [y]) fs.length = y := by simp [nth, List.getD_eq_getElem?_getD, ← h2]
    have e2 : (fs ++ [f]).getD fs.length [] = f := by simp [List.getD_eq_getElem?_getD]
    rw [e1, e2]; exact Row.keptP hy hp.kept hS
end Go.Proofs.Ytlafkeijikbenab.BagC
