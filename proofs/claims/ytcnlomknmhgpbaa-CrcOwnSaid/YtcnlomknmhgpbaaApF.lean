/- parapethand.Apart: the walk. -/
import Derived.Test.YtcnlomknmhgpbaaApA
import Derived.Deep.Cut
import Derived.Deep.QuietTactic
import Derived.StillTail
import Derived.StillTactics
import Derived.StillTailTactics
import Derived.Laws.CopyRow
import Derived.Laws.IdiomCopy
import Derived.Test.YtcnlomknmhgpbaaBr
namespace Go.Proofs.Ytcnlomknmhgpbaa.Ap
open Go Go.RowKit Go.Proofs.Ytcnlomknmhgpbaa.Hp Go.Proofs.Ytcnlomknmhgpbaa.Sl
set_option linter.unusedVariables false
set_option linter.unusedSimpArgs false
def mk (i k : Int) : Int := IntKind.u8.wrap (wrap64 (wrap64 (wrap64 (17 * i) + wrap64 (5 * k)) + 3))
theorem mark_call (i k : Int) (w : World) : Calls Try.prog 48 #[.int .i64 i, .int .i64 k] w fun e w' => e = .returned (.int .u8 (mk i k)) ∧ w' = w := by
  go_enter Try.func48, Try.ntmps48
  go_wp2
  go_ret
  exact ⟨rfl, rfl⟩
attribute [irreducible] mk
def marks (i n : Nat) : List Int := (List.range n).map fun k : Nat => mk i k
def nilS : Value := .slice none 0 0
def at_ (vl : List Value) (i : Nat) : Value := vl.getD i nilS
/-- The lists as they come. -/
structure Lists (W : World) (a : Nat) (vl : List Value) (ns : Nat → Nat) (S : List Nat) : Prop where
  few : vl.length ≤ 100
  has : Has W a 22 vl
  short : ∀ i, ns i ≤ 1000000
  rows : ∀ i, i < vl.length → ∃ l, l.length = ns i ∧ Row W (at_ vl i) l
  dis : ∀ i j k, i < vl.length → j < vl.length → i ≠ j → (at_ vl i).ownBlock = some k → (at_ vl j).ownBlock ≠ some k
  own : ∀ i k, i < vl.length → (at_ vl i).ownBlock = some k → k ∈ S
theorem marks_len (i n : Nat) : (marks i n).length = n := by simp [marks]
theorem marks_get (i n k : Nat) (h : k < n) : (marks i n).getD k 0 = mk i k := by
  have e : (marks i n)[k]? = some (mk i k) := by simp only [marks, List.getElem?_map, List.getElem?_range h, Option.map_some]
  rw [List.getD_eq_getElem?_getD, e, Option.getD_some]
theorem marks_succ (i n : Nat) : marks i (n + 1) = marks i n ++ [mk i n] := by simp [marks, List.range_succ]
theorem Row.shape2 {w : World} {v : Value} {l : List Int} (h : Row w v l) : ∃ p cap, v = .slice p l.length cap ∧ l.length ≤ cap ∧ (l ≠ [] → ∃ g, p = some ⟨g, 0, none⟩ ∧ Own w g v l) := by
  rcases h.shape with ⟨rfl, rfl⟩ | ⟨g, cap, e, h1, h2⟩
  · exact ⟨none, 0, rfl, by simp, fun h => absurd rfl h⟩
  · exact ⟨_, cap, e, h1, fun _ => ⟨g, rfl, h2⟩⟩
theorem Own.set {w : World} {g : Nat} {v : Value} {l : List Int} (h : Own w g v l) (k : Nat) (y : Int) (hk : k < l.length) : Own (w.setCell ⟨g, k, none⟩ (.int .u8 y)) g v (l.set k y) := by
  obtain ⟨cap, cur, e, h1, h2, h3, h4, h5⟩ := h
  refine ⟨cap, cur.set k (.int .u8 y), by simpa using e, h1.set k _, by simpa using h2, h3, by simpa using h4, ?_⟩
  rw [List.length_set, List.take_set, h5]
  simp [U8, List.map_set]
theorem Own.cellAt {w : World} {g : Nat} {v : Value} {l : List Int} (h : Own w g v l) (k : Nat) (hk : k < l.length) : w.cell? ⟨g, k, none⟩ = some (.int .u8 (l.getD k 0)) := by
  obtain ⟨cap, cur, e, h1, h2, h3, h4, h5⟩ := h
  refine h1.cell k ?_
  have : (cur.take l.length)[k]? = (U8 l)[k]? := by rw [h5]
  rw [List.getElem?_take_of_lt hk] at this
  rw [this]
  simp [U8, List.getElem?_map, List.getElem?_eq_getElem hk]
theorem Own.free {w : World} {g : Nat} {v : Value} {l : List Int} (h : Own w g v l) (k : Nat) : w.frozen? ⟨g, k, none⟩ = false := by
  obtain ⟨cap, cur, e, h1, _⟩ := h; exact h1.free k
theorem at_cell {W : World} {a : Nat} {vl : List Value} (h : Has W a 22 vl) (i : Nat) (hi : i < vl.length) : W.cell? ⟨a, i, none⟩ = some (at_ vl i) := by
  refine h.cell i ?_
  simp [at_, List.getD_eq_getElem?_getD, List.getElem?_eq_getElem hi]
/-- The rows while they are written over: those ahead of i, and of i the first k places. -/
def Marked (w : World) (vl : List Value) (ns : Nat → Nat) (i k : Nat) : Prop :=
  ∀ j, j < vl.length → ∃ l, l.length = ns j ∧ Row w (at_ vl j) l ∧ (j < i → l = marks j (ns j)) ∧ (j = i → l.take k = marks j k)
theorem Marked.kept {w w' : World} {vl : List Value} {ns : Nat → Nat} {i k : Nat} (h : Marked w vl ns i k) (K : Kept [] w w') : Marked w' vl ns i k := by
  intro j hj
  obtain ⟨l, h1, h2, h3⟩ := h j hj
  exact ⟨l, h1, h2.kept K (by simp), h3⟩
/-- One place more is written. -/
theorem Marked.step {W w : World} {a : Nat} {vl : List Value} {ns : Nat → Nat} {S : List Nat} (L : Lists W a vl ns S) {i k g cap : Nat} (hi : i < vl.length) (hk : k < ns i) (h : Marked w vl ns i k) (hg : at_ vl i = .slice (some ⟨g, 0, none⟩) (ns i) cap) :
    Marked (w.setCell ⟨g, k, none⟩ (.int .u8 (mk i k))) vl ns i (k + 1) := by
  intro j hj
  obtain ⟨l, h1, h2, h3, h4⟩ := h j hj
  by_cases e : j = i
  · subst e
    rcases h2 with ⟨h2, rfl⟩ | ⟨g', h2⟩
    · simp at h1; omega
    · have : g' = g := by have := Own.block h2; rw [hg] at this; simp [Value.ownBlock] at this; exact this.symm
      subst this
      refine ⟨l.set k (mk j k), by simpa using h1, .inr ⟨g', Own.set h2 k _ (by omega)⟩, fun h => absurd h (by omega), fun _ => ?_⟩
      rw [marks_succ, ← h4 rfl, List.take_add_one]
      rw [List.take_set_of_le (Nat.le_refl _)]
      simp [List.getElem?_set, show k < l.length by omega]
  · refine ⟨l, h1, h2.kept ((Kept.refl [g] w).set ⟨g, k, none⟩ _ (by simp)) ?_, h3, fun h => absurd h e⟩
    intro b hb hm
    simp at hm
    subst hm
    exact L.dis j i b hj hi e hb (by rw [hg]; rfl)
theorem Marked.next {w : World} {vl : List Value} {ns : Nat → Nat} {i : Nat} (h : Marked w vl ns i (ns i)) : Marked w vl ns (i + 1) 0 := by
  intro j hj
  obtain ⟨l, h1, h2, h3, h4⟩ := h j hj
  refine ⟨l, h1, h2, fun hlt => ?_, fun _ => by simp [marks]⟩
  rcases Nat.lt_or_ge j i with h | h
  · exact h3 h
  · obtain rfl : j = i := by omega
    have := h4 rfl
    rwa [← h1, List.take_length, h1] at this
theorem info22 : (Try.prog.info? 22).map (fun i => (i.zero, i.size, i.bytes)) = some (some (.slice none 0 0), 1, 24) := by kernel_rfl
/-- 'append([][]byte{}, lists...)'. -/
structure Grown (w w' : World) (v' : Value) (b capb : Nat) (cur vl : List Value) : Prop where
  shape : v' = .slice (some ⟨b, 0, none⟩) vl.length capb
  fresh : w.heap.size ≤ b
  has : Has w' b 22 cur
  len : cur.length = capb
  le : vl.length ≤ capb
  most : capb ≤ maxLen
  take : cur.take vl.length = vl
  kept : Kept [] w w'
set_option maxRecDepth 100000 in
theorem wpList_lists {ops : Array Oper} {rest : List Oper} {o : Oper} {a : Act} {Q : Exit → Act → World → Prop} (hgd : Region.wanted o (yielded ops a.tmps) = true) (s x : Operand)
    (ho : o.op = .call { callee := .builtin .append, args := #[s, x], argTypes := #[52, 52] }) (W : World) (p : Nat) (vl : List Value) (hA : Has W p 22 vl) (hsl : ∀ v, v ∈ vl → v.oneCell' = true) (k0 : Nat) (hk0 : W.heap.size = k0)
    (hs : a.eval s = .slice (some ⟨k0, 0, none⟩) 0 0) (hx : a.eval x = .slice (some ⟨p, 0, none⟩) vl.length vl.length) (hl : vl.length ≤ 100)
    (h : ∀ v' w' b capb cur, Grown W w' v' b capb cur vl → wpList Try.prog ops Q rest (a.put o.dst v') w') : wpList Try.prog ops Q (o :: rest) a (W.alloc (.cells #[] 22)) := by
  subst hk0
  obtain ⟨i0, hi, hz0, hz1, hz2⟩ := info_parts info22
  have hH := Has.new W 22 []
  have hown : (W.alloc (.cells #[] 22)).ownsRow W.heap.size 22 1 (.slice (some ⟨W.heap.size, 0, none⟩) 0 0) 0 [] := by
    refine ⟨rfl, .inr ⟨W.heap.size, 0, #[], rfl, Nat.le_refl _, ?_, Nat.le_refl _, by simp, rfl, rfl⟩⟩
    simpa [Has] using hH
  have hk := (Kept.refl [W.heap.size] W).alloc (.cells #[] 22)
  have hA' := hA.alloc (.cells #[] 22)
  obtain ⟨v', w', hr, hown', hgrow, hiff⟩ := run_append_own (P := Try.prog) (W.alloc (.cells #[] 22)) W.heap.size 52 o.type 22 i0 (.slice none 0 0) 1 24 Try.underlying52 hi hz0 hz1 hz2 rfl (by decide) _ _ _ hown ⟨p, 0, none⟩ vl.length vl.length vl (by simp) (by
    intro j u hu
    rw [Go.WideShapes.add_plain, Nat.zero_add]
    exact hA'.cell j hu) hsl (by unfold maxLen; omega) (by omega) (by simp)
  have hn : v' ≠ .slice none 0 0 := fun e => by have := (hiff.1 e).1; cases this
  have hK : Kept [] W w' := (hk.trans (kept_of_grown hgrow (by intro k hk; simp [Value.ownBlock] at hk; simp [hk]))).shed (by simp)
  rcases hown'.2 with ⟨h1, _⟩ | ⟨g, cap, cur, e, hb, hh, h1, h2, h3, h4⟩
  · exact absurd h1 hn
  have hh' : Has w' g 22 cur.toList := by unfold Has; rw [hh]
  refine wpList_step fun K hKK => ?_
  rw [if_pos hgd]
  unfold Oper.wp execOp
  simp only [ho, resolve, invoke, builtin, Sem.run_bind, Sem.run_pure, Result.andThen_ok, List.map_toArray, List.map_cons, List.map_nil, hs, hx, hr]
  exact hKK _ _ (h v' w' g cap cur.toList ⟨by simpa using e, hb, hh', by simpa using h3, by simpa using h1, h2, by simpa using h4, hK⟩)
theorem Row.one {w : World} {v : Value} {l : List Int} (h : Row w v l) : v.oneCell' = true := by
  obtain ⟨p, c, rfl, _⟩ := h.shape2; rfl
theorem at_set {cur : List Value} {i : Nat} (u : Value) (h : i < cur.length) (j : Nat) : at_ (cur.set i u) j = if j = i then u else at_ cur j := by
  simp only [at_, List.getD_eq_getElem?_getD, List.getElem?_set]
  by_cases e : i = j
  · subst e; simp [h]
  · have e' : ¬ j = i := fun x => e x.symm
    simp [e, e']
theorem Row.type {w : World} {v : Value} {l : List Int} (h : Row w v l) {k : Nat} (hk : v.ownBlock = some k) {T : TypeId} {cs : List Value} (hh : Has w k T cs) : T = 5 := by
  rcases h with ⟨rfl, _⟩ | ⟨g, h⟩
  · cases hk
  · have := Own.block h
    rw [hk] at this
    cases this
    obtain ⟨_, _, _, h3, _⟩ := h
    unfold Has at h3 hh
    rw [h3] at hh
    simp at hh
    exact hh.2.symm
/-- The rows while they grow: r rounds, of this round those ahead of i. -/
structure St (W w : World) (a b capb : Nat) (vl cur : List Value) (ns : Nat → Nat) (S : List Nat) (r i : Nat) : Prop where
  kept : Kept S W w
  lists : Has w a 22 vl
  grown : Has w b 22 cur
  len : cur.length = capb
  rows : ∀ j, j < vl.length → Row w (at_ vl j) (marks j (ns j))
  grs : ∀ j, j < vl.length → Row w (at_ cur j) (marks j (ns j + r + if j < i then 1 else 0))
  dis : ∀ j j' k, j < vl.length → j' < vl.length → j ≠ j' → ((at_ vl j).ownBlock = some k ∨ (at_ cur j).ownBlock = some k) → (at_ vl j').ownBlock ≠ some k ∧ (at_ cur j').ownBlock ≠ some k
  own : ∀ j k, j < vl.length → (at_ cur j).ownBlock = some k → (at_ vl j).ownBlock = some k ∨ W.heap.size ≤ k
theorem St.keptE {W w w' : World} {a b capb : Nat} {vl cur : List Value} {ns : Nat → Nat} {S : List Nat} {r i : Nat} (h : St W w a b capb vl cur ns S r i) (k : Kept [] w w') : St W w' a b capb vl cur ns S r i :=
  ⟨h.kept.trans (k.mono (by simp)), k.has h.lists (by simp), k.has h.grown (by simp), h.len, fun j hj => (h.rows j hj).kept k (by simp), fun j hj => (h.grs j hj).kept k (by simp), h.dis, h.own⟩
theorem St.push {W w w' : World} {a b capb : Nat} {vl cur : List Value} {ns : Nat → Nat} {S : List Nat} {r i : Nat} {u' : Value} (L : Lists W a vl ns S) (h : St W w a b capb vl cur ns S r i) (hi : i < vl.length) (hm : vl.length ≤ capb) (hb : W.heap.size ≤ b)
    (hp : Pushed w w' (at_ cur i) u' (marks i (ns i + r)) (Go.Proofs.Ytcnlomknmhgpbaa.Ap.mk i ((ns i + r : Nat) : Int))) : St W (w'.setCell ⟨b, i, none⟩ u') a b capb vl (cur.set i u') ns S r (i + 1) := by
  have hlt : i < cur.length := by rw [h.len]; omega
  have hu := h.grs i hi
  rw [if_neg (Nat.lt_irrefl i), Nat.add_zero] at hu
  have hab : a ≠ b := by have := L.has.lt; omega
  have hnb : ∀ T cs x, Has w x T cs → T ≠ 5 → x ∉ (at_ cur i).ownBlock.toList := by
    intro T cs x hx hT hm
    simp at hm
    exact hT (hu.type hm hx)
  have hg' : Has w' b 22 cur := hp.kept.has h.grown (hnb _ _ _ h.grown (by decide))
  have hl' : Has w' a 22 vl := hp.kept.has h.lists (hnb _ _ _ h.lists (by decide))
  have hset : ∀ {v : Value} {l : List Int}, Row w' v l → Row (w'.setCell ⟨b, i, none⟩ u') v l := fun {v l} hv =>
    hv.kept ((Kept.refl [b] w').set ⟨b, i, none⟩ u' (by simp)) (fun k hk hm => by
      simp at hm; subst hm
      exact absurd (hv.type hk hg') (by decide))
  refine ⟨?_, hl'.set_ne ⟨b, i, none⟩ u' hab, hg'.set i u', by simpa using h.len, ?_, ?_, ?_, ?_⟩
  · refine (h.kept.fresh hp.kept ?_).set ⟨b, i, none⟩ u' (fun h => absurd h (by simp; omega))
    intro x hx hlx
    simp at hx
    rcases h.own i x hi hx with h1 | h1
    · exact L.own i x hi h1
    · omega
  · intro j hj
    refine hset (hp.other _ _ (h.rows j hj) (fun k h1 h2 => ?_))
    by_cases e : j = i
    · subst e; rw [marks_len, marks_len]; omega
    · exact absurd h2 (h.dis j i k hj hi e (.inl h1)).2
  · intro j hj
    rw [at_set u' hlt]
    by_cases e : j = i
    · subst e
      rw [if_pos rfl, if_pos (by omega)]
      have := hp.row
      rw [← marks_succ] at this
      exact hset this
    · rw [if_neg e]
      have h0 := h.grs j hj
      have e2 : (if j < i + 1 then 1 else 0) = (if j < i then 1 else 0) := by
        by_cases q : j < i
        · rw [if_pos q, if_pos (by omega)]
        · rw [if_neg q, if_neg (by omega)]
      rw [e2]
      exact hset (hp.other _ _ h0 (fun k h1 h2 => absurd h2 (h.dis j i k hj hi e (.inr h1)).2))
  · intro j j' k hj hj' hne hk
    rw [at_set u' hlt j] at hk
    rw [at_set u' hlt j']
    have hnew : u'.ownBlock = (at_ cur i).ownBlock ∨ u'.ownBlock = some w.heap.size := hp.block
    by_cases e : j = i
    · subst e
      rw [if_pos rfl] at hk
      rw [if_neg (fun h => hne h.symm)]
      rcases hk with hk | hk
      · exact h.dis j j' k hj hj' hne (.inl hk)
      · rcases hnew with hn | hn
        · exact h.dis j j' k hj hj' hne (.inr (hn ▸ hk))
        · rw [hn] at hk
          cases hk
          exact ⟨fun hx => absurd ((h.rows j' hj').lt hx) (Nat.lt_irrefl _), fun hx => absurd ((h.grs j' hj').lt hx) (Nat.lt_irrefl _)⟩
    · rw [if_neg e] at hk
      by_cases e' : j' = i
      · subst e'
        rw [if_pos rfl]
        have h0 := h.dis j j' k hj hj' hne hk
        refine ⟨h0.1, fun hx => ?_⟩
        rcases hnew with hn | hn
        · exact h0.2 (hn ▸ hx)
        · rw [hn] at hx
          cases hx
          rcases hk with hk | hk
          · exact absurd ((h.rows j hj).lt hk) (Nat.lt_irrefl _)
          · exact absurd ((h.grs j hj).lt hk) (Nat.lt_irrefl _)
      · rw [if_neg e']
        exact h.dis j j' k hj hj' hne hk
  · intro j k hj hk
    rw [at_set u' hlt] at hk
    by_cases e : j = i
    · subst e
      rw [if_pos rfl] at hk
      rcases hp.block with hn | hn
      · exact h.own j k hj (hn ▸ hk)
      · rw [hn] at hk; cases hk; exact .inr h.kept.size
    · rw [if_neg e] at hk
      exact h.own j k hj hk
theorem St.next {W w : World} {a b capb : Nat} {vl cur : List Value} {ns : Nat → Nat} {S : List Nat} {r : Nat} (h : St W w a b capb vl cur ns S r vl.length) : St W w a b capb vl cur ns S (r + 1) 0 :=
  ⟨h.kept, h.lists, h.grown, h.len, h.rows, fun j hj => by have := h.grs j hj; rw [if_pos hj] at this; simpa [Nat.add_assoc] using this, h.dis, h.own⟩
theorem wpList_push {ops : Array Oper} {rest : List Oper} {o : Oper} {a : Act} {Q : Exit → Act → World → Prop} (hgd : Region.wanted o (yielded ops a.tmps) = true) (s x : Operand)
    (ho : o.op = .call { callee := .builtin .append, args := #[s, x], argTypes := #[22, 22] }) (w : World) (t : Nat) (u : Value) (l : List Int) (y : Int) (hR : Row w u l) (hT : Has w t 5 [.int .u8 y])
    (hs : a.eval s = u) (hx : a.eval x = .slice (some ⟨t, 0, none⟩) 1 1) (hl : l.length ≤ 70368744177664)
    (h : ∀ v' w', Pushed w w' u v' l y → wpList Try.prog ops Q rest (a.put o.dst v') w') : wpList Try.prog ops Q (o :: rest) a w := by
  obtain ⟨v', w', hr, hp⟩ := run_push o.type w u l t y hR hT hl
  refine wpList_step fun K hKK => ?_
  rw [if_pos hgd]
  unfold Oper.wp execOp
  simp only [ho, resolve, invoke, builtin, Sem.run_bind, Sem.run_pure, Result.andThen_ok, List.map_toArray, List.map_cons, List.map_nil, hs, hx, hr]
  exact hKK _ _ (h v' w' hp)
theorem wp_app_eq {o : Oper} {a : Act} {w w' : World} {K : Act → World → Prop} {Q : Exit → Act → World → Prop} {s x : Operand} {u v v' : Value} {t : TypeId}
    (ho : o.op = .call { callee := .builtin .append, args := #[s, x], argTypes := #[t, t] }) (hs : a.eval s = u) (hx : a.eval x = v)
    (hr : (Builtin.append_ #[t, t] o.type #[u, v]).run Try.prog w = .ok v' w') (h : K (a.put o.dst v') w') : o.wp Try.prog a w K Q := by
  unfold Oper.wp execOp
  simp only [ho, resolve, invoke, builtin, Sem.run_bind, Sem.run_pure, Result.andThen_ok, List.map_toArray, List.map_cons, List.map_nil, hs, hx, hr]
  exact h
def P3 (W : World) (a b capb : Nat) (vl : List Value) (ns : Nat → Nat) (S : List Nat) (n : Value) (w : World) : Prop :=
  ∃ r ws cur, ws = w ∧ r ≤ 40 ∧ n = .int .i64 (r : Nat) ∧ St W w a b capb vl cur ns S r 0
def P3b (W : World) (a b capb : Nat) (vl : List Value) (ns : Nat → Nat) (S : List Nat) (r : Nat) (x : Value) (w : World) : Prop :=
  ∃ i ws cur, ws = w ∧ i ≤ vl.length ∧ x = .int .i64 (i : Nat) ∧ St W w a b capb vl cur ns S r i
def P1 (W : World) (a : Nat) (vl : List Value) (ns : Nat → Nat) (S : List Nat) (i : Value) (w : World) : Prop :=
  ∃ k ws, ws = w ∧ k ≤ vl.length ∧ i = .int .i64 (k : Nat) ∧ Kept S W w ∧ Has w a 22 vl ∧ Marked w vl ns k 0
def P1b (W : World) (a : Nat) (vl : List Value) (ns : Nat → Nat) (S : List Nat) (i : Nat) (x : Value) (w : World) : Prop :=
  ∃ k ws, ws = w ∧ k ≤ ns i ∧ x = .int .i64 (k : Nat) ∧ Kept S W w ∧ Has w a 22 vl ∧ Marked w vl ns i k
def P4 (W : World) (a b capb : Nat) (vl : List Value) (ns : Nat → Nat) (S : List Nat) (x : Value) (w : World) : Prop :=
  ∃ i ws cur, ws = w ∧ i ≤ vl.length ∧ x = .int .i64 (i : Nat) ∧ St W w a b capb vl cur ns S 40 0
def P4b (W : World) (a b capb : Nat) (vl cur : List Value) (ns : Nat → Nat) (S : List Nat) (x : Value) (w : World) : Prop :=
  ∃ (k : Nat) (ws : World), ws = w ∧ x = .int .i64 (k : Nat) ∧ St W w a b capb vl cur ns S 40 0
set_option maxRecDepth 100000 in
set_option maxHeartbeats 3200000 in
theorem apart_call (W : World) (a : Nat) (vl : List Value) (ns : Nat → Nat) (S : List Nat) (L : Lists W a vl ns S) :
    Calls Try.prog 35 #[.slice (some ⟨a, 0, none⟩) vl.length vl.length] W fun e w' => e = .returned (.bool true) ∧ Kept S W w' := by
  have few := L.few
  have LL := Lib.hid L
  have hstart : P1 W a vl ns S (.int .i64 0) W := ⟨0, _, rfl, Nat.zero_le _, rfl, Kept.refl _ _, L.has, fun j hj => by obtain ⟨l, h1, h2⟩ := L.rows j hj; exact ⟨l, h1, h2, fun h => absurd h (by omega), fun _ => by simp [marks]⟩⟩
  have ST := Lib.hid hstart
  clear hstart L
  go_enter Try.func35, Try.ntmps35
  go_wp2_with fail
  go_loopw [3] (P1 W a vl ns S) (fun i _ => vl.length - (intOf i).toNat)
  case atStart => exact ST.out
  case round =>
    obtain ⟨i, wr, rfl, hi, rfl, hK, hA, hM⟩ := hrel
    rcases Nat.lt_or_ge i vl.length with hlt | hge
    · obtain ⟨l0, hl0, hr0⟩ := LL.out.rows i hlt
      obtain ⟨p, cap, hv, _, _⟩ := hr0.shape2
      rw [hl0] at hv
      have HV := Lib.hid hv
      have hshort := LL.out.short i
      have MM := Lib.hid hM
      have KK := Lib.hid hK
      have AA := Lib.hid hA
      clear hr0 hv hl0 hM hK hA
      go_wp2_with fail
      go_loopw [4] (P1b W a vl ns S i) (fun k _ => ns i - (intOf k).toNat)
      case atStart => exact ⟨0, _, rfl, Nat.zero_le _, rfl, KK.out, AA.out, MM.out⟩
      case round =>
        clear KK AA MM
        obtain ⟨k, ws, rfl, hk, rfl, hK, hA, hM⟩ := hrel
        have q0 : ws.cell? ⟨a, i, none⟩ = some (.slice p (ns i) cap) := by rw [at_cell hA i hlt, HV.out]
        have MM := Lib.hid hM
        have KK := Lib.hid hK
        have AA := Lib.hid hA
        clear hM hK hA
        rcases Nat.lt_or_ge k (ns i) with hkn | hkn
        · have hpg : ∃ g, p = some ⟨g, 0, none⟩ ∧ ∃ l, l.length = ns i ∧ Own ws g (.slice p (ns i) cap) l := by
            obtain ⟨l, h1, h2, _⟩ := MM.out i hlt
            rw [HV.out] at h2
            rcases h2 with ⟨h2, rfl⟩ | ⟨g, h2⟩
            · simp at h1; omega
            · have := Own.block h2
              obtain ⟨c2, cur, e, _⟩ := id h2
              obtain ⟨rfl, _, rfl⟩ : p = some ⟨g, 0, none⟩ ∧ ns i = l.length ∧ cap = c2 := by simpa using e
              exact ⟨g, rfl, l, h1, h2⟩
          obtain ⟨g, rfl, l, hl, ho⟩ := hpg
          have q1 := Own.cellAt ho k (by omega)
          have z1 := Own.free ho k
          have hgs := ho.lt
          have kcap : k < cap := by
            obtain ⟨c2, cur, e, _, h2, _⟩ := id ho
            obtain ⟨_, rfl⟩ : ns i = l.length ∧ cap = c2 := by simpa using e
            omega
          clear ho
          go_wp2_with fail
          have q0' : ws.drew.cell? ⟨a, i, none⟩ = some (.slice (some ⟨g, 0, none⟩) (ns i) cap) := q0
          refine wp_region_still_tail 9 (by kernel_rfl) (by kernel_rfl) ?_
          simp only [List.take_succ_cons, List.take_zero, List.drop_succ_cons, List.drop_zero]
          repeat (first | still_step | still_call (mark_call _ _ _))
          refine wpStill_nil ?_
          change wpList _ _ _ _ _ ws.drew
          have q1' : ws.drew.cell? ⟨g, k, none⟩ = some (.int .u8 (l.getD k 0)) := q1
          have z1' : ws.drew.frozen? ⟨g, k, none⟩ = false := z1
          go_wp2_with fail
          go_roundw
          case rel =>
            refine ⟨k + 1, _, rfl, by omega, by go_num, (KK.out.set ⟨g, k, none⟩ _ (fun _ => ?_)).drew, ?_, ?_⟩
            · exact LL.out.own i g hlt (by rw [HV.out]; rfl)
            · refine (AA.out.set_ne ⟨g, k, none⟩ _ ?_).drew
              rintro rfl
              obtain ⟨l, h1, h2, _⟩ := MM.out i hlt
              rw [HV.out] at h2
              rcases h2 with ⟨h2, _⟩ | ⟨g', h2⟩
              · cases h2
              · have := Own.block h2
                obtain rfl : a = g' := by simpa [Value.ownBlock] using this
                obtain ⟨_, _, _, h3, _⟩ := h2
                have h4 := AA.out
                unfold Has at h3 h4
                rw [h3] at h4
                simp at h4
            · exact (Marked.step LL.out hlt hkn MM.out HV.out).kept ((Kept.refl [] _).drew)
          case measure => simp [intOf]; omega
        · obtain rfl : k = ns i := by omega
          go_wp2_with fail
          go_roundw
          case rel => exact ⟨i + 1, _, rfl, by omega, by go_num, KK.out, AA.out, MM.out.next⟩
          case measure => simp [intOf]; omega
    · obtain rfl : i = vl.length := by omega
      have MM := Lib.hid hM
      have KK := Lib.hid hK
      have AA := Lib.hid hA
      have hsl : ∀ v, v ∈ vl → v.oneCell' = true := by
        intro v hv
        obtain ⟨j, hj, rfl⟩ := List.getElem_of_mem hv
        obtain ⟨l, h1, h2, _⟩ := MM.out j hj
        have : at_ vl j = vl[j] := by simp [at_, List.getD_eq_getElem?_getD, List.getElem?_eq_getElem hj]
        rw [← this]; exact h2.one
      have SL := Lib.hid hsl
      clear hM hK hA hsl
      go_wp2_with (at_builtin; refine wpList_lists rfl _ _ rfl wr a vl AA.out SL.out _ rfl rfl rfl few ?_)
      intro v' w2 b capb cur hg
      have hstart : St W w2 a b capb vl cur ns S 0 0 := by
        have hcur : ∀ j, j < vl.length → at_ cur j = at_ vl j := by
          intro j hj
          have h1 : (cur.take vl.length)[j]? = vl[j]? := by rw [hg.take]
          rw [List.getElem?_take_of_lt hj] at h1
          simp [at_, List.getD_eq_getElem?_getD, h1]
        have hM := MM.out.kept hg.kept
        have hrow : ∀ j, j < vl.length → Row w2 (at_ vl j) (marks j (ns j)) := by
          intro j hj
          obtain ⟨l, h1, h2, h3, _⟩ := hM j hj
          rw [← h3 hj]; exact h2
        refine ⟨KK.out.trans (hg.kept.mono (by simp)), hg.kept.has AA.out (by simp), hg.has, hg.len, hrow, fun j hj => ?_, fun j j' k hj hj' hne hk => ?_, fun j k hj hk => ?_⟩
        · rw [hcur j hj]; simpa using hrow j hj
        · rw [hcur j hj] at hk
          rw [hcur j' hj']
          have hk' : (at_ vl j).ownBlock = some k := by rcases hk with h | h <;> exact h
          exact ⟨LL.out.dis j j' k hj hj' hne hk', LL.out.dis j j' k hj hj' hne hk'⟩
        · rw [hcur j hj] at hk; exact .inl hk
      have hWb : W.heap.size ≤ b := Nat.le_trans KK.out.size hg.fresh
      have hcap := hg.le
      have hmost := hg.most
      obtain rfl := hg.shape
      have SS := Lib.hid hstart
      clear hstart hg MM KK AA SL
      go_wp2_with fail
      go_loopw [6] (P3 W a b capb vl ns S) (fun n _ => 40 - (intOf n).toNat)
      case atStart => exact ⟨0, _, cur, rfl, by omega, rfl, SS.out⟩
      case round =>
        clear SS cur
        obtain ⟨r, wt, cur, rfl, hr, rfl, hS⟩ := hrel
        have SS := Lib.hid hS
        clear hS
        rcases Nat.lt_or_ge r 40 with hr40 | hr40
        · have e40 : ((r : Int) < 40) := by omega
          go_wp2_with fail
          go_loopw [7] (P3b W a b capb vl ns S r) (fun n _ => vl.length - (intOf n).toNat)
          case atStart => exact ⟨0, _, cur, rfl, by omega, rfl, SS.out⟩
          case round =>
            clear SS cur
            obtain ⟨i, wu, cur, rfl, hi, rfl, hS⟩ := hrel
            have SS := Lib.hid hS
            clear hS
            rcases Nat.lt_or_ge i vl.length with hlt | hge
            · have hu := SS.out.grs i hlt
              rw [if_neg (Nat.lt_irrefl i), Nat.add_zero] at hu
              obtain ⟨up, uc, huv, hul, _⟩ := hu.shape2
              rw [marks_len] at huv
              have HU := Lib.hid huv
              have q0 : wu.cell? ⟨b, i, none⟩ = some (.slice up (ns i + r) uc) := by
                rw [← huv]
                refine SS.out.grown.cell i ?_
                simp [at_, List.getD_eq_getElem?_getD, List.getElem?_eq_getElem (show i < cur.length by rw [SS.out.len]; omega)]
              have z0 := SS.out.grown.free i
              have hbl := SS.out.grown.lt
              have hsh := LL.out.short i
              have hic : i < capb := by omega
              clear hu huv hul
              go_wp2_with fail
              have q0' : wu.drew.cell? ⟨b, i, none⟩ = some (.slice up (ns i + r) uc) := q0
              have hS1 := SS.out.keptE (((Kept.refl [] wu).drew).alloc (.cells #[.int .u8 (mk (i : Int) ((ns i + r : Nat) : Int))] 5))
              have hr1 := hS1.grs i hlt
              rw [if_neg (Nat.lt_irrefl i), Nat.add_zero, HU.out] at hr1
              have hT1 := Has.new wu.drew 5 [.int .u8 (mk (i : Int) ((ns i + r : Nat) : Int))]
              obtain ⟨u', w', hap, hp⟩ := run_push 22 _ _ _ wu.drew.heap.size _ hr1 hT1 (by rw [marks_len]; omega)
              have hap : (Builtin.append_ #[22, 22] 22 #[.slice up (ns i + r) uc, .slice (some ⟨wu.heap.size, 0, none⟩) 1 1]).run Try.prog (wu.drew.alloc (.cells #[.int .u8 (mk (i : Int) ((ns i + r : Nat) : Int))] 5)) = .ok u' w' := hap
              have hb' : w'.cell? ⟨b, i, none⟩ = some (.slice up (ns i + r) uc) ∧ w'.frozen? ⟨b, i, none⟩ = false := by
                have hq : b ∉ (Value.slice up (ns i + r) uc).ownBlock.toList := by
                  intro hm
                  simp at hm
                  exact absurd (hr1.type hm hS1.grown) (by decide)
                have hh := hp.kept.has hS1.grown hq
                refine ⟨?_, hh.free i⟩
                rw [← HU.out]
                refine hh.cell i ?_
                simp [at_, List.getD_eq_getElem?_getD, List.getElem?_eq_getElem (show i < cur.length by rw [SS.out.len]; omega)]
              obtain ⟨hb1, hb2⟩ := hb'
              have hu' := hp.row.shape2
              simp only [List.length_append, List.length_singleton] at hu'
              obtain ⟨up', uc', rfl, _, _⟩ := hu'
              have S1 := Lib.hid hS1
              have PP := Lib.hid hp
              clear hS1 hr1 hT1 hp
              have q0'' : (wu.drew.alloc (.cells #[.int .u8 (mk (i : Int) ((ns i + r : Nat) : Int))] 5)).cell? ⟨b, i, none⟩ = some (.slice up (ns i + r) uc) := by go_simp
              refine wp_region_any (by kernel_rfl) ?_
              change wpAny _ _ _ _ _ _ _ wu.drew
              refine wpAny_take (i := 0) (v := ?_) rfl (by kernel_rfl) (by kernel_rfl) (by kernel_rfl) (fun _ _ _ h => h) (Or.inl ⟨by rfl, ?_⟩) ?_
              rotate_left
              · intro w
                go_simp
                try with_reducible rfl
              refine wpAny_take (i := 1) (v := ?_) rfl (by kernel_rfl) (by kernel_rfl) (by kernel_rfl) (fun _ _ _ h => h) (Or.inl ⟨by rfl, ?_⟩) ?_
              rotate_left
              · intro w
                go_simp
                try with_reducible rfl
              refine wpAny_take (i := 2) (v := ?_) rfl (by kernel_rfl) (by kernel_rfl) (by kernel_rfl) (fun _ _ _ h => h) (Or.inl ⟨by rfl, ?_⟩) ?_
              rotate_left
              · intro w
                go_simp
                try with_reducible rfl
              refine wpAny_take (i := 3) (v := ?_) rfl (by kernel_rfl) (by kernel_rfl) (by kernel_rfl) (fun _ _ _ h => h) (Or.inl ⟨by rfl, ?_⟩) ?_
              rotate_left
              · intro w
                go_simp
                try with_reducible rfl
              refine wpAny_take (i := 4) (v := ?_) rfl (by kernel_rfl) (by kernel_rfl) (by kernel_rfl) (fun _ _ _ h => h) (Or.inl ⟨by rfl, ?_⟩) ?_
              rotate_left
              · intro w
                go_simp
                try with_reducible rfl
              refine wpAny_take (i := 6) (v := ?_) rfl (by kernel_rfl) (by kernel_rfl) (by kernel_rfl) (fun _ _ _ h => h) (Or.inl ⟨by rfl, ?_⟩) ?_
              rotate_left
              · intro w
                go_simp
                try with_reducible rfl
              refine wpAny_take (i := 7) (v := ?_) rfl (by kernel_rfl) (by kernel_rfl) (by kernel_rfl) (fun _ _ _ h => h) (Or.inl ⟨by rfl, ?_⟩) ?_
              rotate_left
              · intro w
                go_simp
                try with_reducible rfl
              refine wpAny_take (i := 8) (v := ?_) rfl (by kernel_rfl) (by kernel_rfl) (by kernel_rfl) (fun _ _ _ h => h) (Or.inl ⟨by rfl, ?_⟩) ?_
              rotate_left
              · intro w
                go_simp
                try with_reducible rfl
              refine wpAny_take (i := 9) (v := ?_) rfl (by kernel_rfl) (by kernel_rfl) (by kernel_rfl) (fun _ _ _ h => h) (Or.inl ⟨by rfl, ?_⟩) ?_
              rotate_left
              · intro w
                go_simp
                try with_reducible rfl
              refine wpAny_ready (rs := [5, 10]) (by kernel_rfl) (by simp) ?_
              refine AllReady.cons rfl (fun K hK => ?_) ?_
              · go_simp
                refine hK _ _ ?_
                clear hK K
                refine wpAny_ready (rs := [10]) (by kernel_rfl) (by simp) ?_
                refine AllReady.cons rfl (fun K hK => ?_) ?_
                · go_simp
                  refine hK _ _ ?_
                  clear hK K
                  refine wpAny_take (i := 11) (v := ?_) rfl (by kernel_rfl) (by kernel_rfl) (by kernel_rfl) (fun _ _ _ h => h) (Or.inl ⟨by rfl, ?_⟩) ?_
                  rotate_left
                  · intro w
                    go_simp
                    try with_reducible rfl
                  refine wpAny_ready (rs := [12]) (by kernel_rfl) (by simp) ?_
                  refine AllReady.cons rfl (fun K hK => ?_) ?_
                  · go_simp
                    refine (mark_call _ _ _).mono ?_
                    rintro e w9 ⟨rfl, rfl⟩
                    refine hK _ _ ?_
                    clear hK K
                    refine wpAny_ready (rs := [13]) (by kernel_rfl) (by simp) ?_
                    refine AllReady.cons rfl (fun K hK => ?_) ?_
                    · go_simp
                      refine hK _ _ ?_
                      clear hK K
                      refine wpAny_ready (rs := [14]) (by kernel_rfl) (by simp) ?_
                      refine AllReady.cons rfl (fun K hK => ?_) ?_
                      · rw [if_pos (by rfl)]
                        refine wp_app_eq rfl rfl rfl hap ?_
                        refine hK _ _ ?_
                        clear hK K
                        refine wpAny_ready (rs := [15]) (by kernel_rfl) (by simp) ?_
                        refine AllReady.cons rfl (fun K hK => ?_) ?_
                        · go_simp
                          refine hK _ _ ?_
                          clear hK K
                          refine wpAny_ready (rs := [16]) (by kernel_rfl) (by simp) ?_
                          refine AllReady.cons rfl (fun K hK => ?_) ?_
                          · go_simp
                            refine hK _ _ ?_
                            clear hK K
                            refine wpAny_done (by kernel_rfl) ?_ _
                            go_wp2_with fail
                            go_roundw
                            case rel => exact ⟨i + 1, _, _, rfl, by omega, by go_num, St.push LL.out S1.out hlt hcap hWb (by rw [HU.out]; exact PP.out)⟩
                            case measure => simp [intOf]; omega
                          exact AllReady.nil
                        exact AllReady.nil
                      exact AllReady.nil
                    exact AllReady.nil
                  exact AllReady.nil
                exact AllReady.nil
              refine AllReady.cons rfl (fun K hK => ?_) ?_
              · go_simp
                refine hK _ _ ?_
                clear hK K
                refine wpAny_take (i := 11) (v := ?_) rfl (by kernel_rfl) (by kernel_rfl) (by kernel_rfl) (fun _ _ _ h => h) (Or.inl ⟨by rfl, ?_⟩) ?_
                rotate_left
                · intro w
                  go_simp
                  try with_reducible rfl
                refine wpAny_ready (rs := [5, 12]) (by kernel_rfl) (by simp) ?_
                refine AllReady.cons rfl (fun K hK => ?_) ?_
                · go_simp
                  refine hK _ _ ?_
                  clear hK K
                  refine wpAny_ready (rs := [12]) (by kernel_rfl) (by simp) ?_
                  refine AllReady.cons rfl (fun K hK => ?_) ?_
                  · go_simp
                    refine (mark_call _ _ _).mono ?_
                    rintro e w9 ⟨rfl, rfl⟩
                    refine hK _ _ ?_
                    clear hK K
                    refine wpAny_ready (rs := [13]) (by kernel_rfl) (by simp) ?_
                    refine AllReady.cons rfl (fun K hK => ?_) ?_
                    · go_simp
                      refine hK _ _ ?_
                      clear hK K
                      refine wpAny_ready (rs := [14]) (by kernel_rfl) (by simp) ?_
                      refine AllReady.cons rfl (fun K hK => ?_) ?_
                      · rw [if_pos (by rfl)]
                        refine wp_app_eq rfl rfl rfl hap ?_
                        refine hK _ _ ?_
                        clear hK K
                        refine wpAny_ready (rs := [15]) (by kernel_rfl) (by simp) ?_
                        refine AllReady.cons rfl (fun K hK => ?_) ?_
                        · go_simp
                          refine hK _ _ ?_
                          clear hK K
                          refine wpAny_ready (rs := [16]) (by kernel_rfl) (by simp) ?_
                          refine AllReady.cons rfl (fun K hK => ?_) ?_
                          · go_simp
                            refine hK _ _ ?_
                            clear hK K
                            refine wpAny_done (by kernel_rfl) ?_ _
                            go_wp2_with fail
                            go_roundw
                            case rel => exact ⟨i + 1, _, _, rfl, by omega, by go_num, St.push LL.out S1.out hlt hcap hWb (by rw [HU.out]; exact PP.out)⟩
                            case measure => simp [intOf]; omega
                          exact AllReady.nil
                        exact AllReady.nil
                      exact AllReady.nil
                    exact AllReady.nil
                  exact AllReady.nil
                refine AllReady.cons rfl (fun K hK => ?_) ?_
                · go_simp
                  refine (mark_call _ _ _).mono ?_
                  rintro e w9 ⟨rfl, rfl⟩
                  refine hK _ _ ?_
                  clear hK K
                  refine wpAny_ready (rs := [5, 13]) (by kernel_rfl) (by simp) ?_
                  refine AllReady.cons rfl (fun K hK => ?_) ?_
                  · go_simp
                    refine hK _ _ ?_
                    clear hK K
                    refine wpAny_ready (rs := [13]) (by kernel_rfl) (by simp) ?_
                    refine AllReady.cons rfl (fun K hK => ?_) ?_
                    · go_simp
                      refine hK _ _ ?_
                      clear hK K
                      refine wpAny_ready (rs := [14]) (by kernel_rfl) (by simp) ?_
                      refine AllReady.cons rfl (fun K hK => ?_) ?_
                      · rw [if_pos (by rfl)]
                        refine wp_app_eq rfl rfl rfl hap ?_
                        refine hK _ _ ?_
                        clear hK K
                        refine wpAny_ready (rs := [15]) (by kernel_rfl) (by simp) ?_
                        refine AllReady.cons rfl (fun K hK => ?_) ?_
                        · go_simp
                          refine hK _ _ ?_
                          clear hK K
                          refine wpAny_ready (rs := [16]) (by kernel_rfl) (by simp) ?_
                          refine AllReady.cons rfl (fun K hK => ?_) ?_
                          · go_simp
                            refine hK _ _ ?_
                            clear hK K
                            refine wpAny_done (by kernel_rfl) ?_ _
                            go_wp2_with fail
                            go_roundw
                            case rel => exact ⟨i + 1, _, _, rfl, by omega, by go_num, St.push LL.out S1.out hlt hcap hWb (by rw [HU.out]; exact PP.out)⟩
                            case measure => simp [intOf]; omega
                          exact AllReady.nil
                        exact AllReady.nil
                      exact AllReady.nil
                    exact AllReady.nil
                  refine AllReady.cons rfl (fun K hK => ?_) ?_
                  · go_simp
                    refine hK _ _ ?_
                    clear hK K
                    refine wpAny_ready (rs := [5]) (by kernel_rfl) (by simp) ?_
                    refine AllReady.cons rfl (fun K hK => ?_) ?_
                    · go_simp
                      refine hK _ _ ?_
                      clear hK K
                      refine wpAny_ready (rs := [14]) (by kernel_rfl) (by simp) ?_
                      refine AllReady.cons rfl (fun K hK => ?_) ?_
                      · rw [if_pos (by rfl)]
                        refine wp_app_eq rfl rfl rfl hap ?_
                        refine hK _ _ ?_
                        clear hK K
                        refine wpAny_ready (rs := [15]) (by kernel_rfl) (by simp) ?_
                        refine AllReady.cons rfl (fun K hK => ?_) ?_
                        · go_simp
                          refine hK _ _ ?_
                          clear hK K
                          refine wpAny_ready (rs := [16]) (by kernel_rfl) (by simp) ?_
                          refine AllReady.cons rfl (fun K hK => ?_) ?_
                          · go_simp
                            refine hK _ _ ?_
                            clear hK K
                            refine wpAny_done (by kernel_rfl) ?_ _
                            go_wp2_with fail
                            go_roundw
                            case rel => exact ⟨i + 1, _, _, rfl, by omega, by go_num, St.push LL.out S1.out hlt hcap hWb (by rw [HU.out]; exact PP.out)⟩
                            case measure => simp [intOf]; omega
                          exact AllReady.nil
                        exact AllReady.nil
                      exact AllReady.nil
                    exact AllReady.nil
                  exact AllReady.nil
                exact AllReady.nil
              exact AllReady.nil
            · obtain rfl : i = vl.length := by omega
              go_wp2_with fail
              go_roundw
              case rel => exact ⟨r + 1, _, cur, rfl, by omega, by go_num, SS.out.next⟩
              case measure => simp [intOf]; omega
        · have hr4 : r = 40 := by omega
          have hS4 := SS.out
          rw [hr4] at hS4
          have SS4 := Lib.hid hS4
          have hrn : ¬ ((r : Int) < 40) := by omega
          clear hS4 hr4 SS
          go_wp2_with fail
          go_loopw [8] (P4 W a b capb vl ns S) (fun n _ => vl.length - (intOf n).toNat)
          case atStart => exact ⟨0, _, cur, rfl, by omega, rfl, SS4.out⟩
          case round =>
            clear SS4 cur
            obtain ⟨i, wu, cur, rfl, hi, rfl, hS⟩ := hrel
            have SS := Lib.hid hS
            clear hS
            rcases Nat.lt_or_ge i vl.length with hlt | hge
            · have hu := SS.out.grs i hlt
              rw [if_neg (Nat.not_lt_zero i), Nat.add_zero] at hu
              obtain ⟨up, uc, huv, hul, huo⟩ := hu.shape2
              rw [marks_len] at huv
              have HU := Lib.hid huv
              have hv := SS.out.rows i hlt
              obtain ⟨vp, vc, hvv, hvl, hvo⟩ := hv.shape2
              rw [marks_len] at hvv
              have HV := Lib.hid hvv
              have hsh := LL.out.short i
              clear hu huv hul huo hv hvv hvl hvo
              have hic : i < capb := by omega
              go_wp2_with fail
              go_loopw [9] (P4b W a b capb vl cur ns S) (fun n _ => (ns i + 40) - (intOf n).toNat)
              case atStart => exact ⟨0, _, rfl, rfl, SS.out⟩
              case round =>
                clear SS
                obtain ⟨k, wv, rfl, rfl, hS⟩ := hrel
                have SS := Lib.hid hS
                have q0 : wv.cell? ⟨b, i, none⟩ = some (.slice up (ns i + 40) uc) := by
                  rw [← HU.out]
                  refine hS.grown.cell i ?_
                  simp [at_, List.getD_eq_getElem?_getD, List.getElem?_eq_getElem (show i < cur.length by rw [hS.len]; omega)]
                clear hS
                rcases Nat.lt_or_ge k (ns i + 40) with hk | hk
                · have hu := SS.out.grs i hlt
                  rw [if_neg (Nat.not_lt_zero i), Nat.add_zero, HU.out] at hu
                  obtain ⟨g, cap, e, hle, ho⟩ := hu.shape.resolve_left (fun h => by have := congrArg List.length h.2; rw [marks_len] at this; simp at this)
                  rw [marks_len] at e hle
                  obtain ⟨rfl, rfl⟩ : up = some ⟨g, 0, none⟩ ∧ uc = cap := by simpa using e
                  have q1 := Own.cellAt ho k (by rw [marks_len]; exact hk)
                  rw [marks_get _ _ _ hk] at q1
                  have ne : (mk (i : Int) (k : Int) != mk (i : Int) (k : Int)) = false := by simp
                  have hkc : k < uc := by omega
                  clear hu e ho
                  go_wp2_with fail
                  go_quiet (first | (go_at_call 48; exact Calls.quiet_of_same (mark_call _ _ _)))
                  go_wp2_with fail
                  go_roundw
                  case rel => exact ⟨k + 1, _, rfl, by go_num, SS.out.keptE ((Kept.refl [] _).drewN _)⟩
                  case measure => simp [intOf]; omega
                · clear q0
                  have q0 : wv.cell? ⟨b, i, none⟩ = some (.slice up (ns i + 40) uc) := by
                    rw [← HU.out]
                    refine SS.out.grown.cell i ?_
                    simp [at_, List.getD_eq_getElem?_getD, List.getElem?_eq_getElem (show i < cur.length by rw [SS.out.len]; omega)]
                  have hkn : ¬ ((k : Int) < ((ns i + 40 : Nat) : Int)) := by omega
                  go_wp2_with fail
                  go_loopw [10] (P4b W a b capb vl cur ns S) (fun n _ => ns i - (intOf n).toNat)
                  case atStart => exact ⟨0, _, rfl, rfl, SS.out⟩
                  case round =>
                    clear SS q0
                    obtain ⟨k2, wx, rfl, rfl, hS⟩ := hrel
                    have SS := Lib.hid hS
                    have q0 : wx.cell? ⟨a, i, none⟩ = some (.slice vp (ns i) vc) := by
                      rw [← HV.out]
                      exact at_cell hS.lists i hlt
                    clear hS
                    rcases Nat.lt_or_ge k2 (ns i) with hk2 | hk2
                    · have hv := SS.out.rows i hlt
                      rw [HV.out] at hv
                      obtain ⟨g, cap, e, hle, ho⟩ := hv.shape.resolve_left (fun h => by have := congrArg List.length h.2; rw [marks_len] at this; simp at this; omega)
                      rw [marks_len] at e hle
                      obtain ⟨rfl, rfl⟩ : vp = some ⟨g, 0, none⟩ ∧ vc = cap := by simpa using e
                      have q1 := Own.cellAt ho k2 (by rw [marks_len]; exact hk2)
                      rw [marks_get _ _ _ hk2] at q1
                      have ne : (mk (i : Int) (k2 : Int) != mk (i : Int) (k2 : Int)) = false := by simp
                      have hkc : k2 < vc := by omega
                      clear hv e ho
                      go_wp2_with fail
                      go_quiet (first | (go_at_call 48; exact Calls.quiet_of_same (mark_call _ _ _)))
                      go_wp2_with fail
                      go_roundw
                      case rel => exact ⟨k2 + 1, _, rfl, by go_num, SS.out.keptE ((Kept.refl [] _).drewN _)⟩
                      case measure => simp [intOf]; omega
                    · go_wp2_with fail
                      go_roundw
                      case rel => exact ⟨i + 1, _, cur, rfl, by omega, by go_num, SS.out⟩
                      case measure => simp [intOf]; omega
            · go_wp2_with fail
              go_ret
              exact ⟨rfl, SS.out.kept⟩
end Go.Proofs.Ytcnlomknmhgpbaa.Ap

namespace Go.Proofs.Ytcnlomknmhgpbaa.Ap
open Go Go.RowKit Go.Proofs.Ytcnlomknmhgpbaa.Hp Go.Proofs.Ytcnlomknmhgpbaa.Sl
set_option linter.unusedVariables false
set_option linter.unusedSimpArgs false
theorem size5 : (Try.prog.info? 5).map (·.size) = some 1 := by kernel_rfl
set_option maxRecDepth 100000 in
/-- 'copy(whole, b)' into a new row with room for nine more. -/
theorem run_copy9 (ty : TypeId) (w : World) (g : Nat) (s : Value) (l : List Int) (hB : Bytes w s l) (hg : Has w g 5 (U8 (List.replicate (l.length + 9) 0))) :
    ∃ w', (Builtin.copy_ #[22, 22] ty #[.slice (some ⟨g, 0, none⟩) (l.length + 9) (l.length + 9), s]).run Try.prog w = .ok (goInt l.length) w' ∧ Has w' g 5 (U8 (l ++ List.replicate 9 0)) ∧ Kept [g] w w' := by
  by_cases hl : l = []
  · subst hl
    obtain ⟨p, c, rfl⟩ : ∃ p c, s = .slice p 0 c := by
      rcases hB with ⟨rfl, _⟩ | ⟨x, cap, rfl, _⟩
      · exact ⟨_, _, rfl⟩
      · exact ⟨_, _, rfl⟩
    exact ⟨w, run_copy_none (P := Try.prog) w 22 22 ty 5 _ _ _ _ _ _ Try.underlying22 size5 (by simp), by simpa using hg, Kept.refl _ _⟩
  · rcases hB with ⟨_, h⟩ | ⟨x, cap, rfl, h1, h2, h3⟩
    · exact absurd h hl
    · obtain ⟨b, off, rfl, hb, hc⟩ := h3.resolve_left hl
      have hr := run_copy_row (P := Try.prog) w 22 22 ty 5 g 0 (l.length + 9) (l.length + 9) ⟨b, off, none⟩ l.length cap (U8 (List.replicate (l.length + 9) 0)).toArray 5 (U8 l) Try.underlying22 size5 (by unfold Has at hg; exact hg) (by simp [U8]) (by
          intro j v hj
          have hj' : j < l.length := by
            rcases Nat.lt_or_ge j l.length with h | h
            · exact h
            · rw [List.getElem?_eq_none (by simpa [U8] using h)] at hj; cases hj
          rw [Go.WideShapes.add_plain, hc j hj', ← hj]
          simp [U8, List.getElem?_map, List.getElem?_eq_getElem hj']) (by simp [U8]) (u8_oneCell l)
      have he : ((U8 (List.replicate (l.length + 9) 0)).toArray.toList.take 0 ++ U8 l ++ (U8 (List.replicate (l.length + 9) 0)).toArray.toList.drop (0 + (U8 l).length)).toArray = (U8 (l ++ List.replicate 9 0)).toArray := by
        congr 1
        simp [U8]
      rw [he] at hr
      refine ⟨_, by simpa [U8] using hr, setRow_heap w g (U8 (List.replicate (l.length + 9) 0)).toArray _ 5 _ (by unfold Has at hg; exact hg), rfl, rfl, rfl, by simp, fun k _ hk => setRow_other w g k _ (fun e => hk (by simp [e]))⟩
/-- The byte behind the row, in place i. -/
def tl (i : Int) : Int := (201 + i) % 256
/-- The row with j of the nine bytes behind it written. -/
def tailed (l : List Int) (j : Nat) : List Int := l ++ (List.range j).map (fun i : Nat => tl ((l.length + i : Nat) : Int)) ++ List.replicate (9 - j) 0
def whole (l : List Int) : List Int := tailed l 9
theorem tailed_len (l : List Int) (j : Nat) (hj : j ≤ 9) : (tailed l j).length = l.length + 9 := by simp [tailed]; omega
theorem tailed_zero (l : List Int) : tailed l 0 = l ++ List.replicate 9 0 := by simp [tailed]
def SpRel (W : World) (g : Nat) (l : List Int) (x : Value) (w : World) : Prop :=
  ∃ j ws, ws = w ∧ j ≤ 9 ∧ x = .int .i64 ((l.length + j : Nat) : Int) ∧ Kept [] W w ∧ Has w g 5 (U8 (tailed l j))
theorem tailed_step (l : List Int) (j : Nat) (hj : j < 9) : (U8 (tailed l j)).set (l.length + j) (.int .u8 (tl ((l.length + j : Nat) : Int))) = U8 (tailed l (j + 1)) := by
  have h9 : 9 - j = (9 - (j + 1)) + 1 := by omega
  simp only [tailed, U8, h9, List.replicate_succ, List.map_append, List.map_cons, List.range_succ, List.map_nil]
  rw [List.set_append_right _ _ (by simp)]
  simp
theorem made_u8 (n : Nat) : (madeCells (Value.int .u8 0).cells n).toList = U8 (List.replicate n 0) := by
  apply List.ext_getElem?
  intro i
  rcases Nat.lt_or_ge i n with h | h
  · simp [madeCells, Value.cells, U8, h, Nat.mod_one, List.getElem?_map, List.getElem?_range h]
  · simp [madeCells, Value.cells, U8, h]
theorem run_make9 (n : Nat) (h : n ≤ 1000000) (W : World) : (Instr.makeSlice 22 (.int .i64 ((n : Int) + 9)) (.int .i64 ((n : Int) + 9))).run Try.prog W = .ok (.slice (some ⟨W.heap.size, 0, none⟩) (n + 9) (n + 9)) (W.alloc (.cells (U8 (List.replicate (n + 9) 0)).toArray 5)) := by
  obtain ⟨i0, hi, hz0, hz1, hz2⟩ := info_parts info5
  have := run_make (P := Try.prog) W 22 5 i0 (.int .u8 0) Try.underlying22 hi hz0 .i64 .i64 ((n : Int) + 9) ((n : Int) + 9) (by omega) (by omega) (by rw [hz2]; omega) (by omega)
  have e : ((n : Int) + 9).toNat = n + 9 := by omega
  rw [this, hz1, Nat.mul_one, e, ← made_u8]
/-- What Spare gives. -/
def Spared (w w' : World) (g : Nat) (l : List Int) : Prop := w.heap.size ≤ g ∧ Has w' g 5 (U8 (whole l))
set_option maxRecDepth 100000 in
set_option maxHeartbeats 1600000 in
theorem spare_call (s : Value) (l : List Int) (w : World) (hB : Bytes w s l) (hl : l.length ≤ 1000000) :
    Calls Try.prog 33 #[s] w fun e w' => ∃ g, e = .returned (.tuple #[.slice (some ⟨g, 0, none⟩) l.length (l.length + 9), .slice (some ⟨g, 0, none⟩) (l.length + 9) (l.length + 9)]) ∧ Kept [] w w' ∧ Spared w w' g l := by
  obtain ⟨p, c, hs⟩ : ∃ p c, s = .slice p l.length c := by
    rcases hB with ⟨rfl, rfl⟩ | ⟨x, cap, rfl, _⟩
    · exact ⟨_, _, rfl⟩
    · exact ⟨_, _, rfl⟩
  subst hs
  have hm := run_make9 l.length hl
  have hH := Has.new w 5 (U8 (List.replicate (l.length + 9) 0))
  have k0 := (Kept.refl [] w).alloc (.cells (U8 (List.replicate (l.length + 9) 0)).toArray 5)
  have hB0 := hB.kept k0 (by simp)
  obtain ⟨w1, hcp, h1, k1⟩ := run_copy9 3 _ w.heap.size _ l hB0 hH
  have K1 := k0.fresh k1 (by intro i hi hl; simp at hi; omega)
  have HH := Lib.hid h1
  have KK := Lib.hid K1
  clear hH k0 hB0 h1 k1 K1 hB
  go_enter Try.func33, Try.ntmps33
  go_wp2_with fail
  have hgs := HH.out.lt
  generalize hg0 : w.heap.size = g at *
  have HG := Lib.hid (Nat.le_of_eq hg0)
  clear hg0
  go_loopw [5] (SpRel w g l) (fun i _ => l.length + 9 - (intOf i).toNat)
  case atStart => exact ⟨0, _, rfl, by omega, rfl, KK.out, by rw [tailed_zero]; exact HH.out⟩
  case round =>
    clear KK HH hcp hm
    obtain ⟨j, ws, rfl, hj, rfl, hK, hH⟩ := hrel
    have KK := Lib.hid hK
    have HH := Lib.hid hH
    rcases Nat.lt_or_ge j 9 with hj9 | hj9
    · have hlen : (U8 (tailed l j)).length = l.length + 9 := by simp [U8, tailed_len l j hj]
      have q1 : ∃ v, ws.cell? ⟨g, l.length + j, none⟩ = some v := ⟨_, hH.cell (l.length + j) (List.getElem?_eq_getElem (by omega))⟩
      obtain ⟨v1, q1⟩ := q1
      have z1 := hH.free (l.length + j)
      clear hK hH hlen
      go_wp2_with fail
      go_roundw
      case rel => exact ⟨j + 1, _, rfl, by omega, by go_num, KK.out.fresh ((Kept.refl [g] ws).set ⟨g, l.length + j, none⟩ _ (by simp)) (by intro i hi hl; simp at hi; have := HG.out; have := KK.out.size; omega), by rw [← tailed_step l j hj9, show tl ((l.length + j : Nat) : Int) = (201 + ((l.length : Int) + (j : Int))) % 256 by simp [tl]]; exact HH.out.set _ _⟩
      case measure => simp [intOf]; omega
    · obtain rfl : j = 9 := by omega
      clear hK hH
      go_wp2_with fail
      go_ret2
      exact ⟨g, rfl, KK.out, HG.out, HH.out⟩
theorem own_whole {w : World} {g : Nat} {l : List Int} (h : Has w g 5 (U8 (whole l))) (hl : l.length ≤ 1000000) : Own w g (.slice (some ⟨g, 0, none⟩) l.length (l.length + 9)) l := by
  refine ⟨l.length + 9, _, rfl, h, by omega, by unfold maxLen; omega, by simp [U8, whole, tailed_len l 9 (Nat.le_refl _)], ?_⟩
  simp [whole, tailed, U8, List.take_append]
theorem whole_get (l : List Int) (j : Nat) (hj : j < 9) : (U8 (whole l))[l.length + j]? = some (.int .u8 (tl ((l.length + j : Nat) : Int))) := by
  simp [U8, whole, tailed, List.getElem?_append_right, hj]
end Go.Proofs.Ytcnlomknmhgpbaa.Ap

namespace Go.Proofs.Ytcnlomknmhgpbaa.Ap
open Go Go.RowKit Go.Proofs.Ytcnlomknmhgpbaa.Hp Go.Proofs.Ytcnlomknmhgpbaa.Sl
set_option linter.unusedVariables false
set_option linter.unusedSimpArgs false
def KpRel (w0 : World) (n : Nat) (x : Value) (w : World) : Prop :=
  ∃ (j q : Nat), j ≤ 9 ∧ x = .int .i64 ((n + j : Nat) : Int) ∧ w = w0.drewN q
set_option maxRecDepth 100000 in
set_option maxHeartbeats 1600000 in
theorem kept_call (g : Nat) (s : Value) (l : List Int) (w : World) (hB : Bytes w s l) (hG : Has w g 5 (U8 (whole l))) (hl : l.length ≤ 1000000) :
    Calls Try.prog 34 #[.slice (some ⟨g, 0, none⟩) (l.length + 9) (l.length + 9), s] w fun e w' => e = .returned (.bool true) ∧ Kept [] w w' := by
  obtain ⟨p, c, hs⟩ : ∃ p c, s = .slice p l.length c := by
    rcases hB with ⟨rfl, rfl⟩ | ⟨x, cap, rfl, _⟩
    · exact ⟨_, _, rfl⟩
    · exact ⟨_, _, rfl⟩
  subst hs
  have s1 : ∀ q, (convert 22 9 (.slice (some ⟨g, 0, none⟩) l.length (l.length + 9))).run Try.prog (w.drewN q) = .ok (.string (strOfNums l)) (w.drewN q) := fun q => ((own_whole hG hl).kept ((Kept.refl [] w).drewN q) (by simp)).bytes.str
  have s2 : ∀ q, (convert 22 9 (.slice p l.length c)).run Try.prog (w.drewN q) = .ok (.string (strOfNums l)) (w.drewN q) := fun q => (hB.kept ((Kept.refl [] w).drewN q) (by simp)).str
  have ne : ((strOfNums l).toList != (strOfNums l).toList) = false := by simp
  have nn : ((l.length : Int) + 9 != (l.length : Int) + 9) = false := by simp
  have c1 : l.length ≤ l.length + 9 := by omega
  have c2 : ¬ ((l.length : Int) < 0) := by omega
  have c3 : ¬ ((l.length : Int) + 9 < (l.length : Int)) := by omega
  have c4 : ¬ (((l.length + 9 : Nat) : Int) < (l.length : Int)) := by omega
  have c5 : (l.length : Int) ≤ (l.length : Int) + 9 := by omega
  have c6 : (0 : Int) ≤ (l.length : Int) := by omega
  have wr : IntKind.i64.wrap ((l.length : Int) + 9) = (l.length : Int) + 9 := by rw [IntKind.wrap_i64]; omega
  have nn2 : (((l.length + 9 : Nat) : Int) != (l.length : Int) + 9) = false := by simp
  have HG := Lib.hid hG
  clear hG hB
  go_enter Try.func34, Try.ntmps34
  go_wp2_with fail
  go_quiet (fail)
  go_wp2_with fail
  go_loopw [5] (KpRel w l.length) (fun i _ => l.length + 9 - (intOf i).toNat)
  case atStart => exact ⟨0, _, by omega, rfl, rfl⟩
  case round =>
    clear s1 s2 ne nn nn2
    obtain ⟨j, q, hj, rfl, rfl⟩ := hrel
    rcases Nat.lt_or_ge j 9 with hj9 | hj9
    · have q1 : (w.drewN q).cell? ⟨g, l.length + j, none⟩ = some (.int .u8 (tl ((l.length + j : Nat) : Int))) := (HG.out.drewN q).cell (l.length + j) (whole_get l j hj9)
      have et : tl ((l.length + j : Nat) : Int) = (201 + ((l.length : Int) + (j : Int))) % 256 := by simp [tl]
      rw [et] at q1
      have ne : ((201 + ((l.length : Int) + (j : Int))) % 256 != (201 + ((l.length : Int) + (j : Int))) % 256) = false := by simp
      clear et
      go_wp2_with fail
      go_roundw
      case rel => exact ⟨j + 1, _, by omega, by go_num, rfl⟩
      case measure => simp [intOf]; omega
    · obtain rfl : j = 9 := by omega
      go_wp2_with fail
      go_ret
      exact ⟨rfl, (Kept.refl [] w).drewN q⟩
end Go.Proofs.Ytcnlomknmhgpbaa.Ap

namespace Go.Proofs.Ytcnlomknmhgpbaa.Ap
open Go Go.RowKit Go.Proofs.Ytcnlomknmhgpbaa.Hp Go.Proofs.Ytcnlomknmhgpbaa.Sl
set_option linter.unusedVariables false
set_option linter.unusedSimpArgs false
/-- A row of bytes whose block, if it has one, is at least lo and less than hi. -/
structure LItem where
  v : Value
  l : List Int
  lo : Nat
  hi : Nat
structure LItem.ok (W : World) (p : LItem) : Prop where
  row : Row W p.v p.l
  short : p.l.length ≤ 1000000
  lies : ∀ k, p.v.ownBlock = some k → p.lo ≤ k ∧ k < p.hi
def blocksOf (items : List LItem) : List Nat := items.flatMap (fun p => p.v.ownBlock.toList)
theorem mem_blocksOf {items : List LItem} {x : Nat} (h : x ∈ blocksOf items) : ∃ p, p ∈ items ∧ p.v.ownBlock = some x := by
  obtain ⟨p, hp, hx⟩ := List.mem_flatMap.1 h
  exact ⟨p, hp, by simpa using hx⟩
theorem lists_of {W : World} {a : Nat} (items : List LItem) (few : items.length ≤ 100) (hh : Has W a 22 (items.map (·.v))) (hrow : ∀ p, p ∈ items → p.ok W) (hpw : items.Pairwise (fun p q => p.hi ≤ q.lo ∨ q.hi ≤ p.lo)) :
    Lists W a (items.map (·.v)) (fun i => (items[i]?.map (·.l.length)).getD 0) (blocksOf items) := by
  have hat : ∀ i (hi : i < items.length), at_ (items.map (·.v)) i = (items[i]).v := by
    intro i hi
    simp [at_, List.getD_eq_getElem?_getD, List.getElem?_map, List.getElem?_eq_getElem hi]
  refine ⟨by simpa using few, hh, fun i => ?_, fun i hi => ?_, fun i j k hi hj hij h1 h2 => ?_, fun i k hi h1 => ?_⟩
  · rcases Nat.lt_or_ge i items.length with h | h
    · rw [List.getElem?_eq_getElem h]; exact (hrow _ (List.getElem_mem h)).short
    · rw [List.getElem?_eq_none h]; simp
  · rw [List.length_map] at hi
    rw [hat i hi]
    exact ⟨(items[i]).l, by simp [List.getElem?_eq_getElem hi], (hrow _ (List.getElem_mem hi)).row⟩
  · rw [List.length_map] at hi hj
    rw [hat i hi] at h1
    rw [hat j hj] at h2
    have a1 := (hrow _ (List.getElem_mem hi)).lies k h1
    have a2 := (hrow _ (List.getElem_mem hj)).lies k h2
    rcases Nat.lt_or_gt_of_ne hij with h | h
    · have := List.pairwise_iff_getElem.1 hpw i j hi hj h; omega
    · have := List.pairwise_iff_getElem.1 hpw j i hj hi h; omega
  · rw [List.length_map] at hi
    rw [hat i hi] at h1
    exact List.mem_flatMap.2 ⟨_, List.getElem_mem hi, by rw [h1]; simp⟩
theorem apart_items (W : World) (a : Nat) (items : List LItem) (few : items.length ≤ 100) (hh : Has W a 22 (items.map (·.v))) (hrow : ∀ p, p ∈ items → p.ok W) (hpw : items.Pairwise (fun p q => p.hi ≤ q.lo ∨ q.hi ≤ p.lo)) :
    Calls Try.prog 35 #[.slice (some ⟨a, 0, none⟩) items.length items.length] W fun e w' => e = .returned (.bool true) ∧ Kept (blocksOf items) W w' := by
  have := apart_call W a _ _ _ (lists_of items few hh hrow hpw)
  rw [List.length_map] at this
  exact this
theorem LItem.ok.kept {W w : World} {p : LItem} (h : p.ok W) (k : Kept [] W w) : p.ok w := ⟨h.row.kept k (by simp), h.short, h.lies⟩
end Go.Proofs.Ytcnlomknmhgpbaa.Ap

namespace Go.Proofs.Ytcnlomknmhgpbaa.Ap
open Go Go.RowKit Go.Proofs.Ytcnlomknmhgpbaa.Hp Go.Proofs.Ytcnlomknmhgpbaa.Sl Go.Proofs.Ytcnlomknmhgpbaa.Br
theorem ok_of_made {w w' : World} {v : Value} {l : List Int} (h : Made w w' v l) (hl : l.length ≤ 1000000) : LItem.ok w' ⟨v, l, w.heap.size, w'.heap.size⟩ := ⟨h.1, hl, fun k hk => ⟨h.2 k hk, h.1.lt hk⟩⟩
theorem ok_of_spare {w : World} {g : Nat} {l : List Int} (h : Has w g 5 (U8 (whole l))) (hl : l.length ≤ 1000000) : LItem.ok w ⟨.slice (some ⟨g, 0, none⟩) l.length (l.length + 9), l, g, g + 1⟩ :=
  ⟨.inr ⟨g, own_whole h hl⟩, hl, fun k hk => by have e : g = k := Option.some.inj hk; subst e; exact ⟨Nat.le_refl _, Nat.lt_succ_self _⟩⟩
theorem LItem.ok.low {W : World} {items : List LItem} (h : ∀ p, p ∈ items → p.ok W) {B : Nat} (hB : ∀ p, p ∈ items → B ≤ p.lo) {x : Nat} (hx : x ∈ blocksOf items) : B ≤ x := by
  obtain ⟨p, hp, he⟩ := mem_blocksOf hx
  have := (h p hp).lies x he
  have := hB p hp
  omega
end Go.Proofs.Ytcnlomknmhgpbaa.Ap
