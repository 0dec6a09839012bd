/- Slices of bytes: what one reads as; rows of the call's own; slices.Clone. -/
import Derived.Test.YtcnlomknmhgpbaaProg
import Derived.Test.YtcnlomknmhgpbaaHp
import Derived.Test.YtcnlomknmhgpbaaFit
import Derived.WalkKit
import Derived.OwnWalk
import Derived.Laws.AppendOwn
import Derived.Laws.BytesArg
import Derived.Laws.AppendOwnNone
import Derived.Laws.MakeOwn
import Derived.Lib.SliceRun
import Derived.WalkSpells
import Derived.KernelRfl
import Derived.Lib.Hide
namespace Go.Proofs.Ytcnlomknmhgpbaa.Sl
open Go Go.RowKit Go.Proofs.Ytcnlomknmhgpbaa.Hp
set_option linter.unusedVariables false
set_option linter.unusedSimpArgs false
def U8 (l : List Int) : List Value := l.map (Value.int .u8)
/-- A slice of bytes that reads as l. -/
def Bytes (w : World) (v : Value) (l : List Int) : Prop :=
  (v = .slice none 0 0 ∧ l = []) ∨ ∃ (x : Addr) (cap : Nat), v = .slice (some x) l.length cap ∧ l.length ≤ cap ∧ cap ≤ maxLen ∧ (l = [] ∨ ∃ b off, x = ⟨b, off, none⟩ ∧ b < w.heap.size ∧ ∀ i, i < l.length → w.cell? ⟨b, off + i, none⟩ = some (.int .u8 (l.getD i 0)))
/-- A row of block g, of the program's own, whose head reads as l. -/
def Own (w : World) (g : Nat) (v : Value) (l : List Int) : Prop :=
  ∃ (cap : Nat) (cur : List Value), v = .slice (some ⟨g, 0, none⟩) l.length cap ∧ Has w g 5 cur ∧ l.length ≤ cap ∧ cap ≤ maxLen ∧ cur.length = cap ∧ cur.take l.length = U8 l
theorem Own.lt {w : World} {g : Nat} {v : Value} {l : List Int} (h : Own w g v l) : g < w.heap.size := by obtain ⟨_, _, _, h, _⟩ := h; exact h.lt
theorem Own.kept {w w' : World} {g : Nat} {v : Value} {l : List Int} {S : List Nat} (h : Own w g v l) (k : Kept S w w') (hg : g ∉ S) : Own w' g v l := by
  obtain ⟨cap, cur, e, h, r⟩ := h; exact ⟨cap, cur, e, k.has h hg, r⟩
theorem Own.bytes {w : World} {g : Nat} {v : Value} {l : List Int} (h : Own w g v l) : Bytes w v l := by
  obtain ⟨cap, cur, e, h, h1, h2, h3, h4⟩ := h
  refine .inr ⟨⟨g, 0, none⟩, cap, e, h1, h2, .inr ⟨g, 0, rfl, h.lt, fun i hi => ?_⟩⟩
  rw [Nat.zero_add]
  refine h.cell i ?_
  have : (cur.take l.length)[i]? = (U8 l)[i]? := by rw [h4]
  rw [List.getElem?_take_of_lt hi] at this
  rw [this]
  simp [U8, List.getElem?_map, List.getElem?_eq_getElem hi]
theorem Bytes.kept {w w' : World} {v : Value} {l : List Int} {S : List Nat} (h : Bytes w v l) (k : Kept S w w') (hs : ∀ b off n c, v = .slice (some ⟨b, off, none⟩) n c → l ≠ [] → b ∉ S) : Bytes w' v l := by
  rcases h with h | ⟨x, cap, e, h1, h2, h3⟩
  · exact .inl h
  · refine .inr ⟨x, cap, e, h1, h2, ?_⟩
    rcases h3 with h3 | ⟨b, off, rfl, h3, h4⟩
    · exact .inl h3
    · by_cases hl : l = []
      · exact .inl hl
      · refine .inr ⟨b, off, rfl, Nat.lt_of_lt_of_le h3 k.size, fun i hi => ?_⟩
        rw [k.cell h3 (hs _ _ _ _ e hl)]
        exact h4 i hi
/-- The cells of what reads as l. -/
theorem Bytes.cells {w : World} {x : Addr} {l : List Int} (h3 : l = [] ∨ ∃ b off, x = ⟨b, off, none⟩ ∧ b < w.heap.size ∧ ∀ i, i < l.length → w.cell? ⟨b, off + i, none⟩ = some (.int .u8 (l.getD i 0))) (o : Obj) :
    ∀ j u, (U8 l)[j]? = some u → (w.alloc o).cell? (Addr.add x j) = some u := by
  intro j u hu
  have hj : j < l.length := by
    rcases Nat.lt_or_ge j l.length with h | h
    · exact h
    · rw [List.getElem?_eq_none (by simpa [U8] using h)] at hu; cases hu
  rcases h3 with rfl | ⟨b, off, rfl, hb, h4⟩
  · simp at hj
  rw [Go.WideShapes.add_plain, World.cell?_alloc_lt _ _ _ hb, h4 j hj, ← hu]
  simp [U8, List.getElem?_map, List.getElem?_eq_getElem hj]
theorem own_of_row {w : World} {B g0 : Nat} {v : Value} {l : List Int} (h : w.ownsRow B 5 1 v l.length (U8 l)) (hn : v ≠ .slice none 0 0) : ∃ g, B ≤ g ∧ Own w g v l := by
  obtain ⟨_, h | ⟨g, cap, cur, e, hb, hh, h1, h2, h3, h4⟩⟩ := h
  · exact absurd h.1 hn
  · refine ⟨g, hb, cap, cur.toList, e, ?_, h1, h2, by simpa using h3, by simpa using h4⟩
    unfold Has; rw [hh]
theorem kept_of_grown {w w' : World} {r : Option Nat} {S : List Nat} (h : w.grownBy w' r) (hr : ∀ k, r = some k → k ∈ S) : Kept S w w' :=
  ⟨h.os, h.tape, h.output, h.size, fun k hk hn => h.block k hk (fun e => hn (hr k e.symm))⟩
theorem u8_oneCell (l : List Int) : ∀ u ∈ U8 l, u.oneCell' = true := by
  intro u hu; obtain ⟨n, _, rfl⟩ := List.mem_map.1 hu; rfl
theorem info5 : (Try.prog.info? 5).map (fun i => (i.zero, i.size, i.bytes)) = some (some (.int .u8 0), 1, 1) := by kernel_rfl
/-- What a clone is. -/
def Cloned (w : World) (s : Value) (l : List Int) (v : Value) (w' : World) : Prop :=
  (s = .slice none 0 0 ∧ v = .slice none 0 0) ∨ (s ≠ .slice none 0 0 ∧ ∃ g, w.heap.size ≤ g ∧ Own w' g v l)
set_option maxRecDepth 100000 in
theorem clone_call (s : Value) (l : List Int) (w : World) (h : Bytes w s l) (hl : l.length ≤ 140737488351232) :
    Calls Try.prog 37 #[s] w fun e w' => ∃ v, e = .returned v ∧ Kept [] w w' ∧ Cloned w s l v w' := by
  rcases h with ⟨rfl, rfl⟩ | ⟨x, cap, rfl, h1, h2, h3⟩
  · have hnil : ∀ W : World, (binOp .eql 22 (.slice none 0 0) (.slice none 0 0)).run Try.prog W = .ok (.bool true) W := fun W => Lib.run_eql_slice_nil W 22 _ none 0 0 0 0 Try.underlying22
    go_enter Try.func37, Try.ntmps37
    go_wp2
    go_ret
    exact ⟨_, rfl, Kept.refl _ _, .inl ⟨rfl, rfl⟩⟩
  · have hnil : ∀ W : World, (binOp .eql 22 (.slice (some x) l.length cap) (.slice none 0 0)).run Try.prog W = .ok (.bool false) W := fun W => Lib.run_eql_slice_nil W 22 _ (some x) l.length cap 0 0 Try.underlying22
    obtain ⟨i0, hi, hz0, hz1, hz2⟩ := info_parts info5
    have hH := Has.new w 5 []
    go_enter Try.func37, Try.ntmps37
    have hown : (w.alloc (.cells #[] 5)).ownsRow w.heap.size 5 1 (.slice (some ⟨w.heap.size, 0, none⟩) 0 0) 0 [] := by
      refine ⟨rfl, .inr ⟨w.heap.size, 0, #[], rfl, Nat.le_refl _, ?_, Nat.le_refl _, by simp, rfl, rfl⟩⟩
      simpa [Has] using hH
    have hk := (Kept.refl [w.heap.size] w).alloc (.cells #[] 5)
    have hc := Bytes.cells h3 (.cells #[] 5)
    have C := Lib.hid hc
    have K := Lib.hid hk
    clear hc hk h3 hH
    go_wp2_with (at_builtin; refine wpList_append_own _ rfl _ _ 22 rfl w.heap.size 5 i0 (.int .u8 0) 1 1 Try.underlying22 hi hz0 hz1 hz2 rfl (by decide) _ _ _ rfl hown x l.length cap (U8 l) rfl ?c0 ?c1 ?c2 ?c3 ?c4 ?c5 ?_)
    case c0 => simp [U8]
    case c1 => exact C.out
    case c2 => exact u8_oneCell l
    case c3 => unfold maxLen; omega
    case c4 => omega
    case c5 => simp
    intro v' w' hown' hgrow hiff
    have hg := Lib.hid hgrow
    have ho := Lib.hid hown'
    have hi' := Lib.hid hiff
    clear hown hgrow hown' hiff
    go_wp2
    go_ret
    refine ⟨_, rfl, (K.out.trans (kept_of_grown hg.out (by intro k hk; simp [Value.ownBlock] at hk; simp [hk]))).shed (by simp), .inr ⟨by simp, ?_⟩⟩
    have h9 : w'.ownsRow w.heap.size 5 1 v' l.length (U8 l) := by simpa using ho.out
    exact own_of_row (g0 := 0) h9 (fun e => hi'.out e)
/-- 'append([]byte{}, s...)'. -/
theorem run_app (ty : TypeId) (W : World) (src : Value) (l : List Int) (hB : Bytes W src l) (hl : l.length ≤ 140737488351232) :
    ∃ v' w', (Builtin.append_ #[22, 22] ty #[.slice (some ⟨W.heap.size, 0, none⟩) 0 0, src]).run Try.prog (W.alloc (.cells #[] 5)) = .ok v' w' ∧ Kept [] W w' ∧ ∃ g, W.heap.size ≤ g ∧ Own w' g v' l := by
  obtain ⟨i0, hi, hz0, hz1, hz2⟩ := info_parts info5
  have hH := Has.new W 5 []
  have hown : (W.alloc (.cells #[] 5)).ownsRow W.heap.size 5 1 (.slice (some ⟨W.heap.size, 0, none⟩) 0 0) 0 [] := by
    refine ⟨rfl, .inr ⟨W.heap.size, 0, #[], rfl, Nat.le_refl _, ?_, Nat.le_refl _, by simp, rfl, rfl⟩⟩
    simpa [Has] using hH
  have hk := (Kept.refl [W.heap.size] W).alloc (.cells #[] 5)
  rcases hB with ⟨rfl, rfl⟩ | ⟨x, cap, rfl, h1, h2, h3⟩
  · have hr := run_append_owned_none (P := Try.prog) (w := W.alloc (.cells #[] 5)) W.heap.size 22 ty 5 i0 1 Try.underlying22 hi _ _ _ hown
    exact ⟨_, _, hr, (Kept.refl [] W).alloc _, W.heap.size, Nat.le_refl _, 0, [], rfl, hH, Nat.le_refl _, by simp, rfl, rfl⟩
  · obtain ⟨v', w', hr, hown', hgrow, hiff⟩ := run_append_own (P := Try.prog) (W.alloc (.cells #[] 5)) W.heap.size 22 ty 5 i0 (.int .u8 0) 1 1 Try.underlying22 hi hz0 hz1 hz2 rfl (by decide) _ _ _ hown x l.length cap (U8 l) (by simp [U8]) (Bytes.cells h3 _) (u8_oneCell l) (by unfold maxLen; omega) (by omega) (by simp)
    have h9 : w'.ownsRow W.heap.size 5 1 v' l.length (U8 l) := by simpa using hown'
    refine ⟨v', w', hr, (hk.trans (kept_of_grown hgrow (by intro k hk; simp [Value.ownBlock] at hk; simp [hk]))).shed (by simp), own_of_row (g0 := 0) h9 (fun e => ?_)⟩
    have := (hiff.1 e).1; cases this
theorem wpList_app {ops : Array Oper} {rest : List Oper} {o : Oper} {a : Act} {Q : Exit → Act → World → Prop} (hgd : Region.wanted o (yielded ops a.tmps) = true) (s x : Operand)
    (ho : o.op = .call { callee := .builtin .append, args := #[s, x], argTypes := #[22, 22] }) (W : World) (src : Value) (l : List Int) (k0 : Nat) (hk0 : W.heap.size = k0)
    (hs : a.eval s = .slice (some ⟨k0, 0, none⟩) 0 0) (hx : a.eval x = src) (hB : Bytes W src l) (hl : l.length ≤ 140737488351232)
    (h : ∀ v' w', Kept [] W w' → (∃ g, W.heap.size ≤ g ∧ Own w' g v' l) → wpList Try.prog ops Q rest (a.put o.dst v') w') : wpList Try.prog ops Q (o :: rest) a (W.alloc (.cells #[] 5)) := by
  subst hk0
  obtain ⟨v', w', hr, k, ho'⟩ := run_app o.type W src l hB hl
  refine wpList_step fun K hK => ?_
  rw [if_pos hgd]
  unfold Oper.wp execOp
  simp only [ho, resolve, invoke, builtin, Sem.run_bind, Sem.run_pure, Result.andThen_ok, List.map_toArray, List.map_cons, List.map_nil, hs, hx, hr]
  exact hK _ _ (h v' w' k ho')
/-- 'string(s)'. -/
theorem Bytes.str {w : World} {v : Value} {l : List Int} (h : Bytes w v l) : (convert 22 9 v).run Try.prog w = .ok (.string (strOfNums l)) w := by
  rcases h with ⟨rfl, rfl⟩ | ⟨x, cap, rfl, h1, h2, h3⟩
  · exact run_convert_bytes_nil w 22 5 Try.underlying22 Try.underlying5 0 0 9 Try.underlying9
  · rcases h3 with rfl | ⟨b, off, rfl, h3, h4⟩
    · have := run_bytesToString (P := Try.prog) w x 0 cap [] (by simp [loadCells, loadCellsFrom, Sem.run_pure])
      rw [List.length_nil, run_convert_bytes_string w 22 9 5 (some x) 0 cap Try.underlying22 Try.underlying5 Try.underlying9, this]
      rfl
    · exact run_convert_bytes_arg w 22 5 Try.underlying22 Try.underlying5 b off l.length cap l rfl h4 9 Try.underlying9
/-- A row from its places. -/
theorem row_of (n : Nat) (p : Nat → Int → Prop) (h : ∀ i, i < n → ∃ x, p i x) : ∃ l : List Int, l.length = n ∧ ∀ i, i < n → p i (l.getD i 0) := by
  induction n with
  | zero => exact ⟨[], rfl, by simp⟩
  | succ n ih =>
    obtain ⟨l, hl, hp⟩ := ih (fun i hi => h i (by omega))
    obtain ⟨x, hx⟩ := h n (by omega)
    refine ⟨l ++ [x], by simp [hl], fun i hi => ?_⟩
    rcases Nat.lt_or_ge i n with hn | hn
    · have := hp i hn
      rw [List.getD_eq_getElem?_getD] at this ⊢
      rw [List.getElem?_append_left (by omega)]
      exact this
    · obtain rfl : i = n := by omega
      rw [List.getD_eq_getElem?_getD, List.getElem?_append_right (by omega)]
      simpa [hl] using hx
/-- A slice of bytes that came in. -/
theorem bytes_of_fits {w : World} {n : Nat} {a : Option Addr} {len cap : Nat} (h : Go.Proofs.Ytcnlomknmhgpbaa.Fit.Fits Try.prog w n 22 [.slice a len cap]) :
    ∃ l : List Int, len = l.length ∧ Bytes w (.slice a len cap) l ∧ l.length ≤ reachBytes ∧ ∀ i, i < l.length → (Lit.int .u8 (l.getD i 0)).wf = true := by
  obtain ⟨h1, h2, h3, h4, h5⟩ := Go.Proofs.Ytcnlomknmhgpbaa.Fit.fits_elems Try.underlying22 h 1 1 (by kernel_rfl) (by kernel_rfl) (by decide)
  rcases h5 with rfl | ⟨b, off, rfl, hb, h6⟩
  · refine ⟨[], rfl, ?_, by simp, by simp⟩
    cases n with
    | zero => exact h.elim
    | succ n =>
      have hu := Try.underlying22
      unfold Go.Proofs.Ytcnlomknmhgpbaa.Fit.Fits at h
      generalize Try.prog.underlying 22 = u at h hu
      subst hu
      obtain ⟨a', len', cap', heq, _, _, _, h7⟩ := h
      obtain ⟨rfl, rfl, rfl⟩ : a = a' ∧ 0 = len' ∧ cap = cap' := by simpa using heq
      rcases h7 with ⟨rfl, _, rfl⟩ | ⟨x, rfl, _⟩
      · exact .inl ⟨rfl, rfl⟩
      · exact .inr ⟨x, cap, rfl, h3, h4, .inl rfl⟩
  · obtain ⟨l, hl, hp⟩ := row_of len (fun i x => w.cell? ⟨b, off + i, none⟩ = some (.int .u8 x) ∧ (Lit.int .u8 x).wf = true) (by
      intro i hi
      obtain ⟨m, cs, hcs, hc, hf⟩ := h6 i hi
      obtain ⟨x, rfl, hw⟩ := Go.Proofs.Ytcnlomknmhgpbaa.Fit.fits_int Try.underlying5 hf
      have := hc 0 (by decide)
      rw [Nat.mul_one, Nat.add_zero] at this
      exact ⟨x, by rw [this]; rfl, hw⟩)
    subst hl
    refine ⟨l, rfl, .inr ⟨_, cap, rfl, h3, h4, .inr ⟨b, off, rfl, hb, fun i hi => (hp i hi).1⟩⟩, by omega, fun i hi => (hp i hi).2⟩
end Go.Proofs.Ytcnlomknmhgpbaa.Sl
