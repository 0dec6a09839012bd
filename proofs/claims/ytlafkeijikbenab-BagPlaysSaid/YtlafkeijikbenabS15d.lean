/- Layer 15: BagPlays. -/
import Derived.Test.YtlafkeijikbenabS15a
import Derived.Deep.QuietTactic
namespace Go.Proofs.Ytlafkeijikbenab.S15
open Go Go.RowKit Go.Proofs.Ytlafkeijikbenab.Hp Go.Proofs.Ytlafkeijikbenab.Sl Go.Proofs.Ytlafkeijikbenab.Ap Go.Proofs.Ytlafkeijikbenab.Br Go.Proofs.Ytlafkeijikbenab.BrG Go.Proofs.Ytlafkeijikbenab.BagC Go.Proofs.Ytlafkeijikbenab.Fit
set_option linter.unusedVariables false
set_option linter.unusedSimpArgs false
/-- What Put answers, and leaves. -/
def putN (fs : List (List Int)) (l : List Int) : Int := if 27 < l.length then 0 else if 4096 ≤ fs.length then 0 else (fs.length : Nat)
def putE (fs : List (List Int)) (l : List Int) : Int := if 27 < l.length then 41 else if 4096 ≤ fs.length then 150 else 0
def putF (fs : List (List Int)) (l : List Int) : List (List Int) := if 27 < l.length then fs else if 4096 ≤ fs.length then fs else fs ++ [l]
theorem put_all (b m : Nat) (la : Option Nat) (fs : List (List Int)) (s : Value) (l : List Int) (w : World) (h : IsBag w b m la fs) (hs : Bytes w s l) :
    Calls Try.prog 32 #[.pointer (some ⟨b, 0, none⟩), s] w fun e w' => e = .returned (.tuple #[.int .i64 (putN fs l), .int .i64 (putE fs l)]) ∧ Kept (b :: m :: la.toList) w w' ∧ ∃ la', (la' = la ∨ ∃ g, la' = some g ∧ w.heap.size ≤ g) ∧ IsBag w' b m la' (putF fs l) := by
  by_cases h1 : 27 < l.length
  · simp only [putN, putE, putF, if_pos h1]
    refine (put_long b s l w hs h1).mono ?_
    rintro e w' ⟨rfl, k⟩
    exact ⟨rfl, k.mono (by simp), la, .inl rfl, IsBag.fresh h k⟩
  by_cases h2 : 4096 ≤ fs.length
  · simp only [putN, putE, putF, if_neg h1, if_pos h2]
    refine (put_full b m la fs s l w h hs (by omega) h2).mono ?_
    rintro e w' ⟨rfl, k⟩
    exact ⟨rfl, k.mono (by simp), la, .inl rfl, IsBag.fresh h k⟩
  · simp only [putN, putE, putF, if_neg h1, if_neg h2]
    exact put_call b m la fs s l w h hs (by omega) (by omega)
theorem IsRef.fresh {w w' : World} {c : Nat} {lr : Option Nat} {fs : List (List Int)} (h : IsRef w c lr fs) (k : Kept [] w w') : IsRef w' c lr fs := IsRef.kept h k (by simp)
theorem rput_all (c : Nat) (lr : Option Nat) (fs : List (List Int)) (s : Value) (l : List Int) (w : World) (h : IsRef w c lr fs) (hs : Bytes w s l) :
    Calls Try.prog 36 #[.pointer (some ⟨c, 0, none⟩), s] w fun e w' => e = .returned (.tuple #[.int .i64 (putN fs l), .int .i64 (putE fs l)]) ∧ Kept (c :: lr.toList) w w' ∧ ∃ la', (la' = lr ∨ ∃ g, la' = some g ∧ w.heap.size ≤ g) ∧ IsRef w' c la' (putF fs l) := by
  by_cases h1 : 27 < l.length
  · simp only [putN, putE, putF, if_pos h1]
    refine (rput_long c s l w hs h1).mono ?_
    rintro e w' ⟨rfl, k⟩
    exact ⟨rfl, k.mono (by simp), lr, .inl rfl, IsRef.fresh h k⟩
  by_cases h2 : 4096 ≤ fs.length
  · simp only [putN, putE, putF, if_neg h1, if_pos h2]
    refine (rput_full c lr fs s l w h hs (by omega) h2).mono ?_
    rintro e w' ⟨rfl, k⟩
    exact ⟨rfl, k.mono (by simp), lr, .inl rfl, IsRef.fresh h k⟩
  · simp only [putN, putE, putF, if_neg h1, if_neg h2]
    exact rput_call c lr fs s l w h hs (by omega) (by omega)
/-- Both bags, of the run's own. -/
structure Two (W w : World) (b m c : Nat) (la lr : Option Nat) (fs gs : List (List Int)) : Prop where
  bag : IsBag w b m la fs
  ref : IsRef w c lr gs
  kept : Kept [] W w
  own : W.heap.size ≤ b ∧ W.heap.size ≤ m ∧ W.heap.size ≤ c
  lah : ∀ g, la = some g → W.heap.size ≤ g
  lrh : ∀ g, lr = some g → W.heap.size ≤ g
  ne : ∀ g, la = some g → lr ≠ some g
theorem Two.fresh {W w w' : World} {b m c : Nat} {la lr : Option Nat} {fs gs : List (List Int)} (h : Two W w b m c la lr fs gs) (k : Kept [] w w') : Two W w' b m c la lr fs gs :=
  ⟨IsBag.fresh h.bag k, IsRef.fresh h.ref k, h.kept.trans k, h.own, h.lah, h.lrh, h.ne⟩
theorem Two.putB {W w w' : World} {b m c : Nat} {la lr la' : Option Nat} {fs gs fs' : List (List Int)} (h : Two W w b m c la lr fs gs) (k : Kept (b :: m :: la.toList) w w') (hla : la' = la ∨ ∃ g, la' = some g ∧ w.heap.size ≤ g) (hb : IsBag w' b m la' fs') : Two W w' b m c la' lr fs' gs := by
  refine ⟨hb, IsRef.kept h.ref k ?_, h.kept.fresh k ?_, h.own, ?_, h.lrh, ?_⟩
  · obtain ⟨v, mm, q1, q2, q3, _⟩ := h.bag
    obtain ⟨v', r1, r3, _⟩ := h.ref
    intro x hx hl
    simp at hx
    rcases hx with rfl | rfl | hx
    · exact ⟨⟨_, _, q1, by decide, by decide⟩, fun e => by obtain ⟨cs, q⟩ := Held.ty r3 e; exact Has.neq q q1 (by decide) rfl⟩
    · exact ⟨⟨_, _, q2, by decide, by decide⟩, fun e => by obtain ⟨cs, q⟩ := Held.ty r3 e; exact Has.neq q q2 (by decide) rfl⟩
    · obtain ⟨cs, q⟩ := Held.ty q3 hx
      exact ⟨⟨_, _, q, by decide, by decide⟩, h.ne x hx⟩
  · intro i hi hl
    have := h.own
    simp at hi
    rcases hi with rfl | rfl | hi
    · omega
    · omega
    · have := h.lah i hi; omega
  · intro g hg
    rcases hla with e | ⟨g', e, hg'⟩
    · exact h.lah g (e ▸ hg)
    · rw [e] at hg; cases hg; exact Nat.le_trans h.kept.size hg'
  · intro g hg hr
    rcases hla with e | ⟨g', e, hg'⟩
    · exact h.ne g (e ▸ hg) hr
    · rw [e] at hg; cases hg
      obtain ⟨v', r1, r3, _⟩ := h.ref
      obtain ⟨cs, q⟩ := Held.ty r3 hr
      have := q.lt; omega
theorem Two.putR {W w w' : World} {b m c : Nat} {la lr lr' : Option Nat} {fs gs gs' : List (List Int)} (h : Two W w b m c la lr fs gs) (k : Kept (c :: lr.toList) w w') (hla : lr' = lr ∨ ∃ g, lr' = some g ∧ w.heap.size ≤ g) (hb : IsRef w' c lr' gs') : Two W w' b m c la lr' fs gs' := by
  refine ⟨IsBag.kept h.bag k ?_, hb, h.kept.fresh k ?_, h.own, h.lah, ?_, ?_⟩
  · obtain ⟨v, mm, q1, q2, q3, _⟩ := h.bag
    obtain ⟨v', r1, r3, _⟩ := h.ref
    intro x hx hl
    simp at hx
    rcases hx with rfl | hx
    · exact ⟨⟨_, _, r1, by decide, by decide, by decide⟩, fun e => by obtain ⟨cs, q⟩ := Held.ty q3 e; exact Has.neq q r1 (by decide) rfl⟩
    · obtain ⟨cs, q⟩ := Held.ty r3 hx
      exact ⟨⟨_, _, q, by decide, by decide, by decide⟩, fun e => h.ne x e hx⟩
  · intro i hi hl
    have := h.own
    simp at hi
    rcases hi with rfl | hi
    · omega
    · have := h.lrh i hi; omega
  · intro g hg
    rcases hla with e | ⟨g', e, hg'⟩
    · exact h.lrh g (e ▸ hg)
    · rw [e] at hg; cases hg; exact Nat.le_trans h.kept.size hg'
  · intro g hg hr
    rcases hla with e | ⟨g', e, hg'⟩
    · exact h.ne g hg (e ▸ hr)
    · rw [e] at hr; cases hr
      obtain ⟨v, mm, q1, q2, q3, _⟩ := h.bag
      obtain ⟨cs, q⟩ := Held.ty q3 hg
      have := q.lt; omega
/-- One call of a script. -/
structure OpAt (W : World) (b off i : Nat) (k n a x : Int) (s : Value) (l : List Int) : Prop where
  block : b < W.heap.size
  cells : ∀ j, j < 5 → W.cell? ⟨b, off + i * 5 + j, none⟩ = [Value.int .i64 k, .int .i64 n, .int .i64 a, .int .u32 x, s][j]?
  bytes : Bytes W s l
  len : l.length ≤ reachBytes
  word : (Lit.int .u32 x).wf = true
theorem op_at {W : World} {n : Nat} {x : Option Addr} {len cap : Nat} (hf : Fits Try.prog W n 64 [.slice x len cap]) :
    len ≤ maxLen ∧ (len = 0 ∨ ∃ b off, x = some ⟨b, off, none⟩ ∧ ∀ i, i < len → ∃ k n a c s l, OpAt W b off i k n a c s l) := by
  obtain ⟨_, hm, _, _, hp⟩ := fits_elems Try.underlying64 hf 5 56 (by kernel_rfl) (by kernel_rfl) (by decide)
  refine ⟨hm, ?_⟩
  rcases hp with h | ⟨b, off, rfl, hb, hel⟩
  · exact .inl h
  · refine .inr ⟨b, off, rfl, fun i hi => ?_⟩
    obtain ⟨m, cs, hcl, hcc, hfit⟩ := hel i hi
    obtain ⟨k, n, a, c, p, l0, c0, rfl, _, _, _, hw, m2, hf2⟩ := op15_cells hfit
    obtain ⟨l, rfl, hb2, hl, _⟩ := bytes_of_fits hf2
    exact ⟨k, n, a, c, _, l, hb, hcc, hb2, hl, hw⟩
theorem OpAt.cell {W w : World} {b off i : Nat} {k n a x : Int} {s : Value} {l : List Int} (h : OpAt W b off i k n a x s l) (K : Kept [] W w) (j : Nat) (hj : j < 5) :
    w.cell? ⟨b, off + i * 5 + j, none⟩ = [Value.int .i64 k, .int .i64 n, .int .i64 a, .int .u32 x, s][j]? := by
  rw [K.cell h.block (by simp), h.cells j hj]
def PlRel (W : World) (b m c len : Nat) (i : Value) (w : World) : Prop :=
  ∃ (k : Nat) (la lr : Option Nat) (fs : List (List Int)), k ≤ len ∧ k ≤ 5000 ∧ i = .int .i64 k ∧ Two W w b m c la lr fs fs
theorem same1 {P : Program} {f : FuncId} {args : Array Value} {w : World} {v : Value} (h : Calls P f args w fun e w' => e = .returned v ∧ w = w') : Calls P f args w fun e w' => e = .returned v ∧ w' = w :=
  h.mono (fun _ _ ⟨a, b⟩ => ⟨a, b.symm⟩)
set_option maxRecDepth 100000 in
set_option maxHeartbeats 6400000 in
theorem BagPlays_law (x : Option Addr) (len cap : Nat) (w : World) (hf : ∃ n, Fits Try.prog w n 64 [.slice x len cap]) :
    Calls Try.prog 10 #[.slice x len cap] w fun e w' => e = .returned (.bool true) ∧ Below w.heap.size w w' := by
  obtain ⟨n0, hf⟩ := hf
  obtain ⟨hm, hp⟩ := op_at hf
  unfold maxLen at hm
  have P' := Lib.hid hp
  clear hp hf
  go_enter Try.func10, Try.ntmps10
  go_wp2_with fail
  refine (awake_call _).mono ?_
  rintro e w0 ⟨rfl, k0⟩
  go_wp2_with fail
  refine (BagC.new_call _).mono ?_
  rintro e w1 ⟨b, m, rfl, k1, h1, sb, sm⟩
  have k2 := (Kept.refl [] w1).alloc (.cells #[.slice none 0 0] 67)
  have hR : IsRef (w1.alloc (.cells #[.slice none 0 0] 67)) w1.heap.size none [] := ⟨_, Has.new w1 _ _, ⟨[], .inl ⟨rfl, rfl, rfl⟩, rfl, by simp⟩, ⟨by simp, by simp⟩⟩
  have hT : Two w (w1.alloc (.cells #[.slice none 0 0] 67)) b m w1.heap.size none none [] [] :=
    ⟨IsBag.fresh h1 k2, hR, (k0.trans k1).trans k2, by have := k0.size; have := k1.size; omega, by simp, by simp, by simp⟩
  have T := Lib.hid hT
  clear hT hR k2 h1 k0 k1 sb sm
  go_wp2_with fail
  generalize w1.alloc (.cells #[.slice none 0 0] 67) = w2 at *
  generalize w1.heap.size = c at *
  go_loopw [5] (PlRel w b m c len) (fun i _ => len - (intOf i).toNat)
  case atStart => exact ⟨0, none, none, [], Nat.zero_le _, by omega, rfl, T.out⟩
  case round =>
    clear T
    obtain ⟨k, la, lr, fs, hk, hk5, rfl, hT⟩ := hrel
    rename_i wr
    have T := Lib.hid hT
    clear hT
    by_cases hlt : k < len ∧ k < 5000
    · obtain ⟨hlt, hlt5⟩ := hlt
      obtain ⟨bs, off, rfl, hel⟩ := P'.out.resolve_left (by omega)
      obtain ⟨kd, n, a, xw, s, l, hop⟩ := hel k hlt
      clear hel
      obtain ⟨sp, sc, rfl⟩ : ∃ p c, s = .slice p l.length c := by rcases hop.bytes with ⟨rfl, rfl⟩ | ⟨x, cap, rfl, _⟩ <;> exact ⟨_, _, rfl⟩
      have q0 : wr.cell? ⟨bs, off + k * 5, none⟩ = some (.int .i64 kd) := hop.cell T.out.kept 0 (by decide)
      have q1 : wr.cell? ⟨bs, off + k * 5 + 1, none⟩ = some (.int .i64 n) := hop.cell T.out.kept 1 (by decide)
      have q2 : wr.cell? ⟨bs, off + k * 5 + 2, none⟩ = some (.int .i64 a) := hop.cell T.out.kept 2 (by decide)
      have q3 : wr.cell? ⟨bs, off + k * 5 + 3, none⟩ = some (.int .u32 xw) := hop.cell T.out.kept 3 (by decide)
      have q4 : wr.cell? ⟨bs, off + k * 5 + 4, none⟩ = some (.slice sp l.length sc) := hop.cell T.out.kept 4 (by decide)
      have OP := Lib.hid hop
      have hbw : bs < wr.heap.size := by have := hop.block; have := T.out.kept.size; omega
      clear hop
      go_upto_region 9 with (fail)
      have kO := (Kept.refl [] wr).alloc (.cells #[.int .i64 kd, .int .i64 n, .int .i64 a, .int .u32 xw, .slice sp l.length sc] 69)
      have hO : Has (wr.alloc (.cells #[.int .i64 kd, .int .i64 n, .int .i64 a, .int .u32 xw, .slice sp l.length sc] 69)) wr.heap.size 69 [.int .i64 kd, .int .i64 n, .int .i64 a, .int .u32 xw, .slice sp l.length sc] := Has.new wr _ _
      have T2 := Lib.hid (T.out.fresh kO)
      have O2 := Lib.hid hO
      have SB := Lib.hid OP.out.bytes
      have HL := Lib.hid (show l.length ≤ 140737488351232 by have := OP.out.len; unfold reachBytes at this; omega)
      obtain ⟨xn, rfl, hxn⟩ := Go.Proofs.Ytlafkeijikbenab.Bt.u32_of_wf OP.out.word
      have hzw : w.heap.size ≤ wr.heap.size := T.out.kept.size
      clear kO hO T q0 q1 q2 q3 q4 OP hbw
      generalize wr.alloc (.cells #[.int .i64 kd, .int .i64 n, .int .i64 a, .int .u32 (xn : Int), .slice sp l.length sc] 69) = w2 at *
      generalize wr.heap.size = B at *
      have y0 := O2.out.cell 0 (v := .int .i64 kd) rfl
      by_cases k1 : kd = 1
      · subst k1
        have y4 := O2.out.cell 4 (v := .slice sp l.length sc) rfl
        have y4' := (O2.out.alloc (.cells #[] 5)).cell 4 (v := .slice sp l.length sc) rfl
        have S2 := Lib.hid (SB.out.kept T2.out.kept (by simp))
        go_wp2_with (at_builtin; refine wpList_app rfl _ _ rfl w2 (.slice sp l.length sc) l _ rfl rfl rfl S2.out HL.out ?_)
        intro y w3 k3 gy hgy hoy
        have T3 := Lib.hid (T2.out.fresh k3)
        have O3 := Lib.hid (k3.has O2.out (by simp))
        have Y3 := Lib.hid (Row.bytes (Or.inr ⟨gy, hoy⟩))
        have PC := Lib.hid (put_all b m la fs y l w3 T3.out.bag Y3.out)
        clear k3 hoy hgy T2 O2 S2 y0 y4 y4'
        go_wp2_with fail
        refine PC.out.mono ?_
        rintro e w4 ⟨rfl, k4, la', hla, h4⟩
        have T4 := Lib.hid (T3.out.putB k4 hla h4)
        have O4 := Lib.hid (k4.has O3.out (by
          obtain ⟨v, mm, q1, q2, q3, _⟩ := T3.out.bag
          intro hm
          simp at hm
          rcases hm with rfl | rfl | hm
          · exact Has.neq q1 O3.out (by decide) rfl
          · exact Has.neq q2 O3.out (by decide) rfl
          · obtain ⟨cs, q⟩ := Held.ty q3 hm; exact Has.neq q O3.out (by decide) rfl))
        have y4 := O4.out.cell 4 (v := .slice sp l.length sc) rfl
        have PR := Lib.hid (rput_all c lr fs (.slice sp l.length sc) l w4 T4.out.ref (SB.out.kept T4.out.kept (by simp)))
        clear k4 hla h4 T3 O3 PC
        go_wp2_with fail
        refine PR.out.mono ?_
        rintro e w5 ⟨rfl, k5, lr', hlr, h5⟩
        have T5 := Lib.hid (T4.out.putR k5 hlr h5)
        have ne1 : (putN fs l != putN fs l) = false := by simp
        have ne2 : (putE fs l != putE fs l) = false := by simp
        generalize putN fs l = pn at *
        generalize putE fs l = pe at *
        generalize putF fs l = fs' at *
        clear k5 hlr h5 T4 O4 PR y4
        go_wp2_with fail
        obtain ⟨v, r1, ⟨vs, r3, r4, r5⟩, r7⟩ := id T5.out.ref
        obtain ⟨pv, cv, rfl, _⟩ := r3.shape
        have c0 := r1.cell 0 (v := .slice pv vs.length cv) rfl
        have LB := Lib.hid (fun q => same1 (len_call b m la' fs' (w5.drewN q) (IsBag.fresh T5.out.bag ((Kept.refl [] w5).drewN q))))
        have en : (((fs'.length : Nat) : Int) != (vs.length : Int)) = false := by rw [r4]; simp
        clear r1 r3 r5 r7 r4
        go_quiet (first | (go_at_call 34; exact Calls.quiet_of_same (LB.out _)))
        go_wp2_with fail
        go_roundw
        case rel => exact ⟨k + 1, la', lr', fs', by omega, by omega, by go_num, T5.out.fresh ((Kept.refl [] w5).drewN _)⟩
        case measure => simp [intOf]; omega
      by_cases k2 : kd = 2
      · subst k2
        have y1 := O2.out.cell 1 (v := .int .i64 n) rfl
        have PC := Lib.hid (get_call b m la fs n w2 T2.out.bag)
        go_wp2_with fail
        refine PC.out.mono ?_
        rintro e w3 ⟨s1, rfl, k3, m3⟩
        have T3 := Lib.hid (T2.out.fresh k3)
        have PR := Lib.hid (rget_call c lr fs n w3 T3.out.ref)
        have M3 := Lib.hid m3
        clear PC y1
        have y1 := (k3.has O2.out (by simp)).cell 1 (v := .int .i64 n) rfl
        have Z3 := Lib.hid k3
        clear k3 m3 T2 O2
        go_wp2_with fail
        refine PR.out.mono ?_
        rintro e w4 ⟨s2, rfl, k4, m4⟩
        have T4 := Lib.hid (T3.out.fresh k4)
        have q1 := ((M3.out.kept k4 (by simp)).bytes).str
        have q2 := m4.bytes.str
        have ne1 : ((strOfNums (getA fs n).1).toList != (strOfNums (getA fs n).1).toList) = false := by simp
        have ne2 : ((getA fs n).2 != (getA fs n).2) = false := by simp
        generalize strOfNums (getA fs n).1 = sa at *
        generalize (getA fs n).2 = ea at *
        clear PR M3 Z3 k4 m4 T3 y1 y0
        go_wp2_with fail
        obtain ⟨v, r1, ⟨vs, r3, r4, r5⟩, r7⟩ := id T4.out.ref
        obtain ⟨pv, cv, rfl, _⟩ := r3.shape
        have c0 := r1.cell 0 (v := .slice pv vs.length cv) rfl
        have LB := Lib.hid (fun q => same1 (len_call b m la fs (w4.drewN q) (IsBag.fresh T4.out.bag ((Kept.refl [] w4).drewN q))))
        have en : (((fs.length : Nat) : Int) != (vs.length : Int)) = false := by rw [r4]; simp
        clear r1 r3 r5 r7 r4
        go_quiet (first | (go_at_call 34; exact Calls.quiet_of_same (LB.out _)))
        go_wp2_with fail
        go_roundw
        case rel => exact ⟨k + 1, la, lr, fs, by omega, by omega, by go_num, T4.out.fresh ((Kept.refl [] w4).drewN _)⟩
        case measure => simp [intOf]; omega
      by_cases k3 : kd = 3
      · subst k3
        have y1 := O2.out.cell 1 (v := .int .i64 n) rfl
        have y2 := O2.out.cell 2 (v := .int .i64 a) rfl
        have y3 := O2.out.cell 3 (v := .int .u32 (xn : Int)) rfl
        have PC := Lib.hid (garbled_call b m la fs n a xn hxn w2 T2.out.bag)
        go_wp2_with fail
        refine PC.out.mono ?_
        rintro e w3 ⟨s1, rfl, k3, m3⟩
        have T3 := Lib.hid (T2.out.fresh k3)
        have PR := Lib.hid (rgarbled_call c lr fs n a xn hxn w3 T3.out.ref)
        have M3 := Lib.hid m3
        clear PC y1 y2 y3
        have y1 := (k3.has O2.out (by simp)).cell 1 (v := .int .i64 n) rfl
        have y2 := (k3.has O2.out (by simp)).cell 2 (v := .int .i64 a) rfl
        have y3 := (k3.has O2.out (by simp)).cell 3 (v := .int .u32 (xn : Int)) rfl
        have Z3 := Lib.hid k3
        clear k3 m3 T2 O2
        go_wp2_with fail
        refine PR.out.mono ?_
        rintro e w4 ⟨s2, rfl, k4, m4⟩
        have T4 := Lib.hid (T3.out.fresh k4)
        have q1 := ((M3.out.kept k4 (by simp)).bytes).str
        have q2 := m4.bytes.str
        have ne1 : ((strOfNums (garA fs n a xn).1).toList != (strOfNums (garA fs n a xn).1).toList) = false := by simp
        have ne2 : ((garA fs n a xn).2 != (garA fs n a xn).2) = false := by simp
        generalize strOfNums (garA fs n a xn).1 = sa at *
        generalize (garA fs n a xn).2 = ea at *
        clear PR M3 Z3 k4 m4 T3 y1 y2 y3 y0
        go_wp2_with fail
        obtain ⟨v, r1, ⟨vs, r3, r4, r5⟩, r7⟩ := id T4.out.ref
        obtain ⟨pv, cv, rfl, _⟩ := r3.shape
        have c0 := r1.cell 0 (v := .slice pv vs.length cv) rfl
        have LB := Lib.hid (fun q => same1 (len_call b m la fs (w4.drewN q) (IsBag.fresh T4.out.bag ((Kept.refl [] w4).drewN q))))
        have en : (((fs.length : Nat) : Int) != (vs.length : Int)) = false := by rw [r4]; simp
        clear r1 r3 r5 r7 r4
        go_quiet (first | (go_at_call 34; exact Calls.quiet_of_same (LB.out _)))
        go_wp2_with fail
        go_roundw
        case rel => exact ⟨k + 1, la, lr, fs, by omega, by omega, by go_num, T4.out.fresh ((Kept.refl [] w4).drewN _)⟩
        case measure => simp [intOf]; omega
      · have e1 : (kd == 1) = false := by simpa using k1
        have e2 : (kd == 2) = false := by simpa using k2
        have e3 : (kd == 3) = false := by simpa using k3
        clear k1 k2 k3
        go_wp2_with fail
        obtain ⟨v, r1, ⟨vs, r3, r4, r5⟩, r7⟩ := id T2.out.ref
        obtain ⟨pv, cv, rfl, _⟩ := r3.shape
        have c0 := r1.cell 0 (v := .slice pv vs.length cv) rfl
        have LB := Lib.hid (fun q => same1 (len_call b m la fs (w2.drewN q) (IsBag.fresh T2.out.bag ((Kept.refl [] w2).drewN q))))
        have en : (((fs.length : Nat) : Int) != (vs.length : Int)) = false := by rw [r4]; simp
        clear r1 r3 r5 r7 r4
        go_quiet (first | (go_at_call 34; exact Calls.quiet_of_same (LB.out _)))
        go_wp2_with fail
        go_roundw
        case rel => exact ⟨k + 1, la, lr, fs, by omega, by omega, by go_num, T2.out.fresh ((Kept.refl [] w2).drewN _)⟩
        case measure => simp [intOf]; omega
    · have BC := Lib.hid (bytes_call b m la fs wr T.out.bag)
      have RC := Lib.hid (rbytes_call c lr fs wr T.out.ref)
      have ne1 : (((tot fs : Nat) : Int) == ((tot fs : Nat) : Int)) = true := by simp
      have ne2 : (((top fs : Nat) : Int) == ((top fs : Nat) : Int)) = true := by simp
      rcases Nat.lt_or_ge k len with hl | hl
      · obtain rfl : k = 5000 := by omega
        go_wp2_with fail
        refine BC.out.mono ?_
        rintro e w3 ⟨rfl, rfl⟩
        go_wp2_with fail
        refine RC.out.mono ?_
        rintro e w3 ⟨rfl, rfl⟩
        go_wp2_with fail
        go_ret
        exact ⟨rfl, T.out.kept.toBelow (by simp)⟩
      · obtain rfl : k = len := by omega
        go_wp2_with fail
        refine BC.out.mono ?_
        rintro e w3 ⟨rfl, rfl⟩
        go_wp2_with fail
        refine RC.out.mono ?_
        rintro e w3 ⟨rfl, rfl⟩
        go_wp2_with fail
        go_ret
        exact ⟨rfl, T.out.kept.toBelow (by simp)⟩
end Go.Proofs.Ytlafkeijikbenab.S15
