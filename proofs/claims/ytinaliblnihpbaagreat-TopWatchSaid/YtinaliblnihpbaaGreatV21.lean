/- The walks and the plain laws of WdY, WdZ. -/
import Derived.Test.YtinaliblnihpbaaGreatV20
import Derived.Deep.MidRow
import Derived.Deep.CutBlock
import Derived.Deep.DeepCutAuto
set_option linter.unusedVariables false
set_option linter.unusedSimpArgs false
open Go.Lib (hid)
namespace Go.Proofs.YtinaliblnihpbaaGreat
namespace WdC
open Go Go.RowKit Gf Hp Sl Ow Rw TM BagC HostC DevC MemC ValveC EncW UEnc UDecW UnW ParW SlC
variable {G G' : Nat → Prop} {lab : Nat → Nat} {w w' : World} {a j : Nat} {b : Nat} {nh nd : Value} {mx : Int} {cv : Value} {ca : Nat} {cs : List CP} {bb : Nat} {fv : Value} {fa : Option Nat} {n : Nat} {xs : List Value} {x y : Wd}
theorem puts_has {R : Nat} {T : TypeId} : ∀ (vs : List Value) (w : World) (i : Nat) (cs : List Value), Has w R T cs → i + vs.length ≤ cs.length → Has (w.setCells R i vs) R T (cs.take i ++ vs ++ cs.drop (i + vs.length)) ∧ Kept [R] w (w.setCells R i vs)
  | [], w, i, cs, h, hl => by
    rw [List.append_nil, List.length_nil, Nat.add_zero, List.take_append_drop]; exact ⟨h, Kept.refl _ _⟩
  | v :: vs, w, i, cs, h, hl => by
    simp only [List.length_cons] at hl
    obtain ⟨h1, h2⟩ := puts_has vs _ (i + 1) _ (h.set i v) (by rw [List.length_set]; omega)
    refine ⟨?_, ((Kept.refl [R] w).set ⟨R, i, none⟩ v (by simp)).trans h2⟩
    have hi : i < cs.length := by omega
    have e : (cs.set i v).take (i + 1) ++ vs ++ (cs.set i v).drop (i + 1 + vs.length) = cs.take i ++ (v :: vs) ++ cs.drop (i + (v :: vs).length) := by
      have e1 : (cs.set i v).take (i + 1) = cs.take i ++ [v] := by
        rw [List.take_succ_eq_append_getElem (by rw [List.length_set]; exact hi)]
        simp [List.take_set_of_le]
      have e2 : (cs.set i v).drop (i + 1 + vs.length) = cs.drop (i + 1 + vs.length) := List.drop_set_of_lt (by omega)
      rw [e1, e2, show i + (v :: vs).length = i + 1 + vs.length by simp only [List.length_cons]; omega]
      simp
    rw [← e]; exact h1
theorem there_has {w : World} {R o n : Nat} {T : TypeId} {cs : List Value} (h : Has w R T cs) (hl : o + n ≤ cs.length) : w.there R o n := fun j hj => by
  refine ⟨?_, h.free _⟩
  rw [h.cell (o + j) (List.getElem?_eq_getElem (show o + j < cs.length by omega))]; rfl
theorem wpList_put {P : Program} {ops : Array Oper} {rest : List Oper} {op : Oper} {a : Act} {w : World} {Q : Exit → Act → World → Prop} {b o : Nat} {T : TypeId} {cs : List Value} (h0 : Has w b T cs) (cells : List Value) (ty : TypeId) (x y : Operand) (ho : op.op = .store ty x y) (hgd : op.guard = none)
    (hx : a.eval x = .pointer (some ⟨b, o, none⟩)) (hy : a.eval y = .agg cells.toArray) (hl : o + cells.length ≤ cs.length) (hi : (P.info? ty).map (·.size) = some cells.length) (h1 : cells.all (·.oneCell') = true)
    (h : wpList P ops Q rest (a.put op.dst undef) (w.setCells b o cells)) : wpList P ops Q (op :: rest) a w :=
  wpList_store_mid hgd ty x y ho b o cells.toArray hx hy (by rw [List.size_toArray]; exact there_has h0 hl) (by rw [List.size_toArray]; exact hi) (by simpa using h1) h
theorem puts_all {w : World} {R : Nat} {T : TypeId} {cs : List Value} (vs : List Value) (h : Has w R T cs) (hl : vs.length = cs.length) : Has (w.setCells R 0 vs) R T vs ∧ Kept [R] w (w.setCells R 0 vs) := by
  obtain ⟨h1, h2⟩ := puts_has vs w 0 cs h (by omega)
  rw [Nat.zero_add, hl, List.drop_length, List.append_nil, List.take_zero, List.nil_append] at h1
  exact ⟨h1, h2⟩
def row0 : Value := rowV ⟨0, 0, 0, 0, 0, 0, 0, false, []⟩ none 0 0 0 0 ⟨0, 0, 0, 0, 0, 0, false, false, []⟩ none 0 0 ⟨0, 0, 0, 0, 0, 0, false, false, []⟩ none 0 0
theorem results_cell2 {P : Program} {fn : Func} {c u : Tmp} {T T2 : TypeId} (h : fn.results = #[.cell c T, .tmp u]) {tmps : Array Value} {w : World} {b : Nat} {cs : List Value} {d : TypeDesc} (h0 : Has w b T2 cs) (hp : tmps.getD c undef = .pointer (some ⟨b, 0, none⟩))
    (hu : P.underlying T = some d) (hd : d.isRow = true) (hi : (P.info? T).map (·.size) = some cs.length) : (results fn tmps).run P w = .ok (.tuple #[.agg cs.toArray, tmps.getD u undef]) w := by
  have := run_loadVar_mid (P := P) w b 0 T cs d (fun j v hv => by rw [Nat.zero_add]; exact h0.cell j hv) hu hd hi
  simp only [Array.getD_eq_getD_getElem?] at hp
  simp [results, h, hp, asAddr, this]
theorem infoR : (Tryz.prog.info? 44).map (·.size) = some 29 := by kernel_rfl
set_option maxRecDepth 100000 in
set_option maxHeartbeats 6400000 in
theorem play_bad (h : WAt G lab w b nh nd mx cv ca cs bb fv fa n xs x) (mv : Mv) (dp : Option Addr) (dl dc : Nat) (hw : 0 ≤ mv.word ∧ mv.word < 4294967296) (hu : ∀ u ∈ x.bag, u.data.length ≤ 8) (hf : x.fault mv ≠ 0) :
    Calls Tryz.prog 14 #[.pointer (some ⟨b, 0, none⟩), mvV mv dp dl dc] w fun e w' => e = .returned (.tuple #[row0, .int .i64 (x.fault mv)]) ∧ Kept [] w w' := by
  have HH := hid h
  have FC := hid (fun (w' : World) (q : Kept [] w w') => fault_call (h.nil q) mv dp dl dc hw hu)
  obtain ⟨ft, hft⟩ : ∃ ft, ft = x.fault mv := ⟨_, rfl⟩
  rw [← hft] at FC hf ⊢
  have e1 : (ft != 0) = true := by simpa using hf
  clear h hw hu hf hft
  unfold mvV at FC ⊢
  go_enter Tryz.func14, Tryz.ntmps14
  go_upto_region 1 with (fail)
  have KA := hid (((Kept.refl [] w).alloc (.cells #[.int .i64 mv.kind, .int .i64 mv.conn, .int .i64 mv.side, .int .i64 mv.frame, .int .i64 mv.at', .int .u32 mv.word, .int .i64 mv.n, .bool mv.hold, .slice dp dl dc] 38)).alloc (.cells #[.int .i64 0, .int .i64 0, .int .i64 0, .int .i64 0, .int .i64 0, .int .u32 0, .int .i64 0, .bool false, .slice none 0 0, .int .i64 0, .int .i64 0, .int .i64 0, .int .u32 0, .int .u32 0, .int .u32 0, .int .i64 0, .int .i64 0, .bool false, .bool false, .slice none 0 0, .int .i64 0, .int .u32 0, .int .u32 0, .int .u32 0, .int .i64 0, .int .i64 0, .bool false, .bool false, .slice none 0 0] 44))
  have MA := hid ((Has.new w 38 [.int .i64 mv.kind, .int .i64 mv.conn, .int .i64 mv.side, .int .i64 mv.frame, .int .i64 mv.at', .int .u32 mv.word, .int .i64 mv.n, .bool mv.hold, .slice dp dl dc]).alloc (.cells #[.int .i64 0, .int .i64 0, .int .i64 0, .int .i64 0, .int .i64 0, .int .u32 0, .int .i64 0, .bool false, .slice none 0 0, .int .i64 0, .int .i64 0, .int .i64 0, .int .u32 0, .int .u32 0, .int .u32 0, .int .i64 0, .int .i64 0, .bool false, .bool false, .slice none 0 0, .int .i64 0, .int .u32 0, .int .u32 0, .int .u32 0, .int .i64 0, .int .i64 0, .bool false, .bool false, .slice none 0 0] 44))
  have YA := hid (Has.new (w.alloc (.cells #[.int .i64 mv.kind, .int .i64 mv.conn, .int .i64 mv.side, .int .i64 mv.frame, .int .i64 mv.at', .int .u32 mv.word, .int .i64 mv.n, .bool mv.hold, .slice dp dl dc] 38)) 44 [.int .i64 0, .int .i64 0, .int .i64 0, .int .i64 0, .int .i64 0, .int .u32 0, .int .i64 0, .bool false, .slice none 0 0, .int .i64 0, .int .i64 0, .int .i64 0, .int .u32 0, .int .u32 0, .int .u32 0, .int .i64 0, .int .i64 0, .bool false, .bool false, .slice none 0 0, .int .i64 0, .int .u32 0, .int .u32 0, .int .u32 0, .int .i64 0, .int .i64 0, .bool false, .bool false, .slice none 0 0])
  generalize (w.alloc (.cells #[.int .i64 mv.kind, .int .i64 mv.conn, .int .i64 mv.side, .int .i64 mv.frame, .int .i64 mv.at', .int .u32 mv.word, .int .i64 mv.n, .bool mv.hold, .slice dp dl dc] 38)).alloc (.cells #[.int .i64 0, .int .i64 0, .int .i64 0, .int .i64 0, .int .i64 0, .int .u32 0, .int .i64 0, .bool false, .slice none 0 0, .int .i64 0, .int .i64 0, .int .i64 0, .int .u32 0, .int .u32 0, .int .u32 0, .int .i64 0, .int .i64 0, .bool false, .bool false, .slice none 0 0, .int .i64 0, .int .u32 0, .int .u32 0, .int .u32 0, .int .i64 0, .int .i64 0, .bool false, .bool false, .slice none 0 0] 44) = wa at KA MA YA ⊢
  obtain ⟨R, hR⟩ : ∃ R, R = w.heap.size := ⟨_, rfl⟩
  have hY : (w.alloc (.cells #[.int .i64 mv.kind, .int .i64 mv.conn, .int .i64 mv.side, .int .i64 mv.frame, .int .i64 mv.at', .int .u32 mv.word, .int .i64 mv.n, .bool mv.hold, .slice dp dl dc] 38)).heap.size = R + 1 := by rw [hR]; simp
  rw [hY] at YA
  try simp only [hY]
  rw [← hR] at MA ⊢
  have RR := hid (Nat.le_of_eq hR.symm)
  clear hR hY
  have m0 := MA.out.cell 0 rfl
  have m1 := MA.out.cell 1 rfl
  have m2 := MA.out.cell 2 rfl
  have m3 := MA.out.cell 3 rfl
  have m4 := MA.out.cell 4 rfl
  have m5 := MA.out.cell 5 rfl
  have m6 := MA.out.cell 6 rfl
  have m7 := MA.out.cell 7 rfl
  have m8 := MA.out.cell 8 rfl
  go_wp2_with fail
  refine (FC.out _ KA.out).mono ?_
  rintro e w1 ⟨rfl, k1⟩
  have K1 := hid (KA.out.trans k1)
  have Y1 := hid (k1.has YA.out (by simp))
  clear m0 m1 m2 m3 m4 m5 m6 m7 m8 k1
  go_upto_region 5 with (fail)
  iterate 7 (first | go_values | go_skip | go_guarded | go_step | go_upon | go_back | (simp only [Int.not_lt, Int.not_le] at *; go_simp) | (go_values <;> (try go_simp)))
  refine wpList_put (o := 0) Y1.out [.int .i64 0, .int .i64 0, .int .i64 0, .int .i64 0, .int .i64 0, .int .u32 0, .int .i64 0, .bool false, .slice none 0 0, .int .i64 0, .int .i64 0, .int .i64 0, .int .u32 0, .int .u32 0, .int .u32 0, .int .i64 0, .int .i64 0, .bool false, .bool false, .slice none 0 0, .int .i64 0, .int .u32 0, .int .u32 0, .int .u32 0, .int .i64 0, .int .i64 0, .bool false, .bool false, .slice none 0 0] 44 (.tmp 4) (.tmp 21) rfl rfl rfl rfl (by decide) infoR rfl ?_
  have ES := puts_all [.int .i64 0, .int .i64 0, .int .i64 0, .int .i64 0, .int .i64 0, .int .u32 0, .int .i64 0, .bool false, .slice none 0 0, .int .i64 0, .int .i64 0, .int .i64 0, .int .u32 0, .int .u32 0, .int .u32 0, .int .i64 0, .int .i64 0, .bool false, .bool false, .slice none 0 0, .int .i64 0, .int .u32 0, .int .u32 0, .int .u32 0, .int .i64 0, .int .i64 0, .bool false, .bool false, .slice none 0 0] Y1.out rfl
  have K2 := hid (K1.out.fresh ES.2 (by intro i hi hl; simp at hi; have := RR.out; omega))
  have E2 := hid ES.1
  clear ES
  generalize w1.setCells (R + 1) 0 [.int .i64 0, .int .i64 0, .int .i64 0, .int .i64 0, .int .i64 0, .int .u32 0, .int .i64 0, .bool false, .slice none 0 0, .int .i64 0, .int .i64 0, .int .i64 0, .int .u32 0, .int .u32 0, .int .u32 0, .int .i64 0, .int .i64 0, .bool false, .bool false, .slice none 0 0, .int .i64 0, .int .u32 0, .int .u32 0, .int .u32 0, .int .i64 0, .int .i64 0, .bool false, .bool false, .slice none 0 0] = w2 at K2 E2 ⊢
  go_wp2_with fail
  refine bodyPost_ret (results_cell2 rfl E2.out rfl Tryz.underlying44 rfl infoR) rfl ?_
  exact ⟨rfl, K2.out⟩
end WdC
namespace WdC
open Go Go.RowKit Gf Hp Sl Ow Rw TM BagC HostC DevC MemC ValveC EncW UEnc UDecW UnW ParW SlC
variable {G G' : Nat → Prop} {lab : Nat → Nat} {w w' : World} {a j : Nat} {b : Nat} {nh nd : Value} {mx : Int} {cv : Value} {ca : Nat} {cs : List CP} {bb : Nat} {fv : Value} {fa : Option Nat} {n : Nat} {xs : List Value} {x y : Wd}
theorem WAt.count (hG : Opn G w) (h : WAt G lab w b nh nd mx cv ca cs bb fv fa n xs x) (m : Int) : KG G w (w.setCell ⟨b, 6, none⟩ (.int .i64 m)) ∧ WAt G (relab lab w 0) (w.setCell ⟨b, 6, none⟩ (.int .i64 m)) b nh nd mx cv ca cs bb fv fa n xs { x with moves := m } := by
  have kl := (Kept.refl [b] w).set ⟨b, 6, none⟩ (.int .i64 m) (by simp)
  have k2 : KG (hand G lab w 0) w (w.setCell ⟨b, 6, none⟩ (.int .i64 m)) := .one kl (own_hand b h.t0.gb)
  refine ⟨kg_hand k2, h.tops k2 ⟨h.t0.top.set 6 (.int .i64 m), h.t0.con.kept kl (fun g hg hm => ?_), h.t0.fct.kept kl (fun g hg hm => ?_), own_hand b h.t0.gb, own_hand ca h.t0.gc, fun g hg => own_hand g (h.t0.gf g hg)⟩⟩
  · cases hg
    simp at hm
    obtain ⟨c1, q1⟩ := h.t0.con.ty rfl
    exact Ow.Has.ne q1 h.t0.top (by decide) hm
  · simp at hm
    obtain ⟨c1, q1⟩ := h.t0.fct.ty hg
    exact Ow.Has.ne q1 h.t0.top (by decide) hm
structure Mid (G G2 : Nat → Prop) (w wx : World) (b : Nat) (nh nd : Value) (mx : Int) (cv : Value) (ca : Nat) (cs : List CP) (bb N : Nat) (X : Wd) (R Y Z : Nat) (k : Nat) (mv : Mv) (ep : Option Addr) (ec : Nat) (code sent : Int) (p : CP) : Prop where
  wf : ∃ m, m ≤ N ∧ WF G2 wx b nh nd mx cv ca cs bb m X
  kg : KG G w wx
  r : Has wx R 38 [.int .i64 mv.kind, .int .i64 (k : Int), .int .i64 mv.side, .int .i64 mv.frame, .int .i64 mv.at', .int .u32 mv.word, .int .i64 mv.n, .bool mv.hold, .slice ep mv.data.length ec]
  y : Has wx (R + 1) 44 [.int .i64 0, .int .i64 0, .int .i64 0, .int .i64 0, .int .i64 0, .int .u32 0, .int .i64 0, .bool false, .slice none 0 0, .int .i64 0, .int .i64 0, .int .i64 0, .int .u32 0, .int .u32 0, .int .u32 0, .int .i64 0, .int .i64 0, .bool false, .bool false, .slice none 0 0, .int .i64 0, .int .u32 0, .int .u32 0, .int .u32 0, .int .i64 0, .int .i64 0, .bool false, .bool false, .slice none 0 0]
  y2 : Has wx Y 44 [.int .i64 mv.kind, .int .i64 (k : Int), .int .i64 mv.side, .int .i64 mv.frame, .int .i64 mv.at', .int .u32 mv.word, .int .i64 mv.n, .bool mv.hold, .slice ep mv.data.length ec, .int .i64 code, .int .i64 sent, .int .i64 0, .int .u32 0, .int .u32 0, .int .u32 0, .int .i64 0, .int .i64 0, .bool false, .bool false, .slice none 0 0, .int .i64 0, .int .u32 0, .int .u32 0, .int .u32 0, .int .i64 0, .int .i64 0, .bool false, .bool false, .slice none 0 0]
  z : Has wx Z 92 [.pointer (some ⟨p.h, 0, none⟩), .pointer (some ⟨p.d, 0, none⟩), .pointer (some ⟨p.m, 0, none⟩)]
  ne : R + 1 ≠ Y
variable {G2 : Nat → Prop} {w7 wx wy : World} {X : Wd} {R Y Z k N : Nat} {mv : Mv} {ep : Option Addr} {ec : Nat} {code sent : Int} {p : CP}
theorem out_len {G : Nat → Prop} {w : World} {v g o : Nat} {z : V} (h : IsV G w v g o z) (h8 : z.n ≤ 8) : z.out.length ≤ 1000 := by
  obtain ⟨s, t, _, _, h⟩ := h
  unfold V.out
  split
  · rename_i q
    unfold V.on at q
    simp at q
    obtain ⟨l, hl⟩ := Option.isSome_iff_exists.1 q.2.2
    rw [hl] at h ⊢
    have := h.1
    show l.length ≤ 1000; omega
  · simp; omega
theorem host_len {G : Nat → Prop} {w : World} {b : Nat} {z : H} (h : hostOf G w b z) (h8 : z.v.n ≤ 8) : z.v.out.length ≤ 1000 := by
  obtain ⟨d, v, g, o, lg, k, s, h⟩ := h; exact out_len h.val h8
theorem dev_len {G : Nat → Prop} {w : World} {b m mb : Nat} {z : D} (h : DevM G w b m mb z) (h8 : z.v.n ≤ 8) : z.v.out.length ≤ 1000 := by
  obtain ⟨⟨d, v, g, o, lg, k, c, s, h⟩, _⟩ := h; exact out_len h.val h8
theorem wpList_get {P : Program} {ops : Array Oper} {rest : List Oper} {op : Oper} {a : Act} {w : World} {Q : Exit → Act → World → Prop} {b : Nat} {T : TypeId} {cs : List Value} {d : TypeDesc} (h0 : Has w b T cs) (ty : TypeId) (x : Operand) (ho : op.op = .load ty x) (hgd : op.guard = none)
    (hx : a.eval x = .pointer (some ⟨b, 0, none⟩)) (hu : P.underlying ty = some d) (hd : d.isRow = true) (hi : (P.info? ty).map (·.size) = some cs.length)
    (h : wpList P ops Q rest (a.put op.dst (.agg cs.toArray)) w) : wpList P ops Q (op :: rest) a w :=
  wpList_load_mid hgd ty x ho b 0 hx cs d (fun j v hv => by rw [Nat.zero_add]; exact h0.cell j hv) hu hd hi h
theorem DevM.mok {G : Nat → Prop} {w : World} {b m mb : Nat} {x : D} (h : DevM G w b m mb x) : MOk x.m := by
  obtain ⟨⟨d, v, g, o, lg, k, c, s, h⟩, _⟩ := h
  obtain ⟨wr, _, _, h⟩ := h.mem
  exact h
theorem WF.other {S : List Nat} {m : Nat} (h : WF G w b nh nd mx cv ca cs bb m x) (k : Kept S w w') (hS : ∀ i, i ∈ S → ¬ G i) : WF G w' b nh nd mx cv ca cs bb m x := by
  obtain ⟨lab, fv, fa, xs, h⟩ := h; exact ⟨lab, fv, fa, xs, h.frame k (fun i hi _ => hS i hi)⟩
theorem Mid.step {st : Cn × Option U × Int} (h : Mid G G2 w w7 b nh nd mx cv ca cs bb N X R Y Z k mv ep ec code sent p) (hs : Stepped G2 w7 wy b nh nd mx cv ca cs bb n x k st) (hg : ∀ i, G2 i → G i) (nR : ¬ G2 R) (nY : ¬ G2 (R + 1)) (nY2 : ¬ G2 Y) (nZ : ¬ G2 Z) :
    Mid G G2 w wy b nh nd mx cv ca cs bb (n + 5) (after x k st) R Y Z k mv ep ec code sent p :=
  ⟨hs.2, h.kg.trans (hs.1.shed (fun i _ q => hg i q)), hs.1.has h.r nR, hs.1.has h.y nY, hs.1.has h.y2 nY2, hs.1.has h.z nZ, h.ne⟩
theorem Mid.setc (h : Mid G G2 w wx b nh nd mx cv ca cs bb N X R Y Z k mv ep ec code sent p) (nY2 : ¬ G2 Y) (gY : G Y) (c : Int) : Mid G G2 w (wx.setCell ⟨Y, 9, none⟩ (.int .i64 c)) b nh nd mx cv ca cs bb N X R Y Z k mv ep ec c sent p := by
  have kk := (Kept.refl [Y] wx).set ⟨Y, 9, none⟩ (.int .i64 c) (by simp)
  refine ⟨?_, h.kg.set gY, kk.has h.r ?_, kk.has h.y ?_, h.y2.set 9 (.int .i64 c), kk.has h.z ?_, h.ne⟩
  · obtain ⟨m, h1, h2⟩ := h.wf; exact ⟨m, h1, h2.other kk (by simpa using nY2)⟩
  · have := Ow.Has.ne h.r h.y2 (by decide); simpa using this
  · simpa using h.ne
  · have := Ow.Has.ne h.z h.y2 (by decide); simpa using this
theorem Mid.sets (h : Mid G G2 w wx b nh nd mx cv ca cs bb N X R Y Z k mv ep ec code sent p) (nY2 : ¬ G2 Y) (gY : G Y) (c : Int) : Mid G G2 w (wx.setCell ⟨Y, 10, none⟩ (.int .i64 c)) b nh nd mx cv ca cs bb N X R Y Z k mv ep ec code c p := by
  have kk := (Kept.refl [Y] wx).set ⟨Y, 10, none⟩ (.int .i64 c) (by simp)
  refine ⟨?_, h.kg.set gY, kk.has h.r ?_, kk.has h.y ?_, h.y2.set 10 (.int .i64 c), kk.has h.z ?_, h.ne⟩
  · obtain ⟨m, h1, h2⟩ := h.wf; exact ⟨m, h1, h2.other kk (by simpa using nY2)⟩
  · have := Ow.Has.ne h.r h.y2 (by decide); simpa using this
  · simpa using h.ne
  · have := Ow.Has.ne h.z h.y2 (by decide); simpa using this
theorem Stepped.back {st : Cn × Option U × Int} {wc : World} (hG : Opn G w7) (k0 : Kept [] w7 wc) (h : Stepped (fenced G w7 wc) wc wy b nh nd mx cv ca cs bb n x k st) : Stepped G w7 wy b nh nd mx cv ca cs bb n x k st := by
  obtain ⟨h1, m, h2, h3⟩ := h
  exact ⟨(KG.nil k0).trans (h1.shed (fun i _ q => fenced_sub hG k0.size i q)), m, h2, h3.mono (fun i _ q => fenced_sub hG k0.size i q)⟩
theorem away_made {w0 w1 : World} {v : Value} {l : List Int} (h : Made w0 w1 v l) (hl : l ≠ []) : Away (fenced G w0 w1) w1 v := by
  intro b' off m c e
  subst e
  have h1 : b' < w1.heap.size := by
    rcases h.bytes with ⟨e, _⟩ | ⟨y, cap, e, _, _, h3⟩
    · cases e
    · cases e
      rcases h3 with h3 | ⟨b2, o2, e2, h3, _⟩
      · exact absurd h3 hl
      · cases e2; exact h3
  rcases h.1 with ⟨e, _⟩ | ⟨g, ho⟩
  · cases e
  obtain ⟨cap, cur, e, _⟩ := ho
  cases e
  have := h.2 _ rfl
  exact ⟨h1, fenced_not this h1⟩
theorem play_none {c : Cn} {u : U} (h2 : mv.kind ≠ 2) (h3 : mv.kind ≠ 3) (h4 : mv.kind ≠ 4) : (c.play mv u).2.1 = none := by
  unfold Cn.play
  rw [if_neg h2, if_neg h3, if_neg h4]
  repeat' split
  all_goals rfl
theorem c18 {w : World} {R : Nat} {T : TypeId} {v0 v1 v2 v3 v4 v5 v6 v7 v8 v9 v10 v11 v12 v13 v14 v15 v16 v17 v18 v19 v20 v21 v22 v23 v24 v25 v26 v27 v28 : Value} (h : Has w R T [v0, v1, v2, v3, v4, v5, v6, v7, v8, v9, v10, v11, v12, v13, v14, v15, v16, v17, v18, v19, v20, v21, v22, v23, v24, v25, v26, v27, v28]) : w.cell? ⟨R, 11, none⟩ = some v11 ∧ w.frozen? ⟨R, 11, none⟩ = false ∧ w.cell? ⟨R, 12, none⟩ = some v12 ∧ w.frozen? ⟨R, 12, none⟩ = false ∧ w.cell? ⟨R, 13, none⟩ = some v13 ∧ w.frozen? ⟨R, 13, none⟩ = false ∧ w.cell? ⟨R, 14, none⟩ = some v14 ∧ w.frozen? ⟨R, 14, none⟩ = false ∧ w.cell? ⟨R, 15, none⟩ = some v15 ∧ w.frozen? ⟨R, 15, none⟩ = false ∧ w.cell? ⟨R, 16, none⟩ = some v16 ∧ w.frozen? ⟨R, 16, none⟩ = false ∧ w.cell? ⟨R, 17, none⟩ = some v17 ∧ w.frozen? ⟨R, 17, none⟩ = false ∧ w.cell? ⟨R, 18, none⟩ = some v18 ∧ w.frozen? ⟨R, 18, none⟩ = false ∧ w.cell? ⟨R, 19, none⟩ = some v19 ∧ w.frozen? ⟨R, 19, none⟩ = false ∧ w.cell? ⟨R, 20, none⟩ = some v20 ∧ w.frozen? ⟨R, 20, none⟩ = false ∧ w.cell? ⟨R, 21, none⟩ = some v21 ∧ w.frozen? ⟨R, 21, none⟩ = false ∧ w.cell? ⟨R, 22, none⟩ = some v22 ∧ w.frozen? ⟨R, 22, none⟩ = false ∧ w.cell? ⟨R, 23, none⟩ = some v23 ∧ w.frozen? ⟨R, 23, none⟩ = false ∧ w.cell? ⟨R, 24, none⟩ = some v24 ∧ w.frozen? ⟨R, 24, none⟩ = false ∧ w.cell? ⟨R, 25, none⟩ = some v25 ∧ w.frozen? ⟨R, 25, none⟩ = false ∧ w.cell? ⟨R, 26, none⟩ = some v26 ∧ w.frozen? ⟨R, 26, none⟩ = false ∧ w.cell? ⟨R, 27, none⟩ = some v27 ∧ w.frozen? ⟨R, 27, none⟩ = false ∧ w.cell? ⟨R, 28, none⟩ = some v28 ∧ w.frozen? ⟨R, 28, none⟩ = false := ⟨h.cell 11 rfl, h.free 11, h.cell 12 rfl, h.free 12, h.cell 13 rfl, h.free 13, h.cell 14 rfl, h.free 14, h.cell 15 rfl, h.free 15, h.cell 16 rfl, h.free 16, h.cell 17 rfl, h.free 17, h.cell 18 rfl, h.free 18, h.cell 19 rfl, h.free 19, h.cell 20 rfl, h.free 20, h.cell 21 rfl, h.free 21, h.cell 22 rfl, h.free 22, h.cell 23 rfl, h.free 23, h.cell 24 rfl, h.free 24, h.cell 25 rfl, h.free 25, h.cell 26 rfl, h.free 26, h.cell 27 rfl, h.free 27, h.cell 28 rfl, h.free 28⟩
set_option maxRecDepth 100000 in
set_option maxHeartbeats 6400000 in
theorem play_ok {k : Nat} {p : CP} (hG : Opn G w) (h : WAt G lab w b nh nd mx cv ca cs bb fv fa n xs x) (hp : cs[k]? = some p) (ok : WOk x) (hn : n + 8 ≤ 1000000) (mv : Mv) (dp : Option Addr) (dc : Nat) (hk : mv.conn = (k : Int)) (hd : Bytes w (.slice dp mv.data.length dc) mv.data) (hv : Away G w (.slice dp mv.data.length dc)) (hby : By mv.data) (hl : mv.data.length ≤ 140737488351232) (hw : 0 ≤ mv.word ∧ mv.word < 4294967296) (hn2 : mv.n < 9223372036854775808) (hf : x.fault mv = 0) :
    Calls Tryz.prog 14 #[.pointer (some ⟨b, 0, none⟩), mvV mv dp mv.data.length dc] w fun e w' => ∃ mp mc s1 c1 s2 c2, e = .returned (.tuple #[rowV mv mp mv.data.length mc (x.row mv).code (x.row mv).sent (x.row mv).host s1 (x.row mv).host.out.length c1 (x.row mv).dev s2 (x.row mv).dev.out.length c2, .int .i64 0]) ∧ KG G w w' ∧ (∃ m, m ≤ n + 7 ∧ WF G w' b nh nd mx cv ca cs bb m (x.next mv)) ∧ Outs w w' (.slice s1 (x.row mv).host.out.length c1) (x.row mv).host.out ∧ Outs w w' (.slice s2 (x.row mv).dev.out.length c2) (x.row mv).dev.out := by
  obtain ⟨cap, rfl, hle, hkl, _, _, _⟩ := h.at_ hp
  have FF := hid (fault_ok hf)
  have HH := hid h
  have HG := hid hG
  have HP := hid hp
  have HO := hid ok
  have HN := hid hn
  have HD := hid (And.intro hd (And.intro hv hl))
  have HW := hid (And.intro hw hn2)
  have HK := hid hk
  have HBY := hid hby
  have FC := hid (fun (w' : World) (q : Kept [] w w') => fault_call (h.nil q) mv dp mv.data.length dc hw (fun u hu => UEnc.Law.short (ok.bag u hu).2))
  rw [hf] at FC
  have ew : wrap64 (x.moves + 1) = x.moves + 1 := by have := FF.out.1; have := ok.few; exact DogC.wrap64_id (by omega) (by omega)
  have q3 : (k : Int) < (cs.length : Int) := by omega
  have q4 : (0 : Int) ≤ (k : Int) := by omega
  have EW := hid ew
  unfold mvV at FC ⊢
  rw [hk] at FC ⊢
  clear h hG hp ok hn hd hv hby hl hw hn2 hk hf ew
  go_enter Tryz.func14, Tryz.ntmps14
  go_upto_region 1 with (fail)
  have KA := hid (((Kept.refl [] w).alloc (.cells #[.int .i64 mv.kind, .int .i64 (k : Int), .int .i64 mv.side, .int .i64 mv.frame, .int .i64 mv.at', .int .u32 mv.word, .int .i64 mv.n, .bool mv.hold, .slice dp mv.data.length dc] 38)).alloc (.cells #[.int .i64 0, .int .i64 0, .int .i64 0, .int .i64 0, .int .i64 0, .int .u32 0, .int .i64 0, .bool false, .slice none 0 0, .int .i64 0, .int .i64 0, .int .i64 0, .int .u32 0, .int .u32 0, .int .u32 0, .int .i64 0, .int .i64 0, .bool false, .bool false, .slice none 0 0, .int .i64 0, .int .u32 0, .int .u32 0, .int .u32 0, .int .i64 0, .int .i64 0, .bool false, .bool false, .slice none 0 0] 44))
  have MA := hid ((Has.new w 38 [.int .i64 mv.kind, .int .i64 (k : Int), .int .i64 mv.side, .int .i64 mv.frame, .int .i64 mv.at', .int .u32 mv.word, .int .i64 mv.n, .bool mv.hold, .slice dp mv.data.length dc]).alloc (.cells #[.int .i64 0, .int .i64 0, .int .i64 0, .int .i64 0, .int .i64 0, .int .u32 0, .int .i64 0, .bool false, .slice none 0 0, .int .i64 0, .int .i64 0, .int .i64 0, .int .u32 0, .int .u32 0, .int .u32 0, .int .i64 0, .int .i64 0, .bool false, .bool false, .slice none 0 0, .int .i64 0, .int .u32 0, .int .u32 0, .int .u32 0, .int .i64 0, .int .i64 0, .bool false, .bool false, .slice none 0 0] 44))
  have YA := hid (Has.new (w.alloc (.cells #[.int .i64 mv.kind, .int .i64 (k : Int), .int .i64 mv.side, .int .i64 mv.frame, .int .i64 mv.at', .int .u32 mv.word, .int .i64 mv.n, .bool mv.hold, .slice dp mv.data.length dc] 38)) 44 [.int .i64 0, .int .i64 0, .int .i64 0, .int .i64 0, .int .i64 0, .int .u32 0, .int .i64 0, .bool false, .slice none 0 0, .int .i64 0, .int .i64 0, .int .i64 0, .int .u32 0, .int .u32 0, .int .u32 0, .int .i64 0, .int .i64 0, .bool false, .bool false, .slice none 0 0, .int .i64 0, .int .u32 0, .int .u32 0, .int .u32 0, .int .i64 0, .int .i64 0, .bool false, .bool false, .slice none 0 0])
  generalize (w.alloc (.cells #[.int .i64 mv.kind, .int .i64 (k : Int), .int .i64 mv.side, .int .i64 mv.frame, .int .i64 mv.at', .int .u32 mv.word, .int .i64 mv.n, .bool mv.hold, .slice dp mv.data.length dc] 38)).alloc (.cells #[.int .i64 0, .int .i64 0, .int .i64 0, .int .i64 0, .int .i64 0, .int .u32 0, .int .i64 0, .bool false, .slice none 0 0, .int .i64 0, .int .i64 0, .int .i64 0, .int .u32 0, .int .u32 0, .int .u32 0, .int .i64 0, .int .i64 0, .bool false, .bool false, .slice none 0 0, .int .i64 0, .int .u32 0, .int .u32 0, .int .u32 0, .int .i64 0, .int .i64 0, .bool false, .bool false, .slice none 0 0] 44) = wa at KA MA YA ⊢
  obtain ⟨R, hR⟩ : ∃ R, R = w.heap.size := ⟨_, rfl⟩
  have hY : (w.alloc (.cells #[.int .i64 mv.kind, .int .i64 (k : Int), .int .i64 mv.side, .int .i64 mv.frame, .int .i64 mv.at', .int .u32 mv.word, .int .i64 mv.n, .bool mv.hold, .slice dp mv.data.length dc] 38)).heap.size = R + 1 := by rw [hR]; simp
  rw [hY] at YA
  rw [← hR] at MA ⊢
  have RR := hid (Nat.le_of_eq hR.symm)
  clear hR hY
  have m0 := MA.out.cell 0 rfl
  have m1 := MA.out.cell 1 rfl
  have m2 := MA.out.cell 2 rfl
  have m3 := MA.out.cell 3 rfl
  have m4 := MA.out.cell 4 rfl
  have m5 := MA.out.cell 5 rfl
  have m6 := MA.out.cell 6 rfl
  have m7 := MA.out.cell 7 rfl
  have m8 := MA.out.cell 8 rfl
  go_wp2_with fail
  refine (FC.out _ KA.out).mono ?_
  rintro e w1 ⟨rfl, k1⟩
  have K1 := hid (KA.out.trans k1)
  have M1 := hid (k1.has MA.out (by simp))
  have Y1 := hid (k1.has YA.out (by simp))
  clear m0 m1 m2 m3 m4 m5 m6 m7 m8 k1 MA YA KA
  have H1 := hid (HH.out.fence K1.out)
  have nR := hid (fenced_not (G := G) RR.out M1.out.lt)
  have nY := hid (fenced_not (G := G) (Nat.le_succ_of_le RR.out) Y1.out.lt)
  obtain ⟨G1, hG1⟩ : ∃ g, g = fenced G w w1 := ⟨_, rfl⟩
  have O1 := hid (show Opn G1 w1 by rw [hG1]; exact opn_fenced)
  have S1 := hid (show ∀ i, G1 i → G i by intro i q; rw [hG1] at q; exact fenced_sub HG.out K1.out.size i q)
  rw [← hG1] at H1 nR nY
  clear hG1
  have C2 := hid (H1.out.count O1.out (x.moves + 1))
  have KB := hid ((Kept.refl [b] w1).set ⟨b, 6, none⟩ (.int .i64 (x.moves + 1)) (by simp))
  have bR := hid (Ow.Has.ne M1.out H1.out.t0.top (by decide))
  have bY := hid (Ow.Has.ne Y1.out H1.out.t0.top (by decide))
  have D2 := hid (HD.out.2.1.bytes HD.out.1 ((KG.nil K1.out).trans (C2.out.1.shed (fun i _ q => S1.out i q))))
  have c6 := H1.out.t0.top.cell 6 rfl
  have z6 := H1.out.t0.top.free 6
  have bW := H1.out.t0.top.lt
  have ew := EW.out
  go_upto_region 7 with (fail)
  generalize w1.setCell ⟨b, 6, none⟩ (.int .i64 (x.moves + 1)) = w2 at *
  clear c6 z6 bW ew
  have M2 := hid (KB.out.has M1.out (by simpa using bR.out))
  have Y2 := hid (KB.out.has Y1.out (by simpa using bY.out))
  have H2 := hid C2.out.2
  have KG2 := hid ((KG.nil (G := G) K1.out).trans (C2.out.1.shed (fun i _ q => S1.out i q)))
  have O2 := hid (O1.out.kg C2.out.1)
  clear M1 Y1 H1 KB bR bY C2
  have m8 := M2.out.cell 8 rfl
  have z8 := M2.out.free 8
  have CL := hid (clone_call _ mv.data w2 D2.out HD.out.2.2)
  go_wp2_with fail
  refine CL.out.mono ?_
  rintro e w3 ⟨vc, rfl, k3, hc⟩
  have M3 := hid (k3.has M2.out (by simp))
  have mm := EncW.made_of_cloned D2.out hc
  obtain ⟨ep, ec, rfl⟩ := mm.shape
  have E3 := hid mm
  have K3 := hid k3
  have Y3 := hid (k3.has Y2.out (by simp))
  clear k3 hc mm m8 z8
  have m8 := M3.out.cell 8 rfl
  have z8 := M3.out.free 8
  go_upto_region 8 with (fail)
  have K4 := hid ((K3.out.mono (S' := [R]) (by simp)).set ⟨R, 8, none⟩ (.slice ep mv.data.length ec) (by simp))
  have k4 := hid ((Kept.refl [R] w3).set ⟨R, 8, none⟩ (.slice ep mv.data.length ec) (by simp))
  have M4 := hid (show Has _ R 38 [.int .i64 mv.kind, .int .i64 (k : Int), .int .i64 mv.side, .int .i64 mv.frame, .int .i64 mv.at', .int .u32 mv.word, .int .i64 mv.n, .bool mv.hold, .slice ep mv.data.length ec] from M3.out.set 8 (.slice ep mv.data.length ec))
  have Y4 := hid (k4.out.has Y3.out (by simp))
  have E4 := hid (E3.out.kept k4.out (fun i hi hm => by simp at hm; subst hm; have := E3.out.2 i hi; have := M2.out.lt; omega))
  generalize w3.setCell ⟨R, 8, none⟩ (.slice ep mv.data.length ec) = w4 at *
  clear M3 Y3 E3 K3 k4 m8 z8
  have m0 := M4.out.cell 0 rfl
  have m1 := M4.out.cell 1 rfl
  have m2 := M4.out.cell 2 rfl
  have m3 := M4.out.cell 3 rfl
  have m4 := M4.out.cell 4 rfl
  have m5 := M4.out.cell 5 rfl
  have m6 := M4.out.cell 6 rfl
  have m7 := M4.out.cell 7 rfl
  have m8 := M4.out.cell 8 rfl
  iterate 10 (first | go_values | go_skip | go_guarded | go_step | go_upon | go_back | (simp only [Int.not_lt, Int.not_le] at *; go_simp) | (go_values <;> (try go_simp)))
  have YN := Has.new w4 44 [.int .i64 0, .int .i64 0, .int .i64 0, .int .i64 0, .int .i64 0, .int .u32 0, .int .i64 0, .bool false, .slice none 0 0, .int .i64 0, .int .i64 0, .int .i64 0, .int .u32 0, .int .u32 0, .int .u32 0, .int .i64 0, .int .i64 0, .bool false, .bool false, .slice none 0 0, .int .i64 0, .int .u32 0, .int .u32 0, .int .u32 0, .int .i64 0, .int .i64 0, .bool false, .bool false, .slice none 0 0]
  refine wpList_put (o := 0) YN [.int .i64 mv.kind, .int .i64 (k : Int), .int .i64 mv.side, .int .i64 mv.frame, .int .i64 mv.at', .int .u32 mv.word, .int .i64 mv.n, .bool mv.hold, .slice ep mv.data.length ec, .int .i64 0, .int .i64 (-1), .int .i64 0, .int .u32 0, .int .u32 0, .int .u32 0, .int .i64 0, .int .i64 0, .bool false, .bool false, .slice none 0 0, .int .i64 0, .int .u32 0, .int .u32 0, .int .u32 0, .int .i64 0, .int .i64 0, .bool false, .bool false, .slice none 0 0] 44 (.tmp 7) (.tmp 35) rfl rfl rfl rfl (Nat.le_refl 29) infoR rfl ?_
  have ES := puts_all [.int .i64 mv.kind, .int .i64 (k : Int), .int .i64 mv.side, .int .i64 mv.frame, .int .i64 mv.at', .int .u32 mv.word, .int .i64 mv.n, .bool mv.hold, .slice ep mv.data.length ec, .int .i64 0, .int .i64 (-1), .int .i64 0, .int .u32 0, .int .u32 0, .int .u32 0, .int .i64 0, .int .i64 0, .bool false, .bool false, .slice none 0 0, .int .i64 0, .int .u32 0, .int .u32 0, .int .u32 0, .int .i64 0, .int .i64 0, .bool false, .bool false, .slice none 0 0] YN rfl
  have KP := (Kept.refl [] w4).alloc (.cells #[.int .i64 0, .int .i64 0, .int .i64 0, .int .i64 0, .int .i64 0, .int .u32 0, .int .i64 0, .bool false, .slice none 0 0, .int .i64 0, .int .i64 0, .int .i64 0, .int .u32 0, .int .u32 0, .int .u32 0, .int .i64 0, .int .i64 0, .bool false, .bool false, .slice none 0 0, .int .i64 0, .int .u32 0, .int .u32 0, .int .u32 0, .int .i64 0, .int .i64 0, .bool false, .bool false, .slice none 0 0] 44)
  have B4 := hid M4.out.lt
  have K6 := hid ((K4.out.alloc (.cells #[.int .i64 0, .int .i64 0, .int .i64 0, .int .i64 0, .int .i64 0, .int .u32 0, .int .i64 0, .bool false, .slice none 0 0, .int .i64 0, .int .i64 0, .int .i64 0, .int .u32 0, .int .u32 0, .int .u32 0, .int .i64 0, .int .i64 0, .bool false, .bool false, .slice none 0 0, .int .i64 0, .int .u32 0, .int .u32 0, .int .u32 0, .int .i64 0, .int .i64 0, .bool false, .bool false, .slice none 0 0] 44)).fresh ES.2 (by intro i hi hl; simp at hi; have := K4.out.size; omega))
  have N6 := hid (KP.fresh ES.2 (by intro i hi hl; simp at hi; omega))
  have E6 := hid ES.1
  clear ES YN KP m0 m1 m2 m3 m4 m5 m6 m7 m8
  generalize (w4.alloc (.cells #[.int .i64 0, .int .i64 0, .int .i64 0, .int .i64 0, .int .i64 0, .int .u32 0, .int .i64 0, .bool false, .slice none 0 0, .int .i64 0, .int .i64 0, .int .i64 0, .int .u32 0, .int .u32 0, .int .u32 0, .int .i64 0, .int .i64 0, .bool false, .bool false, .slice none 0 0, .int .i64 0, .int .u32 0, .int .u32 0, .int .u32 0, .int .i64 0, .int .i64 0, .bool false, .bool false, .slice none 0 0] 44)).setCells w4.heap.size 0 [.int .i64 mv.kind, .int .i64 (k : Int), .int .i64 mv.side, .int .i64 mv.frame, .int .i64 mv.at', .int .u32 mv.word, .int .i64 mv.n, .bool mv.hold, .slice ep mv.data.length ec, .int .i64 0, .int .i64 (-1), .int .i64 0, .int .u32 0, .int .u32 0, .int .u32 0, .int .i64 0, .int .i64 0, .bool false, .bool false, .slice none 0 0, .int .i64 0, .int .u32 0, .int .u32 0, .int .u32 0, .int .i64 0, .int .i64 0, .bool false, .bool false, .slice none 0 0] = w6 at K6 N6 E6 ⊢
  obtain ⟨Y, hYY⟩ : ∃ Y, Y = w4.heap.size := ⟨_, rfl⟩
  rw [← hYY] at E6 ⊢
  have YW := hid (show w2.heap.size ≤ Y by have := K4.out.size; omega)
  have NE := hid (show R + 1 ≠ Y by have := Y2.out.lt; have := K4.out.size; omega)
  clear hYY
  have M6 := hid (N6.out.has M4.out (by simp))
  have Y6 := hid (N6.out.has Y4.out (by simp))
  have D6 := hid (E4.out.kept N6.out (by simp))
  clear M4 Y4 E4 K4 N6 B4
  have H6 := hid (H2.out.frame K6.out (by intro i hi hl; simp at hi; subst hi; exact nR.out))
  go_upto_region 9 with (fail)
  have SK := hid (show ∀ w', Kept [] w6 w' → (w'.cell? ⟨b, 3, none⟩ = some (.slice (some ⟨ca, 0, none⟩) cs.length cap) ∧ w'.cell? ⟨R, 1, none⟩ = some (.int .i64 (k : Int)) ∧ w'.cell? ⟨ca, k * 3, none⟩ = some (.pointer (some ⟨p.h, 0, none⟩)) ∧ w'.cell? ⟨ca, k * 3 + 1, none⟩ = some (.pointer (some ⟨p.d, 0, none⟩)) ∧ w'.cell? ⟨ca, k * 3 + 2, none⟩ = some (.pointer (some ⟨p.m, 0, none⟩))) from fun w' q => ⟨(q.has H6.out.t0.top (by simp)).cell 3 rfl, (q.has M6.out (by simp)).cell 1 rfl, ((H6.out.nil q).at0 HP.out).1, ((H6.out.nil q).at0 HP.out).2.1, ((H6.out.nil q).at0 HP.out).2.2⟩)
  have dd := SK.out _ ((Kept.refl [] w6).drew)
  have KZ := hid ((Kept.refl [] w6).alloc (.cells #[.pointer none, .pointer none, .pointer none] 92))
  have KC := hid (((Kept.refl [] w6).alloc (.cells #[.pointer (some ⟨p.h, 0, none⟩), .pointer (some ⟨p.d, 0, none⟩), .pointer (some ⟨p.m, 0, none⟩)] 92)))
  go_region_held3 (fun w' => w'.cell? ⟨b, 3, none⟩ = some (.slice (some ⟨ca, 0, none⟩) cs.length cap) ∧ w'.cell? ⟨R, 1, none⟩ = some (.int .i64 (k : Int)) ∧ w'.cell? ⟨ca, k * 3, none⟩ = some (.pointer (some ⟨p.h, 0, none⟩)) ∧ w'.cell? ⟨ca, k * 3 + 1, none⟩ = some (.pointer (some ⟨p.d, 0, none⟩)) ∧ w'.cell? ⟨ca, k * 3 + 2, none⟩ = some (.pointer (some ⟨p.m, 0, none⟩))) (first | with_reducible assumption | with_reducible exact SK.out _ KZ.out.drew | with_reducible exact SK.out _ KC.out.drew | with_reducible exact SK.out _ KC.out | go_keep) (fail)
  clear dd
  change Exit.then _ _ Exit.normal _ (w6.alloc (.cells #[.pointer (some ⟨p.h, 0, none⟩), .pointer (some ⟨p.d, 0, none⟩), .pointer (some ⟨p.m, 0, none⟩)] 92)).drew
  have CB : Hid (Has (w6.alloc (.cells #[.pointer (some ⟨p.h, 0, none⟩), .pointer (some ⟨p.d, 0, none⟩), .pointer (some ⟨p.m, 0, none⟩)] 92)).drew w6.heap.size 92 [.pointer (some ⟨p.h, 0, none⟩), .pointer (some ⟨p.d, 0, none⟩), .pointer (some ⟨p.m, 0, none⟩)]) := hid ((Has.new w6 92 [.pointer (some ⟨p.h, 0, none⟩), .pointer (some ⟨p.d, 0, none⟩), .pointer (some ⟨p.m, 0, none⟩)]).drew)
  have K7 := hid ((K6.out.alloc (.cells #[.pointer (some ⟨p.h, 0, none⟩), .pointer (some ⟨p.d, 0, none⟩), .pointer (some ⟨p.m, 0, none⟩)] 92)).drew)
  have M7 := hid (KC.out.drew.has M6.out (by simp))
  have Y7 := hid (KC.out.drew.has Y6.out (by simp))
  have E7 := hid (KC.out.drew.has E6.out (by simp))
  have D7 := hid ((D6.out.kept KC.out.drew (by simp)).bytes)
  generalize (w6.alloc (.cells #[.pointer (some ⟨p.h, 0, none⟩), .pointer (some ⟨p.d, 0, none⟩), .pointer (some ⟨p.m, 0, none⟩)] 92)).drew = w7 at CB K7 M7 Y7 E7 D7 ⊢
  obtain ⟨Z, hZ⟩ : ∃ Z, Z = w6.heap.size := ⟨_, rfl⟩
  rw [← hZ] at CB ⊢
  have ZW := hid (show w2.heap.size ≤ Z by have := K6.out.size; omega)
  clear hZ SK KZ KC M6 Y6 E6 D6 H6
  have H7 := hid ((H2.out.mono (G' := fenced G1 w2 w7) (fun i hi q => .inl ⟨q, hi⟩)).frame K7.out (by intro i hi hl; simp at hi; subst hi; exact fenced_not2 nR.out M7.out.lt))
  have nR7 := hid (fenced_not2 (w := w2) nR.out M7.out.lt)
  have nY7 := hid (fenced_not2 (w := w2) nY.out Y7.out.lt)
  have nY27 := hid (fenced_not (G := G1) YW.out E7.out.lt)
  have nZ7 := hid (fenced_not (G := G1) ZW.out CB.out.lt)
  obtain ⟨G2, hG2⟩ : ∃ g, g = fenced G1 w2 w7 := ⟨_, rfl⟩
  have O7 := hid (show Opn G2 w7 by rw [hG2]; exact opn_fenced)
  have S7 := hid (show ∀ i, G2 i → G i by intro i q; rw [hG2] at q; exact S1.out i (fenced_sub O2.out K7.out.size i q))
  rw [← hG2] at H7 nR7 nY7 nY27 nZ7
  clear hG2
  have GR := hid (HG.out R RR.out)
  have GY := hid (HG.out Y (by have := KG2.out.size; have := YW.out; omega))
  have KW7 := hid (KG2.out.trans (KG.one K7.out GR.out))
  obtain ⟨x1, hx1⟩ : ∃ x1, x1 = ({ x with moves := x.moves + 1 } : Wd) := ⟨_, rfl⟩
  rw [← hx1] at H7
  have X1 := hid hx1
  clear hx1
  have MI := hid (show Mid G G2 w w7 b nh nd mx (.slice (some ⟨ca, 0, none⟩) cs.length cap) ca cs bb n x1 R Y Z k mv ep ec 0 (-1) p from ⟨⟨n, Nat.le_refl _, _, _, _, _, H7.out⟩, KW7.out, M7.out, Y7.out, E7.out, CB.out, NE.out⟩)
  have m0 := M7.out.cell 0 rfl
  go_upto_block 0 with (fail)
  have HO1 := hid (show WOk x1 from by
    have := FF.out.1
    rw [X1.out]
    exact ⟨HO.out.cn, HO.out.bag, by have := HO.out.few; show (x.bag.length : Int) ≤ x.moves + 1; omega, by show x.moves + 1 ≤ 4096; omega, HO.out.cns⟩)
  have BL1 := hid (show x1.bag.length < 4096 from by rw [X1.out]; have := FF.out.1; have := HO.out.few; show x.bag.length < 4096; omega)
  obtain ⟨st, hst⟩ : ∃ st, st = (x1.cn k).play mv (x1.bag.getD mv.frame.toNat U.zero) := ⟨_, rfl⟩
  have ST := hid hst
  have STX := hid (show st = x.step mv by rw [hst, X1.out]; unfold Wd.step; rw [HK.out]; rfl)
  have SX := hid (show sentOf x1 st = sentOf x st by rw [X1.out]; rfl)
  clear hst
  go_cut [] (fun wx => Mid G G2 w wx b nh nd mx (.slice (some ⟨ca, 0, none⟩) cs.length cap) ca cs bb (n + 5) (after x1 k st) R Y Z k mv ep ec st.2.2 (sentOf x st) p ∧ w7.heap.size ≤ wx.heap.size)
  case first =>
    by_cases h1 : mv.kind = 1
    · have e1 : (mv.kind == 1) = true := by simp [h1]
      have m1 := M7.out.cell 1 rfl
      have m2 := M7.out.cell 2 rfl
      have m3 := M7.out.cell 3 rfl
      have m4 := M7.out.cell 4 rfl
      have m5 := M7.out.cell 5 rfl
      have m6 := M7.out.cell 6 rfl
      have m7 := M7.out.cell 7 rfl
      have m8 := M7.out.cell 8 rfl
      have z0 := CB.out.cell 0 rfl
      have z1 := CB.out.cell 1 rfl
      have z2 := CB.out.cell 2 rfl
      have SN := hid (show sentOf x st = -1 by unfold sentOf; rw [ST.out, play_none (by omega) (by omega) (by omega)]; rfl)
      have WC := write_any (u := x1.bag.getD mv.frame.toNat U.zero) O7.out H7.out HP.out HO1.out ep ec D7.out HD.out.2.2 h1
      try unfold mvV at WC
      rw [← ST.out] at WC
      try rw [HK.out] at WC
      have WC := hid WC
      clear h1
      go_wp2_with fail
      refine WC.out.mono ?_
      rintro e wy ⟨rfl, sp⟩
      have SZ := hid sp.1.size
      have MS := MI.out.step sp S7.out nR7.out nY7.out nY27.out nZ7.out
      have d9 := MS.y2.cell 9 rfl
      have e9 := MS.y2.free 9
      have l9 := MS.y2.lt
      have MS := hid MS
      go_wp2_with fail
      go_meet
      rw [SN.out]
      exact ⟨MS.out.setc nY27.out GY.out _, by have := SZ.out; simpa using this⟩
    have e1 : (mv.kind == 1) = false := by simp [h1]
    by_cases h2 : mv.kind = 2
    · have e2 : (mv.kind == 2) = true := by simp [h2]
      have m1 := M7.out.cell 1 rfl
      have m2 := M7.out.cell 2 rfl
      have m3 := M7.out.cell 3 rfl
      have m4 := M7.out.cell 4 rfl
      have m5 := M7.out.cell 5 rfl
      have m6 := M7.out.cell 6 rfl
      have m7 := M7.out.cell 7 rfl
      have m8 := M7.out.cell 8 rfl
      have z0 := CB.out.cell 0 rfl
      have z1 := CB.out.cell 1 rfl
      have z2 := CB.out.cell 2 rfl
      have WC := send_any (u := x1.bag.getD mv.frame.toNat U.zero) O7.out H7.out HP.out HO1.out (by have := HN.out; omega) BL1.out h2
      rw [← ST.out, SX.out] at WC
      have WC := hid WC
      clear h1 h2
      go_wp2_with fail
      refine WC.out.mono ?_
      rintro e wy ⟨rfl, sp⟩
      have SZ := hid sp.1.size
      have MS := MI.out.step sp S7.out nR7.out nY7.out nY27.out nZ7.out
      have d9 := MS.y2.cell 9 rfl
      have e9 := MS.y2.free 9
      have d10 := MS.y2.cell 10 rfl
      have e10 := MS.y2.free 10
      have l9 := MS.y2.lt
      have MS := hid MS
      go_wp2_with fail
      go_meet
      exact ⟨(MS.out.sets nY27.out GY.out _).setc nY27.out GY.out _, by have := SZ.out; simpa using this⟩
    have e2 : (mv.kind == 2) = false := by simp [h2]
    by_cases h3 : mv.kind = 3
    · have e3 : (mv.kind == 3) = true := by simp [h3]
      obtain ⟨i, hi⟩ : ∃ i : Nat, mv.frame = (i : Int) := ⟨mv.frame.toNat, by have := FF.out.2.2.2.2.1 (.inl h3); omega⟩
      have hib : i < x1.bag.length := by have := FF.out.2.2.2.2.1 (.inl h3); rw [X1.out]; show i < x.bag.length; omega
      have ei : mv.frame.toNat = i := by omega
      have BC := hid (fun (w' : World) (h : IsB (own G2 (relab lab w1 0) 1) w' bb x1.bag) => b_get h i hib)
      have UO := hid (bag_at HO1.out.bag i hib)
      have M7F := hid (show Has w7 R 38 [.int .i64 mv.kind, .int .i64 (k : Int), .int .i64 mv.side, .int .i64 (i : Int), .int .i64 mv.at', .int .u32 mv.word, .int .i64 mv.n, .bool mv.hold, .slice ep mv.data.length ec] by have h := M7.out; rw [hi] at h; exact h)
      have HI := hid hi
      have STI := hid (show st = (x1.cn k).play mv (x1.bag.getD i U.zero) by rw [← ei]; exact ST.out)
      have H3K := hid h3
      clear h1 h2 h3 hi hib ei
      go_upto_region 17 with (fail)
      have SK := hid (show ∀ w', Kept [] w7 w' → (w'.cell? ⟨b, 4, none⟩ = some (.pointer (some ⟨bb, 0, none⟩)) ∧ w'.cell? ⟨R, 3, none⟩ = some (.int .i64 (i : Int))) from fun w' q => ⟨(q.has H7.out.t0.top (by simp)).cell 4 rfl, (q.has M7F.out (by simp)).cell 3 rfl⟩)
      have dd := SK.out _ ((Kept.refl [] w7).drew)
      have bt := H7.out.t0.top.lt
      have br := M7.out.lt
      go_region_held3 (fun w' => w'.cell? ⟨b, 4, none⟩ = some (.pointer (some ⟨bb, 0, none⟩)) ∧ w'.cell? ⟨R, 3, none⟩ = some (.int .i64 (i : Int))) (with_reducible assumption) ((go_at_call 38; with_reducible refine (BC.out _ (H7.out.bag.frame ((Kept.refl [] w7).drew) (by simp))).mono ?_; rintro e wc ⟨y, rfl, kc, mm⟩; have MM := hid mm; have KC := hid (((Kept.refl [] w7).drew).trans kc); have dd2 := SK.out _ (((Kept.refl [] w7).drew).trans kc); clear kc mm))
      clear dd dd2 bt br m0
      have M8 := hid (KC.out.has M7F.out (by simp))
      have m0 := M8.out.cell 0 rfl
      have m1 := M8.out.cell 1 rfl
      have m2 := M8.out.cell 2 rfl
      have m3 := M8.out.cell 3 rfl
      have m4 := M8.out.cell 4 rfl
      have m5 := M8.out.cell 5 rfl
      have m6 := M8.out.cell 6 rfl
      have m7 := M8.out.cell 7 rfl
      have m8 := M8.out.cell 8 rfl
      have H8 := hid (H7.out.fence KC.out)
      have MM2 := hid (show Made w7 wc _ _ from ⟨MM.out.1, MM.out.2⟩)
      have DC := deliver_any (mv := mv) opn_fenced H8.out HP.out HO1.out (by have := HN.out; omega) BL1.out ep mv.data.length ec HK.out UO.out _ MM.out.bytes (away_made MM2.out (frame_ne _)) H3K.out
      unfold mvV at DC
      rw [← STI.out, SX.out, HK.out, HI.out] at DC
      have DC := hid DC
      go_wp2_with fail
      refine DC.out.mono ?_
      rintro e wy ⟨rfl, sp⟩
      have SZ := hid (sp.back O7.out KC.out).1.size
      have MS := MI.out.step (sp.back O7.out KC.out) S7.out nR7.out nY7.out nY27.out nZ7.out
      have d9 := MS.y2.cell 9 rfl
      have e9 := MS.y2.free 9
      have d10 := MS.y2.cell 10 rfl
      have e10 := MS.y2.free 10
      have l9 := MS.y2.lt
      have MS := hid MS
      go_wp2_with fail
      go_meet
      exact ⟨(MS.out.sets nY27.out GY.out _).setc nY27.out GY.out _, by have := SZ.out; simpa using this⟩
    have e3 : (mv.kind == 3) = false := by simp [h3]
    by_cases h4 : mv.kind = 4
    · have e4 : (mv.kind == 4) = true := by simp [h4]
      obtain ⟨i, hi⟩ : ∃ i : Nat, mv.frame = (i : Int) := ⟨mv.frame.toNat, by have := FF.out.2.2.2.2.1 (.inr h4); omega⟩
      have hib : i < x1.bag.length := by have := FF.out.2.2.2.2.1 (.inr h4); rw [X1.out]; show i < x.bag.length; omega
      have ei : mv.frame.toNat = i := by omega
      have UO := hid (bag_at HO1.out.bag i hib)
      have FB := FF.out.2.2.2.2.2.2.2 h4
      obtain ⟨zz, hz⟩ : ∃ z : Nat, mv.word = (z : Int) := ⟨mv.word.toNat, by have := HW.out.1; omega⟩
      have hz2 : zz < 2 ^ 32 := by have := HW.out.1; omega
      have bd : ¬ BuW.badBurst (UEnc.frame (x1.bag.getD i U.zero)).length mv.at' zz := by
        intro q
        have q2 := (burst_bad _ _ _).1 q
        rw [← hz, ← ei] at q2
        unfold burstErr at FB
        have e : x1.bag = x.bag := by rw [X1.out]
        rw [e] at q2
        rw [if_pos q2] at FB
        simp at FB
      unfold BuW.badBurst at bd
      obtain ⟨qq, hq⟩ : ∃ q : Nat, mv.at' = (q : Int) := ⟨mv.at'.toNat, by omega⟩
      have l8 : (x1.bag.getD i U.zero).data.length ≤ 8 := UEnc.Law.short UO.out.2
      have BC := hid (fun (w' : World) (h : IsB (own G2 (relab lab w1 0) 1) w' bb x1.bag) => b_garbled h i hib qq zz hz2 l8 (by omega) (by omega))
      have fl := frame_len (x1.bag.getD i U.zero)
      obtain ⟨cb1, cb2, cb3⟩ := Bu.crc_burst (frame_by UO.out.1.data) (crc_sealed) (at' := qq) (w := zz) (by omega) hz2 (by omega)
      have cb4 : 19 ≤ (Bu.xl (UEnc.frame (x1.bag.getD i U.zero)) (Bu.bst (UEnc.frame (x1.bag.getD i U.zero)).length qq zz)).length ∧ (Bu.xl (UEnc.frame (x1.bag.getD i U.zero)) (Bu.bst (UEnc.frame (x1.bag.getD i U.zero)).length qq zz)).length ≤ 27 := by rw [cb3, fl]; omega
      have CR := hid (And.intro cb1 (And.intro cb2 cb4))
      have M7F := hid (show Has w7 R 38 [.int .i64 mv.kind, .int .i64 (k : Int), .int .i64 mv.side, .int .i64 (i : Int), .int .i64 (qq : Int), .int .u32 (zz : Int), .int .i64 mv.n, .bool mv.hold, .slice ep mv.data.length ec] by have h := M7.out; rw [hi, hz, hq] at h; exact h)
      have HI := hid (And.intro hi (And.intro hz hq))
      have STI := hid (show st = (x1.cn k).play mv (x1.bag.getD mv.frame.toNat U.zero) from ST.out)
      have H4K := hid h4
      have NN := hid (show ∀ l : List Int, 19 ≤ l.length → l ≠ [] from fun l h e => by rw [e] at h; simp at h)
      clear h1 h2 h3 h4 hi hib ei FB hz hz2 bd hq l8 fl cb1 cb2 cb3 cb4
      go_upto_region 20 with (fail)
      have SK := hid (show ∀ w', Kept [] w7 w' → (w'.cell? ⟨b, 4, none⟩ = some (.pointer (some ⟨bb, 0, none⟩)) ∧ w'.cell? ⟨R, 3, none⟩ = some (.int .i64 (i : Int)) ∧ w'.cell? ⟨R, 4, none⟩ = some (.int .i64 (qq : Int)) ∧ w'.cell? ⟨R, 5, none⟩ = some (.int .u32 (zz : Int))) from fun w' q => ⟨(q.has H7.out.t0.top (by simp)).cell 4 rfl, (q.has M7F.out (by simp)).cell 3 rfl, (q.has M7F.out (by simp)).cell 4 rfl, (q.has M7F.out (by simp)).cell 5 rfl⟩)
      have dd := SK.out _ ((Kept.refl [] w7).drew)
      have bt := H7.out.t0.top.lt
      have br := M7.out.lt
      go_region_held3 (fun w' => w'.cell? ⟨b, 4, none⟩ = some (.pointer (some ⟨bb, 0, none⟩)) ∧ w'.cell? ⟨R, 3, none⟩ = some (.int .i64 (i : Int)) ∧ w'.cell? ⟨R, 4, none⟩ = some (.int .i64 (qq : Int)) ∧ w'.cell? ⟨R, 5, none⟩ = some (.int .u32 (zz : Int))) (with_reducible assumption) ((go_at_call 40; with_reducible refine (BC.out _ (H7.out.bag.frame ((Kept.refl [] w7).drew) (by simp))).mono ?_; rintro e wc ⟨y, rfl, kc, mm⟩; have MM := hid mm; have KC := hid (((Kept.refl [] w7).drew).trans kc); have dd2 := SK.out _ (((Kept.refl [] w7).drew).trans kc); clear kc mm))
      clear dd dd2 bt br m0
      have M8 := hid (KC.out.has M7F.out (by simp))
      have m0 := M8.out.cell 0 rfl
      have m1 := M8.out.cell 1 rfl
      have m2 := M8.out.cell 2 rfl
      have m3 := M8.out.cell 3 rfl
      have m4 := M8.out.cell 4 rfl
      have m5 := M8.out.cell 5 rfl
      have m6 := M8.out.cell 6 rfl
      have m7 := M8.out.cell 7 rfl
      have m8 := M8.out.cell 8 rfl
      have H8 := hid (H7.out.fence KC.out)
      have MM2 := hid (show Made w7 wc _ _ from ⟨MM.out.1, MM.out.2⟩)
      have DC := garble_any (u := x1.bag.getD mv.frame.toNat U.zero) (mv := mv) opn_fenced H8.out HP.out HO1.out (by have := HN.out; omega) BL1.out ep mv.data.length ec HK.out _ CR.out.2.1 CR.out.2.2.1 CR.out.2.2.2 CR.out.1 _ MM.out.bytes (away_made MM2.out (NN.out _ CR.out.2.2.1)) H4K.out
      unfold mvV at DC
      rw [← STI.out, SX.out, HK.out, HI.out.1, HI.out.2.1, HI.out.2.2] at DC
      have DC := hid DC
      go_wp2_with fail
      refine DC.out.mono ?_
      rintro e wy ⟨rfl, sp⟩
      have SZ := hid (sp.back O7.out KC.out).1.size
      have MS := MI.out.step (sp.back O7.out KC.out) S7.out nR7.out nY7.out nY27.out nZ7.out
      have d9 := MS.y2.cell 9 rfl
      have e9 := MS.y2.free 9
      have d10 := MS.y2.cell 10 rfl
      have e10 := MS.y2.free 10
      have l9 := MS.y2.lt
      have MS := hid MS
      go_wp2_with fail
      go_meet
      exact ⟨(MS.out.sets nY27.out GY.out _).setc nY27.out GY.out _, by have := SZ.out; simpa using this⟩
    have e4 : (mv.kind == 4) = false := by simp [h4]
    by_cases h8 : mv.kind = 8
    · have e8 : (mv.kind == 8) = true := by simp [h8]
      have m1 := M7.out.cell 1 rfl
      have m2 := M7.out.cell 2 rfl
      have m3 := M7.out.cell 3 rfl
      have m4 := M7.out.cell 4 rfl
      have m5 := M7.out.cell 5 rfl
      have m6 := M7.out.cell 6 rfl
      have m7 := M7.out.cell 7 rfl
      have m8 := M7.out.cell 8 rfl
      have z0 := CB.out.cell 0 rfl
      have z1 := CB.out.cell 1 rfl
      have z2 := CB.out.cell 2 rfl
      have SN := hid (show sentOf x st = -1 by unfold sentOf; rw [ST.out, play_none (by omega) (by omega) (by omega)]; rfl)
      have WC := arm_any (u := x1.bag.getD mv.frame.toNat U.zero) O7.out H7.out HP.out (FF.out.2.2.2.2.2.2.1 (.inr h8)) HW.out.2 h8
      try unfold mvV at WC
      rw [← ST.out] at WC
      try rw [HK.out] at WC
      have WC := hid WC
      clear h1 h2 h3 h4 h8
      go_wp2_with fail
      refine WC.out.mono ?_
      rintro e wy ⟨rfl, sp⟩
      have SZ := hid sp.1.size
      have MS := MI.out.step sp S7.out nR7.out nY7.out nY27.out nZ7.out
      have d9 := MS.y2.cell 9 rfl
      have e9 := MS.y2.free 9
      have l9 := MS.y2.lt
      have MS := hid MS
      go_wp2_with fail
      go_meet
      rw [SN.out]
      exact ⟨MS.out.setc nY27.out GY.out _, by have := SZ.out; simpa using this⟩
    · have e8 : (mv.kind == 8) = false := by simp [h8]
      have m1 := M7.out.cell 1 rfl
      have m2 := M7.out.cell 2 rfl
      have m3 := M7.out.cell 3 rfl
      have m4 := M7.out.cell 4 rfl
      have m5 := M7.out.cell 5 rfl
      have m6 := M7.out.cell 6 rfl
      have m7 := M7.out.cell 7 rfl
      have m8 := M7.out.cell 8 rfl
      have z0 := CB.out.cell 0 rfl
      have z1 := CB.out.cell 1 rfl
      have z2 := CB.out.cell 2 rfl
      have SN := hid (show sentOf x st = -1 by unfold sentOf; rw [ST.out, play_none (by omega) (by omega) (by omega)]; rfl)
      have WC := touch_any (u := x1.bag.getD mv.frame.toNat U.zero) O7.out H7.out HP.out HO1.out (by have := HN.out; omega) ep mv.data.length ec HK.out (by have a1 := FF.out.2.1; have a2 := FF.out.2.2.2.2.2.1; have a3 := FF.out.2.2.2.2.2.2.1; omega) HW.out.2 (fun q => (FF.out.2.2.2.2.2.1 q).2) (by have a1 := FF.out.2.1; omega)
      try unfold mvV at WC
      rw [← ST.out] at WC
      try rw [HK.out] at WC
      have WC := hid WC
      clear h1 h2 h3 h4 h8
      go_wp2_with fail
      refine WC.out.mono ?_
      rintro e wy ⟨rfl, sp⟩
      have SZ := hid sp.1.size
      have MS := MI.out.step sp S7.out nR7.out nY7.out nY27.out nZ7.out
      have d9 := MS.y2.cell 9 rfl
      have e9 := MS.y2.free 9
      have l9 := MS.y2.lt
      have MS := hid MS
      go_wp2_with fail
      go_meet
      rw [SN.out]
      exact ⟨MS.out.setc nY27.out GY.out _, by have := SZ.out; simpa using this⟩
  have CK := hid (show COk st.1 from by
    rw [ST.out]
    exact (HO1.out.cn k (at_k H7.out HP.out)).play ((H7.out.dev k p HP.out).mok) HBY.out (rng_at HO1.out.bag _))
  have MZ := hid hcut.1
  have KC9 := hid hcut.2
  obtain ⟨m9, hm9, lab9, fv9, fa9, xs9, h9⟩ := id hcut.1.wf
  clear hcut
  have CN := hid (show (after x1 k st).cn k = st.1 from setC_at _ _ _ (at_k H7.out HP.out))
  have hh := h9.host k p HP.out
  have hdv := h9.dev k p HP.out
  rw [CN.out] at hh hdv
  have SH := hid (fun (w' : World) (q : Kept [] wc w') => host_see ((part_host p.h st.1.h).frame hh q (by simp)) (by rw [CK.out.h.vn]; exact CK.out.h.p.inn))
  have SD := hid (fun (w' : World) (q : Kept [] wc w') => devM_see ((part_dev p.d p.m p.mb st.1.d).frame hdv q (by simp)) (by rw [CK.out.d.vn]; exact CK.out.d.p.out))
  have L8 := hid (host_len hh (by rw [CK.out.h.vn]; exact CK.out.h.p.inn.2))
  have L9 := hid (dev_len hdv (by rw [CK.out.d.vn]; exact CK.out.d.p.out.2))
  have H9 := hid h9
  have HM9 := hid hm9
  have O7C := hid (show Opn G2 wc from O7.out.step KC9.out)
  clear hh hdv h9 hm9 MI m0 H7 M7 Y7 E7 CB D7
  have z0 := MZ.out.z.cell 0 rfl
  have z1 := MZ.out.z.cell 1 rfl
  go_upto_region 24 with (fail)
  have SK := hid (show ∀ w', Kept [] wc w' → (w'.cell? ⟨Z, 0, none⟩ = some (.pointer (some ⟨p.h, 0, none⟩)) ∧ w'.cell? ⟨Z, 1, none⟩ = some (.pointer (some ⟨p.d, 0, none⟩))) from fun w' q => ⟨(q.has MZ.out.z (by simp)).cell 0 rfl, (q.has MZ.out.z (by simp)).cell 1 rfl⟩)
  have dd := SK.out _ ((Kept.refl [] wc).drew)
  clear z0 z1
  have hne1 : Z ≠ Y := Ow.Has.ne MZ.out.z MZ.out.y2 (by decide)
  have hne2 : Y ≠ Z := Ne.symm hne1
  go_region_held3 (fun w' => w'.cell? ⟨Z, 0, none⟩ = some (.pointer (some ⟨p.h, 0, none⟩)) ∧ w'.cell? ⟨Z, 1, none⟩ = some (.pointer (some ⟨p.d, 0, none⟩))) (first | with_reducible assumption | go_keep) (first | (go_at_call 43; (with_reducible refine (SH.out _ ((Kept.refl [] wc).drew)).mono ?_); rintro e w8 ⟨s8, rfl, k8, o8⟩; obtain ⟨kk8, hk8, ho8⟩ := id o8; obtain ⟨cp8, cu8, rfl, _⟩ := id ho8; (try unfold eval'); have K8 := hid (((Kept.refl [] wc).drew).trans k8); have O8 := hid o8; have dd2 := SK.out _ K8.out; clear k8 o8 hk8 ho8) | (go_at_call 44; (with_reducible refine (SD.out _ K8.out).mono ?_); rintro e w9 ⟨s9, rfl, k9, o9⟩; obtain ⟨kk9, hk9, ho9⟩ := id o9; obtain ⟨cp9, cu9, rfl, _⟩ := id ho9; (try unfold eval'); have K9 := hid (K8.out.trans k9); have k89 := hid k9; have O9 := hid o9; have dd3 := SK.out _ K9.out; obtain ⟨y11, f11, y12, f12, y13, f13, y14, f14, y15, f15, y16, f16, y17, f17, y18, f18, y19, f19, y20, f20, y21, f21, y22, f22, y23, f23, y24, f24, y25, f25, y26, f26, y27, f27, y28, f28⟩ := c18 (K9.out.has MZ.out.y2 (by simp)); clear k9 o9 hk9 ho9))
  clear dd dd2 dd3 y11 f11 y12 f12 y13 f13 y14 f14 y15 f15 y16 f16 y17 f17 y18 f18 y19 f19 y20 f20 y21 f21 y22 f22 y23 f23 y24 f24 y25 f25 y26 f26 y27 f27 y28 f28 hne1 hne2
  change Exit.then _ _ Exit.normal _ (w9.setCells Y 11 [.int .i64 st.1.h.see.state, .int .u32 st.1.h.see.ses, .int .u32 st.1.h.see.num, .int .u32 st.1.h.see.sent, .int .i64 st.1.h.see.since, .int .i64 st.1.h.see.latched, .bool st.1.h.see.request, .bool st.1.h.see.on, .slice (some ⟨kk8, 0, none⟩) st.1.h.v.out.length cp8, .int .i64 st.1.d.see.state, .int .u32 st.1.d.see.ses, .int .u32 st.1.d.see.num, .int .u32 st.1.d.see.sent, .int .i64 st.1.d.see.since, .int .i64 st.1.d.see.latched, .bool st.1.d.see.request, .bool st.1.d.see.on, .slice (some ⟨kk9, 0, none⟩) st.1.d.v.out.length cp9])
  have ES := puts_has [.int .i64 st.1.h.see.state, .int .u32 st.1.h.see.ses, .int .u32 st.1.h.see.num, .int .u32 st.1.h.see.sent, .int .i64 st.1.h.see.since, .int .i64 st.1.h.see.latched, .bool st.1.h.see.request, .bool st.1.h.see.on, .slice (some ⟨kk8, 0, none⟩) st.1.h.v.out.length cp8, .int .i64 st.1.d.see.state, .int .u32 st.1.d.see.ses, .int .u32 st.1.d.see.num, .int .u32 st.1.d.see.sent, .int .i64 st.1.d.see.since, .int .i64 st.1.d.see.latched, .bool st.1.d.see.request, .bool st.1.d.see.on, .slice (some ⟨kk9, 0, none⟩) st.1.d.v.out.length cp9] w9 11 _ (K9.out.has MZ.out.y2 (by simp)) (Nat.le_refl 29)
  have Y10 := hid (show Has _ Y 44 [.int .i64 mv.kind, .int .i64 (k : Int), .int .i64 mv.side, .int .i64 mv.frame, .int .i64 mv.at', .int .u32 mv.word, .int .i64 mv.n, .bool mv.hold, .slice ep mv.data.length ec, .int .i64 st.2.2, .int .i64 (sentOf x st), .int .i64 st.1.h.see.state, .int .u32 st.1.h.see.ses, .int .u32 st.1.h.see.num, .int .u32 st.1.h.see.sent, .int .i64 st.1.h.see.since, .int .i64 st.1.h.see.latched, .bool st.1.h.see.request, .bool st.1.h.see.on, .slice (some ⟨kk8, 0, none⟩) st.1.h.v.out.length cp8, .int .i64 st.1.d.see.state, .int .u32 st.1.d.see.ses, .int .u32 st.1.d.see.num, .int .u32 st.1.d.see.sent, .int .i64 st.1.d.see.since, .int .i64 st.1.d.see.latched, .bool st.1.d.see.request, .bool st.1.d.see.on, .slice (some ⟨kk9, 0, none⟩) st.1.d.v.out.length cp9] from ES.1)
  have K10 := hid ES.2
  clear ES
  generalize w9.setCells Y 11 [.int .i64 st.1.h.see.state, .int .u32 st.1.h.see.ses, .int .u32 st.1.h.see.num, .int .u32 st.1.h.see.sent, .int .i64 st.1.h.see.since, .int .i64 st.1.h.see.latched, .bool st.1.h.see.request, .bool st.1.h.see.on, .slice (some ⟨kk8, 0, none⟩) st.1.h.v.out.length cp8, .int .i64 st.1.d.see.state, .int .u32 st.1.d.see.ses, .int .u32 st.1.d.see.num, .int .u32 st.1.d.see.sent, .int .i64 st.1.d.see.since, .int .i64 st.1.d.see.latched, .bool st.1.d.see.request, .bool st.1.d.see.on, .slice (some ⟨kk9, 0, none⟩) st.1.d.v.out.length cp9] = w10 at Y10 K10 ⊢
  have KQ := hid ((K9.out.mono (S' := [Y]) (by simp)).trans K10.out)
  have nRY := hid (Ow.Has.ne MZ.out.r MZ.out.y2 (by decide))
  have M10 := hid (KQ.out.has MZ.out.r (by simpa using nRY.out))
  have R10 := hid (KQ.out.has MZ.out.y (by simpa using MZ.out.ne))
  have KG10 := hid (MZ.out.kg.trans (KG.one KQ.out GY.out))
  have OW8 := hid (show wc.heap.size ≤ kk8 ∧ Own w10 kk8 (.slice (some ⟨kk8, 0, none⟩) st.1.h.v.out.length cp8) st.1.h.v.out from by
    obtain ⟨q, q1, q2⟩ := O8.out
    have q2' := q2
    obtain ⟨_, _, e, _⟩ := q2'
    cases e
    have yl := MZ.out.y2.lt
    have q3 : wc.heap.size ≤ kk8 := q1
    exact ⟨q3, (q2.kept k89.out (by simp)).kept K10.out (by simp; omega)⟩)
  have OW9 := hid (show wc.heap.size ≤ kk9 ∧ Own w10 kk9 (.slice (some ⟨kk9, 0, none⟩) st.1.d.v.out.length cp9) st.1.d.v.out from by
    obtain ⟨q, q1, q2⟩ := O9.out
    have q2' := q2
    obtain ⟨_, _, e, _⟩ := q2'
    cases e
    have yl := MZ.out.y2.lt
    have q3 : wc.heap.size ≤ kk9 := Nat.le_trans K8.out.size q1
    exact ⟨q3, q2.kept K10.out (by simp; omega)⟩)
  have HX := hid ((H9.out.mono (G' := fenced G2 wc w10) (fun i hi q => .inl ⟨q, hi⟩)).frame KQ.out (by intro i hi hl; simp at hi; subst hi; exact fenced_not2 nY27.out Y10.out.lt))
  have n8 := hid (fenced_not (G := G2) OW8.out.1 OW8.out.2.lt)
  have n9 := hid (fenced_not (G := G2) OW9.out.1 OW9.out.2.lt)
  have nR3 := hid (fenced_not2 (w := wc) nR7.out M10.out.lt)
  have nP3 := hid (fenced_not2 (w := wc) nY7.out R10.out.lt)
  have nY3 := hid (fenced_not2 (w := wc) nY27.out Y10.out.lt)
  have SX3 := hid (show ∀ i, fenced G2 wc w10 i → G i from fun i q => S7.out i (fenced_sub O7C.out KQ.out.size i q))
  have SC := seen_call opn_fenced HX.out (by have := HN.out; have := HM9.out; omega) (k : Int) mv ep mv.data.length ec st.2.2 (sentOf x st) st.1.h.see (some ⟨kk8, 0, none⟩) st.1.h.v.out.length cp8 st.1.d.see (some ⟨kk9, 0, none⟩) st.1.d.v.out.length cp9 st.1.h.v.out st.1.d.v.out OW8.out.2.bytes OW9.out.2.bytes
    (fun b' off n c e => by cases e; exact ⟨OW8.out.2.lt, fun q => n8.out q.1⟩) (fun b' off n c e => by cases e; exact ⟨OW9.out.2.lt, fun q => n9.out q.1⟩) L8.out L9.out
  unfold rowV at SC
  rw [HK.out] at SC
  have SC := hid SC
  have m1 := M10.out.cell 1 rfl
  go_upto_region 25 with (fail)
  iterate 10 (first | go_values | go_skip | go_guarded | go_step | go_upon | go_back | (simp only [Int.not_lt, Int.not_le] at *; go_simp) | (go_values <;> (try go_simp)))
  refine wpList_get Y10.out 44 (.tmp 7) rfl rfl rfl Tryz.underlying44 rfl infoR ?_
  go_wp2_with fail
  refine SC.out.mono ?_
  rintro e w11 ⟨rfl, nn⟩
  have KN := hid (nn.1.shed (G' := G) (fun i _ q => SX3.out i q.1))
  have NW := hid nn.wf
  have Y11 := hid (nn.has Y10.out nY3.out)
  have R11 := hid (nn.has R10.out nP3.out)
  have OW8b := hid (show Own w11 kk8 _ _ from by obtain ⟨S, s1, s2⟩ := nn.1; exact OW8.out.2.kept s2 (fun hm => n8.out (s1 _ hm).1))
  have OW9b := hid (show Own w11 kk9 _ _ from by obtain ⟨S, s1, s2⟩ := nn.1; exact OW9.out.2.kept s2 (fun hm => n9.out (s1 _ hm).1))
  clear nn m1
  go_upto_region 26 with (fail)
  iterate 1 (first | go_values | go_skip | go_guarded | go_step | go_upon | go_back | (simp only [Int.not_lt, Int.not_le] at *; go_simp) | (go_values <;> (try go_simp)))
  refine wpList_get Y11.out 44 (.tmp 7) rfl rfl rfl Tryz.underlying44 rfl infoR ?_
  refine wpList_put (o := 0) R11.out [.int .i64 mv.kind, .int .i64 (k : Int), .int .i64 mv.side, .int .i64 mv.frame, .int .i64 mv.at', .int .u32 mv.word, .int .i64 mv.n, .bool mv.hold, .slice ep mv.data.length ec, .int .i64 st.2.2, .int .i64 (sentOf x st), .int .i64 st.1.h.see.state, .int .u32 st.1.h.see.ses, .int .u32 st.1.h.see.num, .int .u32 st.1.h.see.sent, .int .i64 st.1.h.see.since, .int .i64 st.1.h.see.latched, .bool st.1.h.see.request, .bool st.1.h.see.on, .slice (some ⟨kk8, 0, none⟩) st.1.h.v.out.length cp8, .int .i64 st.1.d.see.state, .int .u32 st.1.d.see.ses, .int .u32 st.1.d.see.num, .int .u32 st.1.d.see.sent, .int .i64 st.1.d.see.since, .int .i64 st.1.d.see.latched, .bool st.1.d.see.request, .bool st.1.d.see.on, .slice (some ⟨kk9, 0, none⟩) st.1.d.v.out.length cp9] 44 (.tmp 4) (.tmp 134) rfl rfl rfl rfl (Nat.le_refl 29) infoR rfl ?_
  have ES := puts_all [.int .i64 mv.kind, .int .i64 (k : Int), .int .i64 mv.side, .int .i64 mv.frame, .int .i64 mv.at', .int .u32 mv.word, .int .i64 mv.n, .bool mv.hold, .slice ep mv.data.length ec, .int .i64 st.2.2, .int .i64 (sentOf x st), .int .i64 st.1.h.see.state, .int .u32 st.1.h.see.ses, .int .u32 st.1.h.see.num, .int .u32 st.1.h.see.sent, .int .i64 st.1.h.see.since, .int .i64 st.1.h.see.latched, .bool st.1.h.see.request, .bool st.1.h.see.on, .slice (some ⟨kk8, 0, none⟩) st.1.h.v.out.length cp8, .int .i64 st.1.d.see.state, .int .u32 st.1.d.see.ses, .int .u32 st.1.d.see.num, .int .u32 st.1.d.see.sent, .int .i64 st.1.d.see.since, .int .i64 st.1.d.see.latched, .bool st.1.d.see.request, .bool st.1.d.see.on, .slice (some ⟨kk9, 0, none⟩) st.1.d.v.out.length cp9] R11.out rfl
  have K12 := hid ES.2
  have R12 := hid ES.1
  clear ES
  generalize w11.setCells (R + 1) 0 [.int .i64 mv.kind, .int .i64 (k : Int), .int .i64 mv.side, .int .i64 mv.frame, .int .i64 mv.at', .int .u32 mv.word, .int .i64 mv.n, .bool mv.hold, .slice ep mv.data.length ec, .int .i64 st.2.2, .int .i64 (sentOf x st), .int .i64 st.1.h.see.state, .int .u32 st.1.h.see.ses, .int .u32 st.1.h.see.num, .int .u32 st.1.h.see.sent, .int .i64 st.1.h.see.since, .int .i64 st.1.h.see.latched, .bool st.1.h.see.request, .bool st.1.h.see.on, .slice (some ⟨kk8, 0, none⟩) st.1.h.v.out.length cp8, .int .i64 st.1.d.see.state, .int .u32 st.1.d.see.ses, .int .u32 st.1.d.see.num, .int .u32 st.1.d.see.sent, .int .i64 st.1.d.see.since, .int .i64 st.1.d.see.latched, .bool st.1.d.see.request, .bool st.1.d.see.on, .slice (some ⟨kk9, 0, none⟩) st.1.d.v.out.length cp9] = w12 at K12 R12 ⊢
  go_wp2_with fail
  refine bodyPost_ret (results_cell2 rfl R12.out rfl Tryz.underlying44 rfl infoR) rfl ?_
  have GR1 : G (R + 1) := HG.out (R + 1) (Nat.le_succ_of_le RR.out)
  have wc0 : w.heap.size ≤ wc.heap.size := MZ.out.kg.size
  have yl := MZ.out.y.lt
  refine ⟨ep, ec, some ⟨kk8, 0, none⟩, cp8, some ⟨kk9, 0, none⟩, cp9, ?_, (KG10.out.trans KN.out).trans (.one K12.out GR1), ⟨m9 + 2, by have := HM9.out; omega, ?_⟩, ⟨kk8, Nat.le_trans wc0 OW8.out.1, ?_⟩, ⟨kk9, Nat.le_trans wc0 OW9.out.1, ?_⟩⟩
  · unfold rowV Wd.row
    rw [← STX.out, HK.out]
    rfl
  · have e : after x1 k st = x.next mv := by rw [STX.out, X1.out]; unfold after Wd.next; rw [HK.out]; rfl
    rw [← e]
    exact (NW.out.2.other K12.out (by intro i hi; simp at hi; subst hi; exact nP3.out)).mono (fun i _ q => SX3.out i q)
  · have q := OW8b.out.kept K12.out (by have := OW8.out.1; simp; omega)
    unfold Wd.row
    rw [← STX.out]; exact q
  · have q := OW9b.out.kept K12.out (by have := OW9.out.1; simp; omega)
    unfold Wd.row
    rw [← STX.out]; exact q
end WdC
end Go.Proofs.YtinaliblnihpbaaGreat
