/- The walks and the plain laws of DevF, DevG, DevT, DevK, DevH. -/
import Derived.Test.YtinaliblnihpbaaGreatV10
set_option linter.unusedVariables false
set_option linter.unusedSimpArgs false
open Go.Lib (hid)
namespace Go.Proofs.YtinaliblnihpbaaGreat
namespace DevC
open Go Go.RowKit Gf SlC CrcW SlM Hp Sl Ow DiagC ValveC DogC Kx TM MemC CellC HostC EncW ParW UnW UEnc NumW UDecW
variable {G : Nat → Prop} {w w' w'' : World} {b d v g o lg k c m mb : Nat} {s : Value} {x y : D}
def qcells (p : P) (u5 u6 u7 u8 u9 : Value) (lg : Nat) (u11 u12 u13 u14 u15 u16 u17 : Value) : List Value := [.int .u32 p.code, .int .i64 p.out, .int .i64 p.inn, .int .i64 p.watch, .int .u32 p.count, u5, u6, u7, u8, u9, .pointer (some ⟨lg, 0, none⟩), u11, u12, u13, u14, u15, u16, u17]
def Fresh (G : Nat → Prop) (w : World) (b lg : Nat) (p : P) (u5 u6 u7 : Value) : Prop :=
  ∃ d v g o k s, Has w b 142 (qcells p u5 u6 u7 (.pointer (some ⟨d, 0, none⟩)) (.pointer (some ⟨v, 0, none⟩)) lg (.int .i64 1) (.int .u32 0) (.int .u32 0) (.int .u32 0) (.int .i64 0) s (.bool false))
    ∧ IsDog w d p.watch 0 ∧ IsV G w v g o (V.new p.out) ∧ IsLog G w lg ∧ Own w k s (List.replicate p.inn.toNat 0) ∧ G d ∧ G v ∧ G g ∧ G o ∧ G k
set_option maxRecDepth 100000 in
set_option maxHeartbeats 1600000 in
theorem fresh_raw (p : P) (hp : POk p) (u5 u6 u7 u8 u9 u11 u12 u13 u14 u15 u16 u17 : Value) (hG : Opn G w) (ht : Has w b 142 (qcells p u5 u6 u7 u8 u9 lg u11 u12 u13 u14 u15 u16 u17)) (hl : IsLog G w lg) (gb : G b) :
    Calls Tryz.prog 62 #[.pointer (some ⟨b, 0, none⟩)] w fun e w' => e = .returned (.tuple #[]) ∧ Kept [b] w w' ∧ Fresh G w' b lg p u5 u6 u7 := by
  have HP := hid hp
  have HG := hid hG
  have HT := hid ht
  have HL := hid hl
  have c3 := ht.cell 3 (v := .int .i64 p.watch) rfl
  clear ht hl hp hG
  go_enter Tryz.func62, Tryz.ntmps62
  go_wp2_with fail
  refine (DogC.new_call p.watch HP.out.watch.1 HP.out.watch.2 w).mono ?_
  rintro e w1 ⟨rfl, k1, h1⟩
  have GD := hid (HG.out _ (Nat.le_refl _))
  generalize w.heap.size = d' at h1 GD ⊢
  have T1 := hid (k1.has HT.out (by simp))
  have L1 := HL.out.kept k1 (by simp)
  have c8 := T1.out.cell 8 (v := u8) rfl
  have z8 := T1.out.free 8
  have c1 := T1.out.cell 1 (v := .int .i64 p.out) rfl
  have q1 := (Kept.refl [b] w1).set ⟨b, 8, none⟩ (.pointer (some ⟨d', 0, none⟩)) (by simp)
  have D2 := hid (h1.kept q1 (by simpa using Ow.Has.ne h1.has T1.out (by decide)))
  have L2 := hid (Kx.IsLog.kept2 L1 q1 (fun i hi hl => .inr (by simp at hi; subst hi; exact ⟨_, _, T1.out, by decide⟩)))
  have T2 := hid (T1.out.set 8 (.pointer (some ⟨d', 0, none⟩)))
  have K2 := hid ((k1.mono (by simp)).trans q1)
  clear k1 h1 L1 q1
  go_wp2_with fail
  have T2 : Hid (Has _ b 142 (qcells p u5 u6 u7 (.pointer (some ⟨d', 0, none⟩)) u9 lg u11 u12 u13 u14 u15 u16 u17)) := T2
  generalize w1.setCell ⟨b, 8, none⟩ (.pointer (some ⟨d', 0, none⟩)) = w2 at D2 L2 T2 K2 ⊢
  clear c8 z8 c1 c3 T1
  refine (ValveC.new_call (GG := G) p.out HP.out.out.1 HP.out.out.2 w2).mono ?_
  rintro e w3 ⟨v', g', o', rfl, k3, h3, l1, l2, l3⟩
  have HG2 := HG.out.step K2.out.size
  have GV := hid (And.intro (HG2 _ l1) (And.intro (HG2 _ l2) (HG2 _ l3)))
  have K3 := hid (K2.out.trans (k3.mono (by simp)))
  have V3 := hid h3
  have T3 := hid (k3.has T2.out (by simp))
  have D3 := hid (D2.out.kept k3 (by simp))
  have L3 := hid (L2.out.kept k3 (by simp))
  clear k3 h3 l1 l2 l3 HG2
  have GK := hid (HG.out.step K3.out.size w3.heap.size (Nat.le_refl _))
  have EN := hid (Int.toNat_of_nonneg (show 0 ≤ p.inn by have := HP.out.inn; omega))
  have MK : ∀ W, (Instr.makeSlice 36 (.int .i64 p.inn) (.int .i64 p.inn)).run Tryz.prog W = .ok (.slice (some ⟨W.heap.size, 0, none⟩) p.inn.toNat p.inn.toNat) (W.alloc (.cells (U8 (List.replicate p.inn.toNat 0)).toArray 5)) := fun W => by
    have := SlC.run_makeN p.inn.toNat (by have := HP.out.inn; omega) W
    rw [EN.out] at this; exact this
  have hb := T3.out.lt
  have c9 := T3.out.cell 9 (v := u9) rfl
  have z9 := T3.out.free 9
  have c2 := T3.out.cell 2 (v := .int .i64 p.inn) rfl
  have b11 := T3.out.cell 11 (v := u11) rfl
  have z11 := T3.out.free 11
  have b12 := T3.out.cell 12 (v := u12) rfl
  have z12 := T3.out.free 12
  have b13 := T3.out.cell 13 (v := u13) rfl
  have z13 := T3.out.free 13
  have b14 := T3.out.cell 14 (v := u14) rfl
  have z14 := T3.out.free 14
  have b15 := T3.out.cell 15 (v := u15) rfl
  have z15 := T3.out.free 15
  have b16 := T3.out.cell 16 (v := u16) rfl
  have z16 := T3.out.free 16
  have b17 := T3.out.cell 17 (v := u17) rfl
  have z17 := T3.out.free 17
  go_wp2_with fail
  (first | go_end0 | ((try simp only [Exit.inBlock, Exit.then]); refine bodyPost_ret (results_none rfl _ _ _) rfl ?_))
  have k4 := (((((((((Kept.refl [b] w3).set ⟨b, 9, none⟩ (.pointer (some ⟨v', 0, none⟩)) (by simp)).set ⟨b, 11, none⟩ (.int .i64 1) (by simp)).set ⟨b, 12, none⟩ (.int .u32 0) (by simp)).set ⟨b, 13, none⟩ (.int .u32 0) (by simp)).set ⟨b, 14, none⟩ (.int .u32 0) (by simp)).set ⟨b, 15, none⟩ (.int .i64 0) (by simp)).set ⟨b, 16, none⟩ (.slice (some ⟨w3.heap.size, 0, none⟩) p.inn.toNat p.inn.toNat) (by simp)).set ⟨b, 17, none⟩ (.bool false) (by simp)).alloc (.cells (U8 (List.replicate p.inn.toNat 0)).toArray 5)
  have t4 : Has (((((((((w3.setCell ⟨b, 9, none⟩ (.pointer (some ⟨v', 0, none⟩))).setCell ⟨b, 11, none⟩ (.int .i64 1)).setCell ⟨b, 12, none⟩ (.int .u32 0)).setCell ⟨b, 13, none⟩ (.int .u32 0)).setCell ⟨b, 14, none⟩ (.int .u32 0)).setCell ⟨b, 15, none⟩ (.int .i64 0)).setCell ⟨b, 16, none⟩ (.slice (some ⟨w3.heap.size, 0, none⟩) p.inn.toNat p.inn.toNat)).setCell ⟨b, 17, none⟩ (.bool false)).alloc (.cells (U8 (List.replicate p.inn.toNat 0)).toArray 5)) b 142 (qcells p u5 u6 u7 (.pointer (some ⟨d', 0, none⟩)) (.pointer (some ⟨v', 0, none⟩)) lg (.int .i64 1) (.int .u32 0) (.int .u32 0) (.int .u32 0) (.int .i64 0) (.slice (some ⟨w3.heap.size, 0, none⟩) p.inn.toNat p.inn.toNat) (.bool false)) := ((((((((T3.out.set 9 (.pointer (some ⟨v', 0, none⟩))).set 11 (.int .i64 1)).set 12 (.int .u32 0)).set 13 (.int .u32 0)).set 14 (.int .u32 0)).set 15 (.int .i64 0)).set 16 (.slice (some ⟨w3.heap.size, 0, none⟩) p.inn.toNat p.inn.toNat)).set 17 (.bool false)).alloc (.cells (U8 (List.replicate p.inn.toNat 0)).toArray 5)
  have e9 : ((((((((w3.setCell ⟨b, 9, none⟩ (.pointer (some ⟨v', 0, none⟩))).setCell ⟨b, 11, none⟩ (.int .i64 1)).setCell ⟨b, 12, none⟩ (.int .u32 0)).setCell ⟨b, 13, none⟩ (.int .u32 0)).setCell ⟨b, 14, none⟩ (.int .u32 0)).setCell ⟨b, 15, none⟩ (.int .i64 0)).setCell ⟨b, 16, none⟩ (.slice (some ⟨w3.heap.size, 0, none⟩) p.inn.toNat p.inn.toNat)).setCell ⟨b, 17, none⟩ (.bool false)).heap.size = w3.heap.size := by simp
  have o4 := Has.new ((((((((w3.setCell ⟨b, 9, none⟩ (.pointer (some ⟨v', 0, none⟩))).setCell ⟨b, 11, none⟩ (.int .i64 1)).setCell ⟨b, 12, none⟩ (.int .u32 0)).setCell ⟨b, 13, none⟩ (.int .u32 0)).setCell ⟨b, 14, none⟩ (.int .u32 0)).setCell ⟨b, 15, none⟩ (.int .i64 0)).setCell ⟨b, 16, none⟩ (.slice (some ⟨w3.heap.size, 0, none⟩) p.inn.toNat p.inn.toNat)).setCell ⟨b, 17, none⟩ (.bool false)) 5 (U8 (List.replicate p.inn.toNat 0))
  rw [e9] at o4
  refine ⟨rfl, K3.out.trans k4, d', v', g', o', w3.heap.size, _, t4, D3.out.kept k4 (by simpa using Ow.Has.ne D3.out.has T3.out (by decide)), V3.out.kept2 k4 (fun i hi hl => by simp at hi; subst hi; exact ⟨_, _, T3.out, by decide, by decide, by decide, by decide⟩), Kx.IsLog.kept2 L3.out k4 (fun i hi hl => .inr (by simp at hi; subst hi; exact ⟨_, _, T3.out, by decide⟩)), ⟨p.inn.toNat, _, ?_, o4, ?_, ?_, ?_, ?_⟩, GD.out, GV.out.1, GV.out.2.1, GV.out.2.2, GK.out⟩
  · simp
  · simp
  · have := HP.out.inn; unfold maxLen; omega
  · simp [U8]
  · simp [U8]
theorem DAt.fresh {u5 u6 u7 : Value} {p : P} (hf : Fresh G w b lg p u5 u6 u7) (ep : p = x.p) (e5 : u5 = .pointer (some ⟨m, 0, none⟩)) (e6 : u6 = .int .u32 x.c.max) (e7 : u7 = .pointer (some ⟨c, 0, none⟩)) (hc : IsCell w c m x.c) (hm : IsMem w m mb x.m) (gb : G b) (gc : G c) (nm : ¬ G m) (nmb : ¬ G mb) : ∃ d v g o k s, DAt G w b d v g o lg k c m mb s x.fresh := by
  obtain ⟨d, v, g, o, k, s, h1, h2, h3, h4, h5, g1, g2, g3, g4, g5⟩ := hf
  subst ep; subst e5; subst e6; subst e7
  exact ⟨d, v, g, o, k, s, h1, h2, h3, h4, h5, hc, hm, gb, g1, g2, g3, g4, g5, gc, nm, nmb⟩
theorem fresh_call (hx : POk x.p) (hG : Opn G w) (h : DAt G w b d v g o lg k c m mb s x) :
    Calls Tryz.prog 62 #[.pointer (some ⟨b, 0, none⟩)] w fun e w' => e = .returned (.tuple #[]) ∧ KG G w w' ∧ ∃ d v g o k s, DAt G w' b d v g o lg k c m mb s x.fresh := by
  refine (fresh_raw x.p hx _ _ _ _ _ _ _ _ _ _ _ _ hG h.top h.log h.gb).mono ?_
  rintro e w' ⟨he, k1, hf⟩
  obtain ⟨⟨c4, m1⟩, ⟨c5, m2⟩⟩ := memH h.mem
  exact ⟨he, .one k1 h.gb, DAt.fresh hf rfl rfl rfl rfl (k1.has h.cel (by simpa using Ow.Has.ne h.cel h.top (by decide))) (h.mem.kept k1 (by simpa using Ow.Has.ne m1 h.top (by decide)) (by simpa using Ow.Has.ne m2 h.top (by decide))) h.gb h.gc h.nm h.nmb⟩
set_option maxRecDepth 100000 in
theorem down_call (hx : POk x.p) (hG : Opn G w) (h : DAt G w b d v g o lg k c m mb s x) :
    Calls Tryz.prog 108 #[.pointer (some ⟨b, 0, none⟩)] w fun e w' => e = .returned (.tuple #[]) ∧ KG G w w' ∧ ∃ d v g o k s, DAt G w' b d v g o lg k c m mb s x.down := by
  have FC := hid (fresh_call hx hG h)
  have HH := hid h
  clear hx hG h
  go_enter Tryz.func108, Tryz.ntmps108
  go_wp2_with fail
  refine FC.out.mono ?_
  rintro e w1 ⟨rfl, k1, d1, v1, g1, o1, kk, s1, h1⟩
  have K1 := hid k1
  have H1 := hid h1
  clear k1 h1
  have c11 := H1.out.top.cell 11 (v := .int .i64 1) rfl
  have z11 := H1.out.top.free 11
  go_wp2_with fail
  (first | go_end0 | ((try simp only [Exit.inBlock, Exit.then]); refine bodyPost_ret (results_none rfl _ _ _) rfl ?_))
  exact ⟨rfl, K1.out.set HH.out.gb, d1, v1, g1, o1, kk, s1, H1.out.set (y := x.down) 11 (.int .i64 6) rfl rfl rfl rfl rfl rfl rfl⟩
end DevC
namespace DevC
open Go Go.RowKit Gf SlC CrcW SlM Hp Sl Ow DiagC ValveC DogC Kx TM MemC CellC HostC EncW ParW UnW UEnc NumW UDecW
variable {G : Nat → Prop} {w w' w'' : World} {b d v g o lg k c m mb : Nat} {s : Value} {x y : D}
theorem DAt.memo {z : M} (h : DAt G w b d v g o lg k c m mb s x) (q : Kept [m, mb] w w') (hm : IsMem w' m mb z) : DAt G w' b d v g o lg k c m mb s { x with m := z } := by
  have hc := CellC.IsCell.neM h.cel h.mem
  exact (h.mems (q := x.c) (q.mono (by intro i hi; simp at hi ⊢; exact .inr hi)) hm (q.has h.cel (by simp; exact hc)) rfl)
theorem DAt.newcell {c' : Nat} {q : C} (h : DAt G w b d v g o lg k c m mb s x) (hc : IsCell w c' m q) (gc : G c') (eq : q.max = x.c.max) : DAt G (w.setCell ⟨b, 7, none⟩ (.pointer (some ⟨c', 0, none⟩))) b d v g o lg k c' m mb s { x with c := q } := by
  have k1 := (Kept.refl [b] w).set ⟨b, 7, none⟩ (.pointer (some ⟨c', 0, none⟩)) (by simp)
  obtain ⟨⟨c4, m1⟩, ⟨c5, m2⟩⟩ := memH h.mem
  have ht : Has (w.setCell ⟨b, 7, none⟩ (.pointer (some ⟨c', 0, none⟩))) b 142 (dcells m c' d v lg s { x with c := q }) := by
    have := h.top.set 7 (.pointer (some ⟨c', 0, none⟩))
    unfold dcells at this ⊢; simp only [eq]; exact this
  exact ⟨ht, h.dog.kept k1 (by simpa using Ow.Has.ne h.dog.has h.top (by decide)), h.val.kept2 k1 (fun i hi hl => by simp at hi; subst hi; exact ⟨_, _, h.top, by decide, by decide, by decide, by decide⟩), Kx.IsLog.kept2 h.log k1 (fun i hi hl => .inr (by simp at hi; subst hi; exact ⟨_, _, h.top, by decide⟩)), h.own.kept k1 (by simpa using ValveC.Own.ne h.own h.top (by decide)), k1.has hc (by simpa using Ow.Has.ne hc h.top (by decide)), h.mem.kept k1 (by simpa using Ow.Has.ne m1 h.top (by decide)) (by simpa using Ow.Has.ne m2 h.top (by decide)), h.gb, h.gd, h.gv, h.gg, h.go, h.gk, gc, h.nm, h.nmb⟩
theorem kgm2 (q : Kept [m, mb] w w') : KG (GM G m mb) w w' := .of q (fun i hi => by simp at hi; rcases hi with rfl | rfl; exact .inr (.inl rfl); exact .inr (.inr rfl))
theorem opn_at {G' : Nat → Prop} (h : Opn G w) (k : KG G' w w') {i : Nat} (hi : w'.heap.size ≤ i) : G i := h i (Nat.le_trans k.size hi)
theorem open_y (m mb : Nat) (z : M) (mx : Int) (hmx : mx ≠ 0) (w : World) (h : IsMem w m mb z) (mz : M) (vz ez : Int) (ho : z.open = (mz, vz, ez)) (hz : ez = 0) :
    Calls Tryz.prog 61 #[.pointer (some ⟨m, 0, none⟩), .int .u32 mx] w fun e w' => ∃ c, w.heap.size ≤ c ∧ e = .returned (.tuple #[.pointer (some ⟨c, 0, none⟩), .int .i64 0]) ∧ Kept [m, mb] w w' ∧ IsMem w' m mb mz ∧ IsCell w' c m ⟨mx, vz, false⟩ := by
  refine (CellC.open_call m mb z mx hmx w h).mono ?_
  rintro e w5 ⟨k5, m5, o5⟩
  unfold CellC.Opened at o5
  rw [ho] at m5 o5
  rcases o5 with ⟨_, c', hc', rfl, ic⟩ | ⟨h, _⟩
  · exact ⟨c', hc', rfl, k5, m5, ic⟩
  · exact absurd hz h
theorem open_n (m mb : Nat) (z : M) (mx : Int) (hmx : mx ≠ 0) (w : World) (h : IsMem w m mb z) (mz : M) (vz ez : Int) (ho : z.open = (mz, vz, ez)) (hz : ez ≠ 0) :
    Calls Tryz.prog 61 #[.pointer (some ⟨m, 0, none⟩), .int .u32 mx] w fun e w' => e = .returned (.tuple #[.pointer none, .int .i64 ez]) ∧ Kept [m, mb] w w' ∧ IsMem w' m mb mz := by
  refine (CellC.open_call m mb z mx hmx w h).mono ?_
  rintro e w5 ⟨k5, m5, o5⟩
  unfold CellC.Opened at o5
  rw [ho] at m5 o5
  rcases o5 with ⟨h, _⟩ | ⟨_, rfl⟩
  · exact absurd h hz
  · exact ⟨rfl, k5, m5⟩
theorem DAt.neb (h : DAt G w b d v g o lg k c m mb s x) : b ∉ [m, mb] := by
  obtain ⟨⟨c4, m1⟩, ⟨c5, m2⟩⟩ := memH h.mem
  have a1 := Ow.Has.ne h.top m1 (by decide); have a2 := Ow.Has.ne h.top m2 (by decide)
  simp; exact ⟨a1, a2⟩
set_option maxRecDepth 100000 in
theorem reset1y (hx : DOk x) (n : Int) (h0 : n > 0) (hn2 : n < 9223372036854775808) (hG : Opn G w) (h : DAt G w b d v g o lg k c m mb s x) (mz : M) (vz ez : Int) (ho : (x.m.on.arm (n - 1)).open = (mz, vz, ez)) (hz : ez = 0) :
    Calls Tryz.prog 79 #[.pointer (some ⟨b, 0, none⟩), .int .i64 n] w fun e w' => e = .returned (.int .i64 0) ∧ KG (GM G m mb) w w' ∧ devOf G w' b m mb { x.fresh with m := mz, c := ⟨x.c.max, vz, false⟩ } := by
  have e0 : decide (n < 0) = false := by simp; omega
  have e1 : decide (n > 0) = true := by simpa using h0
  have e2 : wrap64 (n - 1) = n - 1 := wrap64_id (by omega) (by omega)
  have N1 := hid (show 0 ≤ n - 1 by omega)
  have N2 := hid (show n - 1 < 9223372036854775808 by omega)
  have FC := hid (fresh_call hx.p hG h)
  have HX := hid hx
  have HG := hid hG
  have GB := hid h.gb
  have HO := hid ho
  have EZ := hid hz
  clear hx hG h ho hz h0 hn2
  go_enter Tryz.func79, Tryz.ntmps79
  go_wp2_with fail
  refine FC.out.mono ?_
  rintro e w1 ⟨rfl, k1, d1, v1, g1, o1, kk, s1, h1⟩
  have K1 := hid (kgM (m := m) (mb := mb) k1)
  have H1 := hid h1
  have c5 := h1.top.cell 5 (v := .pointer (some ⟨m, 0, none⟩)) rfl
  clear k1 h1
  go_wp2_with fail
  refine (MemC.on_call m mb _ _ H1.out.mem).mono ?_
  rintro e w2 ⟨rfl, k2, m2⟩
  have H2 := hid (H1.out.memo (k2.mono (by simp)) m2)
  have K2 := hid (K1.out.trans (kgm2 (k2.mono (by simp))))
  have c5' := H2.out.top.cell 5 (v := .pointer (some ⟨m, 0, none⟩)) rfl
  have c6' := H2.out.top.cell 6 (v := .int .u32 x.c.max) rfl
  clear k2 m2 c5
  go_wp2_with fail
  rw [e2]
  refine (MemC.arm_call m mb _ (n - 1) N1.out N2.out _ H2.out.mem).mono ?_
  rintro e w3 ⟨rfl, k3, m3⟩
  have H3 := hid (H2.out.memo (k3.mono (by simp)) m3)
  have K3 := hid (K2.out.trans (kgm2 (k3.mono (by simp))))
  clear k3 m3 c5' c6'
  have c5' := H3.out.top.cell 5 (v := .pointer (some ⟨m, 0, none⟩)) rfl
  have c6' := H3.out.top.cell 6 (v := .int .u32 x.c.max) rfl
  go_wp2_with fail
  have f5 : w3.drew.cell? ⟨b, 5, none⟩ = some (.pointer (some ⟨m, 0, none⟩)) := c5'
  have f6 : w3.drew.cell? ⟨b, 6, none⟩ = some (.int .u32 x.c.max) := c6'
  have H4 := hid (H3.out.nil ((Kept.refl [] w3).drew))
  have K4 := hid K3.out.drew
  have OC := hid (open_y m mb _ x.c.max (by have := HX.out.cmax; omega) w3.drew H4.out.mem mz vz ez HO.out EZ.out)
  have nb := H4.out.neb
  have SK := hid (show ∀ w', Kept [m, mb] w3.drew w' → (w'.cell? ⟨b, 5, none⟩ = some (.pointer (some ⟨m, 0, none⟩)) ∧ w'.cell? ⟨b, 6, none⟩ = some (.int .u32 x.c.max)) from fun w' q => ⟨(q.has H4.out.top nb).cell 5 rfl, (q.has H4.out.top nb).cell 6 rfl⟩)
  have dd := And.intro f5 f6
  go_region_held3 (fun w' => w'.cell? ⟨b, 5, none⟩ = some (.pointer (some ⟨m, 0, none⟩)) ∧ w'.cell? ⟨b, 6, none⟩ = some (.int .u32 x.c.max)) (with_reducible assumption) ((go_at_call 61; with_reducible refine OC.out.mono ?_; rintro e w5 ⟨c', hc', rfl, k5, m5, ic⟩; have dd2 := SK.out _ k5; have K5 := hid (K4.out.trans (kgm2 k5)); have H5 := hid (H4.out.memo k5 m5); have IC := hid ic; have GC := hid (opn_at HG.out K4.out hc'); clear k5 m5 ic hc'))
  clear dd dd2 f5 f6 c5' c6' nb
  have c7 := H5.out.top.cell 7 (v := .pointer (some ⟨c, 0, none⟩)) rfl
  have z7 := H5.out.top.free 7
  go_wp2_with fail
  go_ret
  exact ⟨rfl, K5.out.set (i := 7) (v := .pointer (some ⟨c', 0, none⟩)) (.inl GB.out), (H5.out.newcell IC.out GC.out rfl).dev⟩
set_option maxRecDepth 100000 in
theorem reset1n (hx : DOk x) (n : Int) (h0 : n > 0) (hn2 : n < 9223372036854775808) (hG : Opn G w) (h : DAt G w b d v g o lg k c m mb s x) (mz : M) (vz ez : Int) (ho : (x.m.on.arm (n - 1)).open = (mz, vz, ez)) (hz : ez ≠ 0) :
    Calls Tryz.prog 79 #[.pointer (some ⟨b, 0, none⟩), .int .i64 n] w fun e w' => e = .returned (.int .i64 ez) ∧ KG (GM G m mb) w w' ∧ devOf G w' b m mb { x.fresh with m := mz }.down := by
  have e0 : decide (n < 0) = false := by simp; omega
  have e1 : decide (n > 0) = true := by simpa using h0
  have e2 : wrap64 (n - 1) = n - 1 := wrap64_id (by omega) (by omega)
  have N1 := hid (show 0 ≤ n - 1 by omega)
  have N2 := hid (show n - 1 < 9223372036854775808 by omega)
  have FC := hid (fresh_call hx.p hG h)
  have HX := hid hx
  have HG := hid hG
  have GB := hid h.gb
  have HO := hid ho
  have EZ := hid hz
  have e9 : (ez != 0) = true := by simp [hz]
  clear hx hG h ho hz h0 hn2
  go_enter Tryz.func79, Tryz.ntmps79
  go_wp2_with fail
  refine FC.out.mono ?_
  rintro e w1 ⟨rfl, k1, d1, v1, g1, o1, kk, s1, h1⟩
  have K1 := hid (kgM (m := m) (mb := mb) k1)
  have H1 := hid h1
  have c5 := h1.top.cell 5 (v := .pointer (some ⟨m, 0, none⟩)) rfl
  clear k1 h1
  go_wp2_with fail
  refine (MemC.on_call m mb _ _ H1.out.mem).mono ?_
  rintro e w2 ⟨rfl, k2, m2⟩
  have H2 := hid (H1.out.memo (k2.mono (by simp)) m2)
  have K2 := hid (K1.out.trans (kgm2 (k2.mono (by simp))))
  have c5' := H2.out.top.cell 5 (v := .pointer (some ⟨m, 0, none⟩)) rfl
  have c6' := H2.out.top.cell 6 (v := .int .u32 x.c.max) rfl
  clear k2 m2 c5
  go_wp2_with fail
  rw [e2]
  refine (MemC.arm_call m mb _ (n - 1) N1.out N2.out _ H2.out.mem).mono ?_
  rintro e w3 ⟨rfl, k3, m3⟩
  have H3 := hid (H2.out.memo (k3.mono (by simp)) m3)
  have K3 := hid (K2.out.trans (kgm2 (k3.mono (by simp))))
  clear k3 m3 c5' c6'
  have c5' := H3.out.top.cell 5 (v := .pointer (some ⟨m, 0, none⟩)) rfl
  have c6' := H3.out.top.cell 6 (v := .int .u32 x.c.max) rfl
  go_wp2_with fail
  have f5 : w3.drew.cell? ⟨b, 5, none⟩ = some (.pointer (some ⟨m, 0, none⟩)) := c5'
  have f6 : w3.drew.cell? ⟨b, 6, none⟩ = some (.int .u32 x.c.max) := c6'
  have H4 := hid (H3.out.nil ((Kept.refl [] w3).drew))
  have K4 := hid K3.out.drew
  have OC := hid (open_n m mb _ x.c.max (by have := HX.out.cmax; omega) w3.drew H4.out.mem mz vz ez HO.out EZ.out)
  have nb := H4.out.neb
  have SK := hid (show ∀ w', Kept [m, mb] w3.drew w' → (w'.cell? ⟨b, 5, none⟩ = some (.pointer (some ⟨m, 0, none⟩)) ∧ w'.cell? ⟨b, 6, none⟩ = some (.int .u32 x.c.max)) from fun w' q => ⟨(q.has H4.out.top nb).cell 5 rfl, (q.has H4.out.top nb).cell 6 rfl⟩)
  have dd := And.intro f5 f6
  go_region_held3 (fun w' => w'.cell? ⟨b, 5, none⟩ = some (.pointer (some ⟨m, 0, none⟩)) ∧ w'.cell? ⟨b, 6, none⟩ = some (.int .u32 x.c.max)) (with_reducible assumption) ((go_at_call 61; with_reducible refine OC.out.mono ?_; rintro e w5 ⟨rfl, k5, m5⟩; have dd2 := SK.out _ k5; have K5 := hid (K4.out.trans (kgm2 k5)); have H5 := hid (H4.out.memo k5 m5); clear k5 m5))
  clear dd dd2 f5 f6 c5' c6' nb
  have DC := hid (down_call (by exact HX.out.p) (HG.out.kg K5.out) H5.out)
  go_wp2_with fail
  refine DC.out.mono ?_
  rintro e w6 ⟨rfl, k6, d6, v6, g6, o6, kk6, s6, h6⟩
  have K6 := hid (K5.out.trans (kgM k6))
  have H6 := hid h6
  clear k6 h6
  go_wp2_with fail
  go_ret
  exact ⟨rfl, K6.out, H6.out.dev⟩
set_option maxRecDepth 100000 in
theorem reset0y (hx : DOk x) (n : Int) (h0 : n = 0) (hG : Opn G w) (h : DAt G w b d v g o lg k c m mb s x) (mz : M) (vz ez : Int) (ho : (x.m.on).open = (mz, vz, ez)) (hz : ez = 0) :
    Calls Tryz.prog 79 #[.pointer (some ⟨b, 0, none⟩), .int .i64 n] w fun e w' => e = .returned (.int .i64 0) ∧ KG (GM G m mb) w w' ∧ devOf G w' b m mb { x.fresh with m := mz, c := ⟨x.c.max, vz, false⟩ } := by
  subst h0
  have FC := hid (fresh_call hx.p hG h)
  have HX := hid hx
  have HG := hid hG
  have GB := hid h.gb
  have HO := hid ho
  have EZ := hid hz
  clear hx hG h ho hz 
  go_enter Tryz.func79, Tryz.ntmps79
  go_wp2_with fail
  refine FC.out.mono ?_
  rintro e w1 ⟨rfl, k1, d1, v1, g1, o1, kk, s1, h1⟩
  have K1 := hid (kgM (m := m) (mb := mb) k1)
  have H1 := hid h1
  have c5 := h1.top.cell 5 (v := .pointer (some ⟨m, 0, none⟩)) rfl
  clear k1 h1
  go_wp2_with fail
  refine (MemC.on_call m mb _ _ H1.out.mem).mono ?_
  rintro e w2 ⟨rfl, k2, m2⟩
  have H2 := hid (H1.out.memo (k2.mono (by simp)) m2)
  have K2 := hid (K1.out.trans (kgm2 (k2.mono (by simp))))
  have c5' := H2.out.top.cell 5 (v := .pointer (some ⟨m, 0, none⟩)) rfl
  have c6' := H2.out.top.cell 6 (v := .int .u32 x.c.max) rfl
  clear k2 m2 c5
  have H3 := hid H2.out
  have K3 := hid K2.out
  go_wp2_with fail
  have f5 : w2.drew.cell? ⟨b, 5, none⟩ = some (.pointer (some ⟨m, 0, none⟩)) := c5'
  have f6 : w2.drew.cell? ⟨b, 6, none⟩ = some (.int .u32 x.c.max) := c6'
  have H4 := hid (H3.out.nil ((Kept.refl [] w2).drew))
  have K4 := hid K3.out.drew
  have OC := hid (open_y m mb _ x.c.max (by have := HX.out.cmax; omega) w2.drew H4.out.mem mz vz ez HO.out EZ.out)
  have nb := H4.out.neb
  have SK := hid (show ∀ w', Kept [m, mb] w2.drew w' → (w'.cell? ⟨b, 5, none⟩ = some (.pointer (some ⟨m, 0, none⟩)) ∧ w'.cell? ⟨b, 6, none⟩ = some (.int .u32 x.c.max)) from fun w' q => ⟨(q.has H4.out.top nb).cell 5 rfl, (q.has H4.out.top nb).cell 6 rfl⟩)
  have dd := And.intro f5 f6
  go_region_held3 (fun w' => w'.cell? ⟨b, 5, none⟩ = some (.pointer (some ⟨m, 0, none⟩)) ∧ w'.cell? ⟨b, 6, none⟩ = some (.int .u32 x.c.max)) (with_reducible assumption) ((go_at_call 61; with_reducible refine OC.out.mono ?_; rintro e w5 ⟨c', hc', rfl, k5, m5, ic⟩; have dd2 := SK.out _ k5; have K5 := hid (K4.out.trans (kgm2 k5)); have H5 := hid (H4.out.memo k5 m5); have IC := hid ic; have GC := hid (opn_at HG.out K4.out hc'); clear k5 m5 ic hc'))
  clear dd dd2 f5 f6 c5' c6' nb
  have c7 := H5.out.top.cell 7 (v := .pointer (some ⟨c, 0, none⟩)) rfl
  have z7 := H5.out.top.free 7
  go_wp2_with fail
  go_ret
  exact ⟨rfl, K5.out.set (i := 7) (v := .pointer (some ⟨c', 0, none⟩)) (.inl GB.out), (H5.out.newcell IC.out GC.out rfl).dev⟩
set_option maxRecDepth 100000 in
theorem reset0n (hx : DOk x) (n : Int) (h0 : n = 0) (hG : Opn G w) (h : DAt G w b d v g o lg k c m mb s x) (mz : M) (vz ez : Int) (ho : (x.m.on).open = (mz, vz, ez)) (hz : ez ≠ 0) :
    Calls Tryz.prog 79 #[.pointer (some ⟨b, 0, none⟩), .int .i64 n] w fun e w' => e = .returned (.int .i64 ez) ∧ KG (GM G m mb) w w' ∧ devOf G w' b m mb { x.fresh with m := mz }.down := by
  subst h0
  have FC := hid (fresh_call hx.p hG h)
  have HX := hid hx
  have HG := hid hG
  have GB := hid h.gb
  have HO := hid ho
  have EZ := hid hz
  have e9 : (ez != 0) = true := by simp [hz]
  clear hx hG h ho hz 
  go_enter Tryz.func79, Tryz.ntmps79
  go_wp2_with fail
  refine FC.out.mono ?_
  rintro e w1 ⟨rfl, k1, d1, v1, g1, o1, kk, s1, h1⟩
  have K1 := hid (kgM (m := m) (mb := mb) k1)
  have H1 := hid h1
  have c5 := h1.top.cell 5 (v := .pointer (some ⟨m, 0, none⟩)) rfl
  clear k1 h1
  go_wp2_with fail
  refine (MemC.on_call m mb _ _ H1.out.mem).mono ?_
  rintro e w2 ⟨rfl, k2, m2⟩
  have H2 := hid (H1.out.memo (k2.mono (by simp)) m2)
  have K2 := hid (K1.out.trans (kgm2 (k2.mono (by simp))))
  have c5' := H2.out.top.cell 5 (v := .pointer (some ⟨m, 0, none⟩)) rfl
  have c6' := H2.out.top.cell 6 (v := .int .u32 x.c.max) rfl
  clear k2 m2 c5
  have H3 := hid H2.out
  have K3 := hid K2.out
  go_wp2_with fail
  have f5 : w2.drew.cell? ⟨b, 5, none⟩ = some (.pointer (some ⟨m, 0, none⟩)) := c5'
  have f6 : w2.drew.cell? ⟨b, 6, none⟩ = some (.int .u32 x.c.max) := c6'
  have H4 := hid (H3.out.nil ((Kept.refl [] w2).drew))
  have K4 := hid K3.out.drew
  have OC := hid (open_n m mb _ x.c.max (by have := HX.out.cmax; omega) w2.drew H4.out.mem mz vz ez HO.out EZ.out)
  have nb := H4.out.neb
  have SK := hid (show ∀ w', Kept [m, mb] w2.drew w' → (w'.cell? ⟨b, 5, none⟩ = some (.pointer (some ⟨m, 0, none⟩)) ∧ w'.cell? ⟨b, 6, none⟩ = some (.int .u32 x.c.max)) from fun w' q => ⟨(q.has H4.out.top nb).cell 5 rfl, (q.has H4.out.top nb).cell 6 rfl⟩)
  have dd := And.intro f5 f6
  go_region_held3 (fun w' => w'.cell? ⟨b, 5, none⟩ = some (.pointer (some ⟨m, 0, none⟩)) ∧ w'.cell? ⟨b, 6, none⟩ = some (.int .u32 x.c.max)) (with_reducible assumption) ((go_at_call 61; with_reducible refine OC.out.mono ?_; rintro e w5 ⟨rfl, k5, m5⟩; have dd2 := SK.out _ k5; have K5 := hid (K4.out.trans (kgm2 k5)); have H5 := hid (H4.out.memo k5 m5); clear k5 m5))
  clear dd dd2 f5 f6 c5' c6' nb
  have DC := hid (down_call (by exact HX.out.p) (HG.out.kg K5.out) H5.out)
  go_wp2_with fail
  refine DC.out.mono ?_
  rintro e w6 ⟨rfl, k6, d6, v6, g6, o6, kk6, s6, h6⟩
  have K6 := hid (K5.out.trans (kgM k6))
  have H6 := hid h6
  clear k6 h6
  go_wp2_with fail
  go_ret
  exact ⟨rfl, K6.out, H6.out.dev⟩
theorem reset_call (hx : DOk x) (n : Int) (hn : 0 ≤ n) (hn2 : n < 9223372036854775808) (hG : Opn G w) (h : DAt G w b d v g o lg k c m mb s x) :
    Calls Tryz.prog 79 #[.pointer (some ⟨b, 0, none⟩), .int .i64 n] w fun e w' => e = .returned (.int .i64 (x.reset n).2) ∧ KG (GM G m mb) w w' ∧ devOf G w' b m mb (x.reset n).1 := by
  rcases ho : ((x.reset0 n).m.open) with ⟨mz, vz, ez⟩
  have er : x.reset n = if ez = 0 then ({ x.reset0 n with m := mz, c := ⟨x.c.max, vz, false⟩ }, 0) else ({ x.reset0 n with m := mz }.down, ez) := by
    unfold D.reset; rw [ho]
  rw [er]
  by_cases h0 : n > 0
  · have em : x.reset0 n = { x.fresh with m := x.m.on.arm (n - 1) } := by unfold D.reset0; rw [if_pos h0]
    rw [em] at ho ⊢
    by_cases hz : ez = 0
    · rw [if_pos hz]; exact reset1y hx n h0 hn2 hG h mz vz ez ho hz
    · rw [if_neg hz]; exact reset1n hx n h0 hn2 hG h mz vz ez ho hz
  · have em : x.reset0 n = { x.fresh with m := x.m.on } := by unfold D.reset0; rw [if_neg h0]
    rw [em] at ho ⊢
    by_cases hz : ez = 0
    · rw [if_pos hz]; exact reset0y hx n (by omega) hG h mz vz ez ho hz
    · rw [if_neg hz]; exact reset0n hx n (by omega) hG h mz vz ez ho hz
set_option maxRecDepth 100000 in
theorem new_call (p : P) (hp : POk p) (mx : Int) (hmx : 0 < mx) (m mb : Nat) (w : World) (hG : Opn G w) (hm : IsMem w m mb M.new) (nm : ¬ G m) (nmb : ¬ G mb) :
    Calls Tryz.prog 31 #[pval p, .pointer (some ⟨m, 0, none⟩), .int .u32 mx] w fun e w' => ∃ b, e = .returned (.tuple #[.pointer (some ⟨b, 0, none⟩), .int .i64 0]) ∧ KG (GM G m mb) w w' ∧ devOf G w' b m mb (D.new p mx) ∧ w.heap.size ≤ b := by
  have HP := hid hp
  have HG := hid hG
  have HM := hid hm
  have HMX := hid hmx
  have NM := hid (And.intro nm nmb)
  have CK := hid (fun w => check_call p HP.out w)
  clear hp hG hm hmx nm nmb
  unfold pval at CK ⊢
  go_enter Tryz.func31, Tryz.ntmps31
  go_wp2_with fail
  have K0 := hid ((Kept.refl [] w).alloc (.cells #[.int .u32 p.code, .int .i64 p.out, .int .i64 p.inn, .int .i64 p.watch, .int .u32 p.count] 50))
  have P0 := hid (Has.new w 50 [.int .u32 p.code, .int .i64 p.out, .int .i64 p.inn, .int .i64 p.watch, .int .u32 p.count])
  generalize w.alloc (.cells #[.int .u32 p.code, .int .i64 p.out, .int .i64 p.inn, .int .i64 p.watch, .int .u32 p.count] 50) = w0 at K0 P0 ⊢
  obtain ⟨R, hR⟩ : ∃ R, R = w.heap.size := ⟨_, rfl⟩
  rw [← hR] at P0 ⊢
  clear hR
  refine (CK.out w0).mono ?_
  rintro e w1 ⟨rfl, k1⟩
  have K1 := hid (K0.out.trans k1)
  have P1 := hid (k1.has P0.out (by simp))
  have M1 := hid (HM.out.kept K1.out (by simp) (by simp))
  clear k1
  go_wp2_with fail
  have mx0 : mx ≠ 0 := by have := HMX.out; omega
  refine (open_y m mb M.new mx mx0 w1 M1.out M.new 0 0 rfl rfl).mono ?_
  clear mx0
  rintro e w2 ⟨c', hc', rfl, k2, m2, ic⟩
  have K2 := hid ((KG.nil (G := GM G m mb) K1.out).trans (kgm2 k2))
  have GC := hid (opn_at HG.out (KG.nil (G := G) K1.out) hc')
  obtain ⟨⟨c4, m4⟩, ⟨c5, m5⟩⟩ := memH (x := ⟨p, M.new, ⟨mx, 0, false⟩, 0, V.new p.out, 1, 0, 0, 0, 0, [], false⟩) M1.out
  have P2 := hid (k2.has P1.out (by have a1 := Ow.Has.ne P1.out m4 (by decide); have a2 := Ow.Has.ne P1.out m5 (by decide); simp; exact ⟨a1, a2⟩))
  have M2 := hid m2
  have C2 := hid ic
  clear k2 m2 ic hc' m4 m5
  go_wp2_with fail
  have SK := hid (show ∀ w', Kept [] w2 w' → (w'.cell? ⟨R, 0, none⟩ = some (.int .u32 p.code) ∧ w'.cell? ⟨R, 1, none⟩ = some (.int .i64 p.out) ∧ w'.cell? ⟨R, 2, none⟩ = some (.int .i64 p.inn) ∧ w'.cell? ⟨R, 3, none⟩ = some (.int .i64 p.watch) ∧ w'.cell? ⟨R, 4, none⟩ = some (.int .u32 p.count)) from fun w' q => ⟨(q.has P2.out (by simp)).cell 0 rfl, (q.has P2.out (by simp)).cell 1 rfl, (q.has P2.out (by simp)).cell 2 rfl, (q.has P2.out (by simp)).cell 3 rfl, (q.has P2.out (by simp)).cell 4 rfl⟩)
  have dd := SK.out _ ((Kept.refl [] w2).drew)
  have HG2 := hid (HG.out.kg K2.out.drew)
  have DN := hid (DiagC.new_call G w2.drew HG2.out)
  go_region_held3 (fun w' => w'.cell? ⟨R, 0, none⟩ = some (.int .u32 p.code) ∧ w'.cell? ⟨R, 1, none⟩ = some (.int .i64 p.out) ∧ w'.cell? ⟨R, 2, none⟩ = some (.int .i64 p.inn) ∧ w'.cell? ⟨R, 3, none⟩ = some (.int .i64 p.watch) ∧ w'.cell? ⟨R, 4, none⟩ = some (.int .u32 p.count)) (first | with_reducible assumption | with_reducible exact SK.out _ (KW.out.alloc _)) ((go_at_call 59; with_reducible refine DN.out.mono ?_; rintro e w3 ⟨lg, rfl, k3, h3, l3⟩; have KW := hid (((Kept.refl [] w2).drew).trans k3); have dd2 := SK.out _ (((Kept.refl [] w2).drew).trans k3); have L3 := hid h3; clear k3 h3 l3))
  clear dd dd2
  have K4 := hid (KW.out.alloc (.cells #[.int .u32 p.code, .int .i64 p.out, .int .i64 p.inn, .int .i64 p.watch, .int .u32 p.count, .pointer (some ⟨m, 0, none⟩), .int .u32 mx, .pointer (some ⟨c', 0, none⟩), .pointer none, .pointer none, .pointer (some ⟨lg, 0, none⟩), .int .i64 0, .int .u32 0, .int .u32 0, .int .u32 0, .int .i64 0, .slice none 0 0, .bool false] 142))
  have T4 := hid (show Has _ _ 142 (qcells p (.pointer (some ⟨m, 0, none⟩)) (.int .u32 mx) (.pointer (some ⟨c', 0, none⟩)) (.pointer none) (.pointer none) lg (.int .i64 0) (.int .u32 0) (.int .u32 0) (.int .u32 0) (.int .i64 0) (.slice none 0 0) (.bool false)) from Has.new w3 142 [.int .u32 p.code, .int .i64 p.out, .int .i64 p.inn, .int .i64 p.watch, .int .u32 p.count, .pointer (some ⟨m, 0, none⟩), .int .u32 mx, .pointer (some ⟨c', 0, none⟩), .pointer none, .pointer none, .pointer (some ⟨lg, 0, none⟩), .int .i64 0, .int .u32 0, .int .u32 0, .int .u32 0, .int .i64 0, .slice none 0 0, .bool false])
  have L4 := hid (L3.out.kept ((Kept.refl [] w3).alloc (.cells #[.int .u32 p.code, .int .i64 p.out, .int .i64 p.inn, .int .i64 p.watch, .int .u32 p.count, .pointer (some ⟨m, 0, none⟩), .int .u32 mx, .pointer (some ⟨c', 0, none⟩), .pointer none, .pointer none, .pointer (some ⟨lg, 0, none⟩), .int .i64 0, .int .u32 0, .int .u32 0, .int .u32 0, .int .i64 0, .slice none 0 0, .bool false] 142)) (by simp))
  have KB := hid (Nat.le_trans K2.out.size KW.out.size)
  generalize w3.alloc (.cells #[.int .u32 p.code, .int .i64 p.out, .int .i64 p.inn, .int .i64 p.watch, .int .u32 p.count, .pointer (some ⟨m, 0, none⟩), .int .u32 mx, .pointer (some ⟨c', 0, none⟩), .pointer none, .pointer none, .pointer (some ⟨lg, 0, none⟩), .int .i64 0, .int .u32 0, .int .u32 0, .int .u32 0, .int .i64 0, .slice none 0 0, .bool false] 142) = w4 at K4 T4 L4 ⊢
  generalize w3.heap.size = b at T4 KB ⊢
  have K5 := hid (K2.out.trans (KG.nil K4.out))
  have HG4 := hid (HG.out.kg K5.out)
  have GB := hid (HG.out _ KB.out)
  have C4 := hid (K4.out.has C2.out (by simp))
  have M4 := hid (M2.out.kept K4.out (by simp) (by simp))
  go_wp2_with fail
  refine (fresh_raw p HP.out _ _ _ _ _ _ _ _ _ _ _ _ HG4.out T4.out L4.out GB.out).mono ?_
  rintro e w5 ⟨rfl, k5, f5⟩
  obtain ⟨⟨c7, m7⟩, ⟨c8, m8⟩⟩ := memH (x := ⟨p, M.new, ⟨mx, 0, false⟩, 0, V.new p.out, 1, 0, 0, 0, 0, [], false⟩) M4.out
  have hf := hid (DAt.fresh (x := D.new p mx) f5 rfl rfl rfl rfl (k5.has C4.out (by simpa using Ow.Has.ne C4.out T4.out (by decide))) (M4.out.kept k5 (by simpa using Ow.Has.ne m7 T4.out (by decide)) (by simpa using Ow.Has.ne m8 T4.out (by decide))) GB.out GC.out NM.out.1 NM.out.2)
  have K6 := hid (K5.out.trans (.one k5 (.inl GB.out)))
  clear k5 f5 m7 m8
  go_wp2_with fail
  go_ret2
  obtain ⟨d, v, g, o, kk, s, h⟩ := hf.out
  exact ⟨b, rfl, K6.out, ⟨d, v, g, o, lg, kk, c', s, h⟩, KB.out⟩
end DevC
namespace DevC
open Go Go.RowKit Gf SlC CrcW SlM Hp Sl Ow DiagC ValveC DogC Kx TM MemC CellC HostC EncW ParW UnW UEnc NumW UDecW
variable {G : Nat → Prop} {w w' w'' : World} {b d v g o lg k c m mb : Nat} {s : Value} {x y : D}
set_option maxRecDepth 100000 in
set_option maxHeartbeats 3200000 in
theorem reply20_call (num : Int) (data : List Int) (vd : Value) (hn : 1 ≤ x.v.n ∧ x.v.n ≤ 8) (hl : Law (x.reply 20 num data)) (h : DAt G w b d v g o lg k c m mb s x) (hd : Bytes w vd data) (hb : By data) :
    Calls Tryz.prog 188 #[.pointer (some ⟨b, 0, none⟩), .int .i64 20, .int .u32 num, vd] w fun e w' => ∃ f, e = .returned f ∧ Kept [] w w' ∧ Made w w' f (frame (x.reply 20 num data)) := by
  obtain ⟨dp, dc, rfl, hdc⟩ := sl_shape hd
  have er : x.reply 20 num data = ⟨20, x.p.code, x.ses, num, flagsOf x.v x.hold, data⟩ := by unfold D.reply; rw [if_pos rfl]
  rw [er] at hl ⊢
  have c0 := h.top.cell 0 (v := .int .u32 x.p.code) rfl
  have c12 := h.top.cell 12 (v := .int .u32 x.ses) rfl
  have HH := hid h
  have HN := hid hn
  have HL := hid hl
  have HD := hid hd
  have HB := hid hb
  clear h hl hd hb hn er
  go_enter Tryz.func188, Tryz.ntmps188
  go_wp2_with fail
  have dd : w.drew.cell? ⟨b, 0, none⟩ = some (.int .u32 x.p.code) ∧ w.drew.cell? ⟨b, 12, none⟩ = some (.int .u32 x.ses) := ⟨c0, c12⟩
  go_region_held3 (fun w' => w'.cell? ⟨b, 0, none⟩ = some (.int .u32 x.p.code) ∧ w'.cell? ⟨b, 12, none⟩ = some (.int .u32 x.ses)) (first | with_reducible assumption | go_keep) (fail)
  have hU := hid ((Has.new w 63 [.int .i64 20, .int .u32 x.p.code, .int .u32 x.ses, .int .u32 num, .int .i64 0, .slice dp data.length dc]).drew)
  have K2 := hid (((Kept.refl [] w).alloc (.cells #[.int .i64 20, .int .u32 x.p.code, .int .u32 x.ses, .int .u32 num, .int .i64 0, .slice dp data.length dc] 63)).drew)
  clear dd c0 c12
  change Exit.then _ _ Exit.normal _ (w.alloc (.cells #[.int .i64 20, .int .u32 x.p.code, .int .u32 x.ses, .int .u32 num, .int .i64 0, .slice dp data.length dc] 63)).drew
  have hU : Hid (Has (w.alloc (.cells #[.int .i64 20, .int .u32 x.p.code, .int .u32 x.ses, .int .u32 num, .int .i64 0, .slice dp data.length dc] 63)).drew w.heap.size 63 [.int .i64 20, .int .u32 x.p.code, .int .u32 x.ses, .int .u32 num, .int .i64 0, .slice dp data.length dc]) := hU
  have K2 : Hid (Kept [] w (w.alloc (.cells #[.int .i64 20, .int .u32 x.p.code, .int .u32 x.ses, .int .u32 num, .int .i64 0, .slice dp data.length dc] 63)).drew) := K2
  generalize (w.alloc (.cells #[.int .i64 20, .int .u32 x.p.code, .int .u32 x.ses, .int .u32 num, .int .i64 0, .slice dp data.length dc] 63)).drew = w2 at hU K2 ⊢
  have RR := hid (Nat.le_refl w.heap.size)
  obtain ⟨R, hR⟩ : ∃ R, R = w.heap.size := ⟨_, rfl⟩
  rw [← hR] at hU ⊢
  have RR := hid (Nat.le_of_eq hR.symm)
  clear hR
  have D2 := hid (HD.out.kept K2.out (by simp))
  have H2 := hid (HH.out.nil K2.out)
  go_wp2_with fail
  refine (flags_call HN.out.1 HN.out.2 H2.out).mono ?_
  rintro e w3 ⟨rfl, k3⟩
  have K3 := hid (K2.out.trans k3)
  have U3 := hid (k3.has hU.out (by simp))
  have D3 := hid (D2.out.kept k3 (by simp))
  clear k3
  have y4 := U3.out.cell 4 rfl
  have z4 := U3.out.free 4
  have y0 := U3.out.cell 0 rfl
  have y1 := U3.out.cell 1 rfl
  have y2 := U3.out.cell 2 rfl
  have y3 := U3.out.cell 3 rfl
  have y5 := U3.out.cell 5 rfl
  go_wp2_with fail
  have kk := (Kept.refl [R] w3).set ⟨R, 4, none⟩ (.int .i64 (flagsOf x.v x.hold)) (by simp)
  have D4 := hid (HD.out.kept (K3.out.fresh kk (fun i hi hl => by simp only [List.mem_singleton] at hi; subst hi; exact absurd hl (Nat.not_lt.2 RR.out))) (by simp))
  have K4 := hid (K3.out.fresh kk (fun i hi hl => by simp only [List.mem_singleton] at hi; subst hi; exact absurd hl (Nat.not_lt.2 RR.out)))
  clear kk
  refine (UEnc.encode_call ⟨20, x.p.code, x.ses, num, flagsOf x.v x.hold, data⟩ HL.out (.slice dp data.length dc) _ D4.out HB.out).mono ?_
  rintro e w5 ⟨v5, rfl, k5, m5⟩
  go_wp2_with fail
  go_ret
  exact ⟨v5, rfl, K4.out.trans k5, m5.1, fun i hi => Nat.le_trans K4.out.size (m5.2 i hi)⟩
theorem law22 (hp : POk x.p) : Law (x.reply 22 0 []) := by
  have := hp.code
  have e : x.reply 22 0 [] = ⟨22, x.p.code, x.ses, 0, 0, []⟩ := by unfold D.reply; rw [if_neg (by decide)]
  rw [e]
  refine .inr (.inr (.inr (.inr (.inr (.inr (.inr (.inr (.inr (.inr ⟨rfl, ?_, .inr (.inr ⟨rfl, rfl⟩), .inl rfl, .inr (.inr ⟨rfl, rfl⟩), Int.le_refl _, (by show (0 : Int) ≤ 15; decide), fun _ => rfl⟩)))))))))
  show x.p.code ≠ 0; omega
theorem law17 (hp : POk x.p) (hs : 0 < x.ses) : Law (x.offer (sigB x.p)) := by
  have := hp.code
  have e : x.offer (sigB x.p) = ⟨17, x.p.code, x.ses, 0, 0, sigB x.p⟩ := by unfold D.offer D.reply; rw [if_neg (by decide)]
  rw [e]
  refine .inr (.inr (.inl ⟨rfl, ?_, .inl ⟨rfl, rfl⟩, .inr (.inl ⟨rfl, hs⟩), .inr (.inr ⟨rfl, rfl⟩), Int.le_refl _, (by show (0 : Int) ≤ 15; decide), fun _ => rfl⟩))
  show x.p.code ≠ 0; omega
theorem law18 (hp : POk x.p) (hs : 0 < x.ses) : Law (x.reply 18 0 []) := by
  have := hp.code
  have e : x.reply 18 0 [] = ⟨18, x.p.code, x.ses, 0, 0, []⟩ := by unfold D.reply; rw [if_neg (by decide)]
  rw [e]
  refine .inr (.inr (.inr (.inr (.inl ⟨rfl, ?_, .inr (.inr ⟨rfl, rfl⟩), .inr (.inl ⟨rfl, hs⟩), .inr (.inr ⟨rfl, rfl⟩), Int.le_refl _, (by show (0 : Int) ≤ 15; decide), fun _ => rfl⟩))))
  show x.p.code ≠ 0; omega
theorem law19 (hp : POk x.p) (hs : 0 < x.ses) : Law (x.reply 19 0 []) := by
  have := hp.code
  have e : x.reply 19 0 [] = ⟨19, x.p.code, x.ses, 0, 0, []⟩ := by unfold D.reply; rw [if_neg (by decide)]
  rw [e]
  refine .inr (.inr (.inr (.inr (.inr (.inl ⟨rfl, ?_, .inr (.inr ⟨rfl, rfl⟩), .inr (.inl ⟨rfl, hs⟩), .inr (.inr ⟨rfl, rfl⟩), Int.le_refl _, (by show (0 : Int) ≤ 15; decide), fun _ => rfl⟩)))))
  show x.p.code ≠ 0; omega
theorem law20 (hp : POk x.p) (hs : 0 < x.ses) {num : Int} {l : List Int} (hn : 0 < num) (h1 : 1 ≤ l.length) (h8 : l.length ≤ 8) : Law (x.reply 20 num l) := by
  have := hp.code
  have e : x.reply 20 num l = ⟨20, x.p.code, x.ses, num, flagsOf x.v x.hold, l⟩ := by unfold D.reply; rw [if_pos rfl]
  rw [e]
  refine .inr (.inr (.inr (.inr (.inr (.inr (.inr (.inl ⟨rfl, ?_, .inr (.inl ⟨rfl, h1, h8⟩), .inr (.inl ⟨rfl, hs⟩), .inr (.inl ⟨rfl, hn⟩), (flags_range _ _).1, (flags_range _ _).2, fun e => by cases e⟩)))))))
  show x.p.code ≠ 0; omega
theorem law21 (hp : POk x.p) (hs : 0 < x.ses) {num : Int} (hn : 0 < num) : Law (x.reply 21 num []) := by
  have := hp.code
  have e : x.reply 21 num [] = ⟨21, x.p.code, x.ses, num, 0, []⟩ := by unfold D.reply; rw [if_neg (by decide)]
  rw [e]
  refine .inr (.inr (.inr (.inr (.inr (.inr (.inr (.inr (.inr (.inl ⟨rfl, ?_, .inr (.inr ⟨rfl, rfl⟩), .inr (.inl ⟨rfl, hs⟩), .inr (.inl ⟨rfl, hn⟩), Int.le_refl _, (by show (0 : Int) ≤ 15; decide), fun _ => rfl⟩)))))))))
  show x.p.code ≠ 0; omega
set_option maxRecDepth 100000 in
theorem offer_call (hp : POk x.p) (hs : 0 < x.ses) (h : DAt G w b d v g o lg k c m mb s x) :
    Calls Tryz.prog 187 #[.pointer (some ⟨b, 0, none⟩)] w fun e w' => ∃ f, e = .returned f ∧ Kept [] w w' ∧ Made w w' f (frame (x.offer (sigB x.p))) := by
  have c0 := h.top.cell 0 (v := .int .u32 x.p.code) rfl
  have c1 := h.top.cell 1 (v := .int .i64 x.p.out) rfl
  have c2 := h.top.cell 2 (v := .int .i64 x.p.inn) rfl
  have c3 := h.top.cell 3 (v := .int .i64 x.p.watch) rfl
  have c4 := h.top.cell 4 (v := .int .u32 x.p.count) rfl
  have HH := hid h
  have HP := hid hp
  have HL := hid (law17 hp hs)
  clear h hp hs
  go_enter Tryz.func187, Tryz.ntmps187
  go_wp2_with fail
  refine (signature_call x.p HP.out _).mono ?_
  rintro e w1 ⟨rfl, k1⟩
  have K1 := hid k1
  have H1 := hid (HH.out.nil k1)
  clear c0 c1 c2 c3 c4 k1
  go_wp2_with fail
  refine (bytes_call (sigN x.p : Nat) w1).mono ?_
  rintro e w3 ⟨v3, rfl, k3, m3⟩
  have K3 := hid (K1.out.trans k3)
  have H3 := hid (H1.out.nil k3)
  have M3 := hid (show Made w1 w3 v3 (sigB x.p) from m3)
  clear k3 m3
  go_wp2_with fail
  refine (reply_call 17 0 (sigB x.p) v3 (by decide) HL.out H3.out M3.out.bytes (w4_by _)).mono ?_
  rintro e w5 ⟨f, rfl, k5, m5⟩
  go_wp2_with fail
  go_ret
  exact ⟨f, rfl, K3.out.trans k5, m5.1, fun i hi => Nat.le_trans K3.out.size (m5.2 i hi)⟩
theorem stuck_p (x : D) : x.stuck.1.p = x.p := by unfold D.stuck; (repeat' split) <;> rfl
set_option maxRecDepth 100000 in
theorem odds_call (hx : DOk x) (n : Int) (hG : Opn G w) (h : DAt G w b d v g o lg k c m mb s x) :
    Calls Tryz.prog 168 #[.pointer (some ⟨b, 0, none⟩), .int .i64 n] w fun e w' => ∃ f, e = .returned (.tuple #[f, .int .i64 (x.odds n).2.2]) ∧ KG G w w' ∧ DAt G w' b d v g o lg k c m mb s (x.odds n).1 ∧ FrameOf w w' f (x.odds n).2.1 := by
  have SC := hid (stuck_call hx.st hx.odd.1 hx.odd.2 hG h)
  have LW := hid (law22 (x := x.stuck.1) (by rw [stuck_p]; exact hx.p))
  have HG := hid hG
  unfold D.odds
  clear hx hG h
  generalize x.stuck = y at SC LW ⊢
  obtain ⟨y, q⟩ := y
  go_enter Tryz.func168, Tryz.ntmps168
  go_wp2_with fail
  refine SC.out.mono ?_
  rintro e w1 ⟨rfl, k1, h1⟩
  have K1 := hid k1
  have H1 := hid h1
  clear k1 h1
  go_wp2_with fail
  refine (reply_call 22 0 [] (.slice none 0 0) (by decide) LW.out H1.out (bytes_none _) (by intro z hz; cases hz)).mono ?_
  rintro e w5 ⟨f, rfl, k5, m5⟩
  have M5 := hid m5
  have K5 := hid k5
  clear k5 m5
  obtain ⟨p5, n5, rfl⟩ := M5.out.shape
  go_wp2_with fail
  go_ret2
  exact ⟨_, rfl, K1.out.trans (.nil K5.out), H1.out.nil K5.out, M5.out.1, fun i hi => Nat.le_trans K1.out.size (M5.out.2 i hi)⟩
end DevC
namespace DevC
open Go Go.RowKit Gf SlC CrcW SlM Hp Sl Ow DiagC ValveC DogC Kx TM MemC CellC HostC EncW ParW UnW UEnc NumW UDecW
variable {x y : D}
theorem z0 : (0 : Int) ≤ 0 ∧ (0 : Int) < 4294967296 := by decide
theorem z4 : (0 : Int) ≤ 0 ∧ (0 : Int) < 4 := by decide
theorem DOk.zc (h : DOk x) : (0 : Int) ≤ 0 ∧ (0 : Int) ≤ x.p.count := ⟨Int.le_refl _, by have := h.p.count; omega⟩
theorem ack_n (z : V) : z.ack.n = z.n := by unfold V.ack; split <;> rfl
theorem take_n (z : V) (l : List Int) : (z.take l).n = z.n := by unfold V.take; split <;> rfl
theorem holds_n (z : V) (q : Bool) : (z.holds q).n = z.n := rfl
theorem DOk.trip (h : DOk x) (c : Int) : DOk (x.trip c) :=
  ⟨h.p, h.st, h.ses, h.live, h.num, h.sent, h.odd, (trip_n _ _).trans h.vn, h.len, h.byt, h.cmax, h.cval⟩
theorem DOk.alive (h : DOk x) : DOk x.alive :=
  ⟨h.p, h.st, h.ses, h.live, h.num, h.sent, z4, h.vn, h.len, h.byt, h.cmax, h.cval⟩
theorem DOk.odded (h : DOk x) (hm : x.odd + 1 < 4) : DOk { x with odd := x.odd + 1 } :=
  ⟨h.p, h.st, h.ses, h.live, h.num, h.sent, ⟨by have := h.odd; show 0 ≤ x.odd + 1; omega, hm⟩, h.vn, h.len, h.byt, h.cmax, h.cval⟩
theorem DOk.leave (h : DOk x) (o : Int) {s : Int} (hs : s = 1 ∨ s = 5) : DOk (({ x with odd := o } : D).leave s) :=
  ⟨h.p, by show s = 1 ∨ s = 2 ∨ s = 3 ∨ s = 4 ∨ s = 5 ∨ s = 6; omega, z0, fun e => by (change s = 2 ∨ s = 3 ∨ s = 4 at e); omega, h.zc, ⟨Int.le_refl _, Int.le_refl _⟩, z4, (run_n _ _).trans h.vn, h.len, h.byt, h.cmax, h.cval⟩
theorem DOk.stuck (h : DOk x) : DOk x.stuck.1 := by
  unfold D.stuck
  split
  · split
    · rename_i hlt; exact h.odded hlt
    · split
      · exact (h.trip 131).leave (x.odd + 1) (.inl rfl)
      · exact h.leave (x.odd + 1) (.inl rfl)
  · exact h
theorem next_spec (c : C) (m : M) : (c.next m).1.max = c.max ∧ (0 ≤ c.value → 0 ≤ (c.next m).1.value) ∧ ((c.next m).2.2.2 = 0 → (c.next m).2.2.1 = c.value + 1 ∧ c.value < c.max) ∧ ((c.next m).2.2.2 = 80 → (c.next m).1 = c ∧ (c.next m).2.1 = m) ∧ ((c.next m).2.2.2 = 0 ∨ (c.next m).2.2.2 = 80 ∨ (c.next m).2.2.2 = 70) := by
  unfold C.next
  split
  · exact ⟨rfl, fun h => h, fun e => by simp at e, fun e => by simp at e, .inr (.inr rfl)⟩
  · split
    · exact ⟨rfl, fun h => h, fun e => by simp at e, fun _ => ⟨rfl, rfl⟩, .inr (.inl rfl)⟩
    · rename_i hlt
      split
      · exact ⟨rfl, fun h => by show 0 ≤ c.value + 1; omega, fun _ => ⟨rfl, by omega⟩, fun e => by simp at e, .inl rfl⟩
      · exact ⟨rfl, fun h => h, fun e => by simp at e, fun e => by simp at e, .inr (.inr rfl)⟩
theorem DOk.newlife (h : DOk x) (c : C) (m : M) (hm : c.max = x.c.max) (hc : 0 ≤ c.value) : DOk { x.fresh with m := m, c := c } :=
  ⟨h.p, .inl rfl, z0, fun e => by (change (1 : Int) = 2 ∨ (1 : Int) = 3 ∨ (1 : Int) = 4 at e); omega, h.zc, ⟨Int.le_refl _, Int.le_refl _⟩, z4, rfl, by have := h.p.inn; show ((List.replicate x.p.inn.toNat (0 : Int)).length : Int) = x.p.inn; simp; omega, fun z hz => by (change z ∈ List.replicate x.p.inn.toNat (0 : Int) at hz); obtain ⟨_, rfl⟩ := List.mem_replicate.1 hz; omega, hm ▸ h.cmax, hc⟩
theorem DOk.newdown (h : DOk x) (c : C) (m : M) (hm : c.max = x.c.max) (hc : 0 ≤ c.value) : DOk ({ x with m := m, c := c } : D).down :=
  ⟨h.p, .inr (.inr (.inr (.inr (.inr rfl)))), z0, fun e => by (change (6 : Int) = 2 ∨ (6 : Int) = 3 ∨ (6 : Int) = 4 at e); omega, h.zc, ⟨Int.le_refl _, Int.le_refl _⟩, z4, rfl, by have := h.p.inn; show ((List.replicate x.p.inn.toNat (0 : Int)).length : Int) = x.p.inn; simp; omega, fun z hz => by (change z ∈ List.replicate x.p.inn.toNat (0 : Int) at hz); obtain ⟨_, rfl⟩ := List.mem_replicate.1 hz; omega, hm ▸ h.cmax, hc⟩
theorem DOk.newses (h : DOk x) (c : C) (m : M) (s : Int) (hs : 0 < s) (hs2 : s ≤ x.c.max) (hm : c.max = x.c.max) (hc : 0 ≤ c.value) : DOk ({ ({ x with c := c, m := m } : D).leave 2 with ses := s }) :=
  ⟨h.p, .inr (.inl rfl), ⟨by show 0 ≤ s; omega, by have := h.cmax; show s < 4294967296; omega⟩, fun _ => hs, h.zc, ⟨Int.le_refl _, Int.le_refl _⟩, z4, (run_n _ _).trans h.vn, h.len, h.byt, hm ▸ h.cmax, hc⟩
theorem DOk.begin (h : DOk x) (sig : List Int) : DOk (x.begin sig).1 := by
  obtain ⟨a1, a2, a3, a4, a5⟩ := next_spec x.c x.m
  have hc := a2 h.cval
  have := h.cval
  unfold D.begin
  split
  · exact (h.trip 80).leave x.odd (.inr rfl)
  · split
    · rename_i h0
      obtain ⟨b1, b2⟩ := a3 h0
      exact h.newses _ _ _ (by omega) (by omega) a1 hc
    · exact h.newdown _ _ a1 hc
theorem DOk.agree (h : DOk x) : DOk x.agree := by
  unfold D.agree
  split
  · rename_i h2
    have := h.live (.inl h2)
    exact DOk.alive ⟨h.p, .inr (.inr (.inl rfl)), h.ses, fun _ => this, h.num, h.sent, h.odd, h.vn, h.len, h.byt, h.cmax, h.cval⟩
  · exact h
theorem DOk.go (h : DOk x) : DOk x.go := by
  unfold D.go
  split
  · rename_i h2
    have := h.live (.inr (.inl h2))
    exact DOk.alive ⟨h.p, .inr (.inr (.inr (.inl rfl))), h.ses, fun _ => this, h.num, h.sent, h.odd, (run_n _ _).trans h.vn, h.len, h.byt, h.cmax, h.cval⟩
  · exact h
theorem feed_sent (h : DOk x) (u : U) (h1 : u.num > x.num) (h2 : u.num < x.p.count) : IntKind.u32.wrap (x.sent + 1) = x.sent + 1 := by
  have := h.sent; have := h.p.count; rw [IntKind.wrap_u32]; omega
theorem DOk.feed (h : DOk x) (u : U) (hu : u.num > x.num) (hc : u.num < x.p.count) : DOk (x.feed u) := by
  have e := feed_sent h u hu hc
  have h1 := h.num; have h2 := h.sent
  exact ⟨h.p, h.st, h.ses, h.live, ⟨by show 0 ≤ u.num; omega, by show u.num ≤ x.p.count; omega⟩, ⟨by show 0 ≤ IntKind.u32.wrap (x.sent + 1); omega, by show IntKind.u32.wrap (x.sent + 1) ≤ u.num; omega⟩, z4, ((take_n _ _).trans (holds_n _ _)).trans h.vn, h.len, h.byt, h.cmax, h.cval⟩
theorem DOk.last (h : DOk x) (u : U) (hc : u.num = x.p.count) : DOk (x.last u) := by
  have h3 := h.p.count
  exact ⟨h.p, h.st, h.ses, h.live, ⟨by show 0 ≤ u.num; omega, by show u.num ≤ x.p.count; omega⟩, ⟨by show 0 ≤ x.p.count; omega, by show x.p.count ≤ u.num; omega⟩, z4, (trip_n _ _).trans h.vn, h.len, h.byt, h.cmax, h.cval⟩
theorem DOk.done (h : DOk x) : DOk { x with v := x.v.run false, state := 5 } :=
  ⟨h.p, .inr (.inr (.inr (.inr (.inl rfl)))), h.ses, fun e => by (change (5 : Int) = 2 ∨ (5 : Int) = 3 ∨ (5 : Int) = 4 at e); omega, h.num, h.sent, h.odd, (run_n _ _).trans h.vn, h.len, h.byt, h.cmax, h.cval⟩
theorem DOk.asked (h : DOk x) (sig : List Int) (u : U) : DOk (x.asked sig u).1 := by
  unfold D.asked
  split
  · split
    · split
      · exact h.stuck.begin sig
      · split
        · exact h.stuck
        · exact h.stuck
    · exact h.begin sig
  · exact h.stuck
theorem DOk.take (h : DOk x) (sig : List Int) (u : U) : DOk (x.take sig u).1 := by
  unfold D.take
  split
  · exact h.asked sig u
  · split
    · unfold D.echoed; split
      · exact h.agree
      · exact h.stuck
    · split
      · exact h.go
      · split
        · rename_i q; exact h.feed u q.2.1.2.2 q.2.2.2
        · split
          · rename_i q; exact (h.last u q.2.2).done
          · exact h.stuck
theorem DOk.receive (h : DOk x) (sig : List Int) (u : U) (e : Int) : DOk (x.receive sig u e).1 := by
  unfold D.receive
  (repeat' split) <;> first | exact h | exact h.take sig u
theorem DOk.write (h : DOk x) (l : List Int) (hb : Bool) (hl : By l) : DOk (x.write l hb).1 := by
  unfold D.write
  split
  · exact h
  · split
    · exact h
    · rename_i hh; exact ⟨h.p, h.st, h.ses, h.live, h.num, h.sent, h.odd, h.vn, by simpa using hh, hl, h.cmax, h.cval⟩
theorem DOk.since (h : DOk x) (n : Int) : DOk { x with since := n } := ⟨h.p, h.st, h.ses, h.live, h.num, h.sent, h.odd, h.vn, h.len, h.byt, h.cmax, h.cval⟩
theorem DOk.tick (h : DOk x) (n : Int) : DOk (x.tick n).1 := by
  unfold D.tick
  split
  · exact h
  · show DOk (if barks x.p.watch x.since n = true then ({ x with since := ticked x.p.watch x.since n } : D).trip 100 else { x with since := ticked x.p.watch x.since n })
    split
    · exact (h.since _).trip 100
    · exact h.since _
theorem DOk.ack (h : DOk x) : DOk x.ack.1 := by
  unfold D.ack
  split
  · exact h
  · exact ⟨h.p, h.st, h.ses, h.live, h.num, h.sent, h.odd, (ack_n _).trans h.vn, h.len, h.byt, h.cmax, h.cval⟩
theorem open_low (m : M) (h : ∀ k, 0 ≤ m.word k) : 0 ≤ m.open.2.1 := by
  have h0 := h 0; have h1 := h 1
  unfold M.open
  (repeat' split) <;> first | exact Int.le_refl _ | exact h0 | exact h1 | (show 0 ≤ max (m.word 0) (m.word 1); omega)
theorem DOk.reset (h : DOk x) (hm : MOk x.m) (n : Int) : DOk (x.reset n).1 := by
  have hw : ∀ k, 0 ≤ (x.reset0 n).m.word k := fun k => by
    have : (x.reset0 n).m.word k = x.m.word k := by unfold D.reset0; split <;> rfl
    rw [this]; exact (CellC.MOk.word hm k).1
  have ho := open_low _ hw
  unfold D.reset
  split
  · exact h.newlife ⟨x.c.max, _, false⟩ _ rfl ho
  · have h1 : DOk x.fresh := by have := h.newlife x.c x.m rfl h.cval; exact this
    exact h1.newdown x.c _ rfl h.cval
theorem DOk.arm (h : DOk x) (n : Int) : DOk { x with m := x.m.arm n } := ⟨h.p, h.st, h.ses, h.live, h.num, h.sent, h.odd, h.vn, h.len, h.byt, h.cmax, h.cval⟩
theorem DOk.new (p : P) (hp : POk p) (mx : Int) (h : 0 < mx) (h2 : mx < 4294967296) : DOk (D.new p mx) :=
  ⟨hp, .inl rfl, z0, fun e => by (change (1 : Int) = 2 ∨ (1 : Int) = 3 ∨ (1 : Int) = 4 at e); omega, ⟨Int.le_refl _, by have := hp.count; show (0 : Int) ≤ p.count; omega⟩, ⟨Int.le_refl _, Int.le_refl _⟩, z4, rfl, by have := hp.inn; show ((List.replicate p.inn.toNat (0 : Int)).length : Int) = p.inn; simp; omega, fun z hz => by (change z ∈ List.replicate p.inn.toNat (0 : Int) at hz); obtain ⟨_, rfl⟩ := List.mem_replicate.1 hz; omega, ⟨h, h2⟩, Int.le_refl _⟩
end DevC
namespace DevC
open Go Go.RowKit Gf SlC CrcW SlM Hp Sl Ow DiagC ValveC DogC Kx TM MemC CellC HostC EncW ParW UnW UEnc NumW UDecW
variable {G : Nat → Prop} {w w' w'' : World} {b d v g o lg k c m mb : Nat} {s : Value} {x y : D}
def Rep (G : Nat → Prop) (w w' : World) (b m mb : Nat) (e : Ending) (r : D × Option U × Int) : Prop :=
  ∃ f, e = .returned (.tuple #[f, .int .i64 r.2.2]) ∧ KG (GM G m mb) w w' ∧ devOf G w' b m mb r.1 ∧ FrameOf w w' f r.2.1
theorem Made.after {w w1 w2 : World} {f : Value} {l : List Int} (q : w.heap.size ≤ w1.heap.size) (h : Made w1 w2 f l) : Made w w2 f l := ⟨h.1, fun i hi => Nat.le_trans q (h.2 i hi)⟩
theorem FrameOf.after {w w1 w2 : World} {f : Value} {o : Option U} (q : w.heap.size ≤ w1.heap.size) (h : FrameOf w1 w2 f o) : FrameOf w w2 f o := by
  cases o with
  | none => exact h
  | some u => exact Made.after q h
theorem FrameOf.shape {w w1 : World} {f : Value} {o : Option U} (h : FrameOf w w1 f o) : ∃ p n c, f = .slice p n c := by
  cases o with
  | none => exact ⟨_, _, _, h⟩
  | some u => obtain ⟨p, c, e⟩ := Made.shape h; exact ⟨p, _, c, e⟩
theorem kgC (q : Kept [c, m, mb] w w') (gc : G c) : KG (GM G m mb) w w' := .of q (fun i hi => by simp at hi; rcases hi with rfl | rfl | rfl; exact .inl gc; exact .inr (.inl rfl); exact .inr (.inr rfl))
set_option maxRecDepth 100000 in
theorem beginX (hx : DOk x) (hG : Opn G w) (h : DAt G w b d v g o lg k c m mb s x) (hn : (x.c.next x.m).2.2.2 = 80) :
    Calls Tryz.prog 189 #[.pointer (some ⟨b, 0, none⟩)] w fun e w' => Rep G w w' b m mb e (x.begin (sigB x.p)) := by
  have eb : x.begin (sigB x.p) = (((x.trip 80).leave 5), some (((x.trip 80).leave 5).reply 22 0 []), 80) := by unfold D.begin; rw [if_pos hn]
  rw [eb]
  obtain ⟨a1, a2, a3, a4, a5⟩ := next_spec x.c x.m
  obtain ⟨b1, b2⟩ := a4 hn
  have NC := hid (CellC.next_call c m mb x.c x.m w h.mem h.cel hx.cval hx.cmax.2)
  rw [hn, b1, b2] at NC
  have HH := hid h
  have HX := hid hx
  have HG := hid hG
  have c7 := h.top.cell 7 (v := .pointer (some ⟨c, 0, none⟩)) rfl
  have L22 := hid (law22 (x := (x.trip 80).leave 5) hx.p)
  clear hx hG h hn eb a1 a2 a3 a4 a5 b1 b2
  go_enter Tryz.func189, Tryz.ntmps189
  go_wp2_with fail
  refine NC.out.mono ?_
  rintro e w1 ⟨rfl, k1, m1, i1⟩
  have H1 := hid (show DAt G w1 b d v g o lg k c m mb s x from HH.out.mems k1 m1 i1 rfl)
  have K1 := hid (kgC k1 HH.out.gc)
  clear k1 m1 i1
  go_wp2_with fail
  refine (trip_call 80 (by decide) (by decide) (HG.out.kg K1.out) H1.out).mono ?_
  rintro e w2 ⟨rfl, k2, h2⟩
  have H2 := hid h2
  have K2 := hid (K1.out.trans (kgM k2))
  clear k2 h2
  go_wp2_with fail
  refine (leave_call 5 H2.out).mono ?_
  rintro e w3 ⟨rfl, k3, h3⟩
  have H3 := hid h3
  have K3 := hid (K2.out.trans (kgM k3))
  clear k3 h3
  go_wp2_with fail
  refine (reply_call 22 0 [] (.slice none 0 0) (by decide) L22.out H3.out (bytes_none _) (by intro z hz; cases hz)).mono ?_
  rintro e w5 ⟨f, rfl, k5, m5⟩
  have M5 := hid m5
  have K5 := hid k5
  clear k5 m5
  obtain ⟨p5, n5, rfl⟩ := M5.out.shape
  go_wp2_with fail
  go_ret2
  exact ⟨_, rfl, K3.out.trans (.nil K5.out), (H3.out.nil K5.out).dev, Made.after K3.out.size M5.out⟩
set_option maxRecDepth 100000 in
theorem beginY (hx : DOk x) (hG : Opn G w) (h : DAt G w b d v g o lg k c m mb s x) (hn : (x.c.next x.m).2.2.2 = 0) :
    Calls Tryz.prog 189 #[.pointer (some ⟨b, 0, none⟩)] w fun e w' => Rep G w w' b m mb e (x.begin (sigB x.p)) := by
  have eb : x.begin (sigB x.p) = ({ ({ x with c := (x.c.next x.m).1, m := (x.c.next x.m).2.1 } : D).leave 2 with ses := (x.c.next x.m).2.2.1 },
      some (({ ({ x with c := (x.c.next x.m).1, m := (x.c.next x.m).2.1 } : D).leave 2 with ses := (x.c.next x.m).2.2.1 } : D).offer (sigB x.p)), 0) := by unfold D.begin; rw [if_neg (by omega), if_pos hn]
  rw [eb]
  obtain ⟨a1, a2, a3, a4, a5⟩ := next_spec x.c x.m
  obtain ⟨b1, b2⟩ := a3 hn
  have NC := hid (CellC.next_call c m mb x.c x.m w h.mem h.cel hx.cval hx.cmax.2)
  rw [hn] at NC
  have SP := hid (show 0 < (x.c.next x.m).2.2.1 by have := hx.cval; omega)
  have A1 := hid a1
  clear eb hn a1 a2 a3 a4 a5 b1 b2
  generalize x.c.next x.m = r at NC SP A1 ⊢
  obtain ⟨nc, nm, sv, ev⟩ := r
  simp only at NC SP A1 ⊢
  have HH := hid h
  have HX := hid hx
  have HG := hid hG
  have c7 := h.top.cell 7 (v := .pointer (some ⟨c, 0, none⟩)) rfl
  clear hx hG h
  go_enter Tryz.func189, Tryz.ntmps189
  go_wp2_with fail
  refine NC.out.mono ?_
  rintro e w1 ⟨rfl, k1, m1, i1⟩
  have H1 := hid (HH.out.mems k1 m1 i1 A1.out)
  have K1 := hid (kgC k1 HH.out.gc)
  clear k1 m1 i1
  go_wp2_with fail
  refine (leave_call 2 H1.out).mono ?_
  rintro e w3 ⟨rfl, k3, h3⟩
  have H3 := hid h3
  have K3 := hid (K1.out.trans (kgM k3))
  have c12 := H3.out.top.cell 12 (v := .int .u32 0) rfl
  have z12 := H3.out.top.free 12
  clear k3 h3
  go_wp2_with fail
  have H4 := hid (H3.out.set (y := { ({ x with c := nc, m := nm } : D).leave 2 with ses := sv }) 12 (.int .u32 sv) rfl rfl rfl rfl rfl rfl rfl)
  have K4 := hid (K3.out.set (i := 12) (v := .int .u32 sv) (.inl HH.out.gb))
  clear c12 z12
  generalize w3.setCell ⟨b, 12, none⟩ (.int .u32 sv) = w4 at H4 K4 ⊢
  refine (offer_call (x := { ({ x with c := nc, m := nm } : D).leave 2 with ses := sv }) HX.out.p SP.out H4.out).mono ?_
  rintro e w5 ⟨f, rfl, k5, m5⟩
  have M5 := hid m5
  have K5 := hid k5
  clear k5 m5
  obtain ⟨p5, n5, rfl⟩ := M5.out.shape
  go_wp2_with fail
  go_ret2
  exact ⟨_, rfl, K4.out.trans (.nil K5.out), (H4.out.nil K5.out).dev, Made.after K4.out.size M5.out⟩
set_option maxRecDepth 100000 in
theorem beginN (hx : DOk x) (hG : Opn G w) (h : DAt G w b d v g o lg k c m mb s x) (hn : (x.c.next x.m).2.2.2 = 70) :
    Calls Tryz.prog 189 #[.pointer (some ⟨b, 0, none⟩)] w fun e w' => Rep G w w' b m mb e (x.begin (sigB x.p)) := by
  have eb : x.begin (sigB x.p) = (({ x with c := (x.c.next x.m).1, m := (x.c.next x.m).2.1 } : D).down, none, 70) := by unfold D.begin; rw [if_neg (by omega), if_neg (by omega)]
  rw [eb]
  obtain ⟨a1, a2, a3, a4, a5⟩ := next_spec x.c x.m
  have NC := hid (CellC.next_call c m mb x.c x.m w h.mem h.cel hx.cval hx.cmax.2)
  rw [hn] at NC
  have A1 := hid a1
  clear eb hn a1 a2 a3 a4 a5
  generalize x.c.next x.m = r at NC A1 ⊢
  obtain ⟨nc, nm, sv, ev⟩ := r
  simp only at NC A1 ⊢
  have HH := hid h
  have HX := hid hx
  have HG := hid hG
  have c7 := h.top.cell 7 (v := .pointer (some ⟨c, 0, none⟩)) rfl
  clear hx hG h
  go_enter Tryz.func189, Tryz.ntmps189
  go_wp2_with fail
  refine NC.out.mono ?_
  rintro e w1 ⟨rfl, k1, m1, i1⟩
  have H1 := hid (HH.out.mems k1 m1 i1 A1.out)
  have K1 := hid (kgC k1 HH.out.gc)
  clear k1 m1 i1
  go_wp2_with fail
  refine (down_call (x := { x with m := nm, c := nc }) HX.out.p (HG.out.kg K1.out) H1.out).mono ?_
  rintro e w3 ⟨rfl, k3, d3, v3, g3, o3, kk3, s3, h3⟩
  have H3 := hid h3
  have K3 := hid (K1.out.trans (kgM k3))
  clear k3 h3
  go_wp2_with fail
  go_ret2
  exact ⟨_, rfl, K3.out, H3.out.dev, rfl⟩
theorem begin_call (hx : DOk x) (hG : Opn G w) (h : DAt G w b d v g o lg k c m mb s x) :
    Calls Tryz.prog 189 #[.pointer (some ⟨b, 0, none⟩)] w fun e w' => Rep G w w' b m mb e (x.begin (sigB x.p)) := by
  rcases (next_spec x.c x.m).2.2.2.2 with hn | hn | hn
  · exact beginY hx hG h hn
  · exact beginX hx hG h hn
  · exact beginN hx hG h hn
end DevC
end Go.Proofs.YtinaliblnihpbaaGreat
