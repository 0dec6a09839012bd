/- The walks and the plain laws of DevG, DevT, DevK, DevH. -/
import Derived.Test.YtinaliblnihpbaaGreatZ10
set_option linter.unusedVariables false
set_option linter.unusedSimpArgs false
namespace Go.Proofs.YtinaliblnihpbaaGreat.DevC
open Go Go.RowKit Gf SlC CrcW SlM Hp Sl Ow DiagC ValveC DogC Kx TM MemC CellC HostC EncW ParW UnW UEnc NumW UDecW
variable {G : Nat → Prop} {w w' w'' : World} {b d v g o lg k c m mb : Nat} {s : Value} {x y : D}
theorem DAt.memo {z : M} (h : DAt G w b d v g o lg k c m mb s x) (q : Kept [m, mb] w w') (hm : IsMem w' m mb z) : DAt G w' b d v g o lg k c m mb s { x with m := z } := by
  have hc := CellC.IsCell.neM h.cel h.mem
  exact (h.mems (q := x.c) (q.mono (by intro i hi; simp at hi ⊢; exact .inr hi)) hm (q.has h.cel (by simp; exact hc)) rfl)
theorem DAt.newcell {c' : Nat} {q : C} (h : DAt G w b d v g o lg k c m mb s x) (hc : IsCell w c' m q) (gc : G c') (eq : q.max = x.c.max) : DAt G (w.setCell ⟨b, 7, none⟩ (.pointer (some ⟨c', 0, none⟩))) b d v g o lg k c' m mb s { x with c := q } := by
  have k1 := (Kept.refl [b] w).set ⟨b, 7, none⟩ (.pointer (some ⟨c', 0, none⟩)) (by simp)
  obtain ⟨⟨c4, m1⟩, ⟨c5, m2⟩⟩ := memH h.mem
  have ht : Has (w.setCell ⟨b, 7, none⟩ (.pointer (some ⟨c', 0, none⟩))) b 142 (dcells m c' d v lg s { x with c := q }) := by
    have := h.top.set 7 (.pointer (some ⟨c', 0, none⟩))
    unfold dcells at this ⊢; simp only [eq]; exact this
  exact ⟨ht, h.dog.kept k1 (by simpa using Ow.Has.ne h.dog.has h.top (by decide)), h.val.kept2 k1 (fun i hi hl => by simp at hi; subst hi; exact ⟨_, _, h.top, by decide, by decide, by decide, by decide⟩), Kx.IsLog.kept2 h.log k1 (fun i hi hl => .inr (by simp at hi; subst hi; exact ⟨_, _, h.top, by decide⟩)), h.own.kept k1 (by simpa using ValveC.Own.ne h.own h.top (by decide)), k1.has hc (by simpa using Ow.Has.ne hc h.top (by decide)), h.mem.kept k1 (by simpa using Ow.Has.ne m1 h.top (by decide)) (by simpa using Ow.Has.ne m2 h.top (by decide)), h.gb, h.gd, h.gv, h.gg, h.go, h.gk, gc, h.nm, h.nmb⟩
theorem kgm2 (q : Kept [m, mb] w w') : KG (GM G m mb) w w' := .of q (fun i hi => by simp at hi; rcases hi with rfl | rfl; exact .inr (.inl rfl); exact .inr (.inr rfl))
theorem opn_at {G' : Nat → Prop} (h : Opn G w) (k : KG G' w w') {i : Nat} (hi : w'.heap.size ≤ i) : G i := h i (Nat.le_trans k.size hi)
theorem open_y (m mb : Nat) (z : M) (mx : Int) (hmx : mx ≠ 0) (w : World) (h : IsMem w m mb z) (mz : M) (vz ez : Int) (ho : z.open = (mz, vz, ez)) (hz : ez = 0) :
    Calls Tryz.prog 61 #[.pointer (some ⟨m, 0, none⟩), .int .u32 mx] w fun e w' => ∃ c, w.heap.size ≤ c ∧ e = .returned (.tuple #[.pointer (some ⟨c, 0, none⟩), .int .i64 0]) ∧ Kept [m, mb] w w' ∧ IsMem w' m mb mz ∧ IsCell w' c m ⟨mx, vz, false⟩ := by
  refine (CellC.open_call m mb z mx hmx w h).mono ?_
  rintro e w5 ⟨k5, m5, o5⟩
  unfold CellC.Opened at o5
  rw [ho] at m5 o5
  rcases o5 with ⟨_, c', hc', rfl, ic⟩ | ⟨h, _⟩
  · exact ⟨c', hc', rfl, k5, m5, ic⟩
  · exact absurd hz h
theorem open_n (m mb : Nat) (z : M) (mx : Int) (hmx : mx ≠ 0) (w : World) (h : IsMem w m mb z) (mz : M) (vz ez : Int) (ho : z.open = (mz, vz, ez)) (hz : ez ≠ 0) :
    Calls Tryz.prog 61 #[.pointer (some ⟨m, 0, none⟩), .int .u32 mx] w fun e w' => e = .returned (.tuple #[.pointer none, .int .i64 ez]) ∧ Kept [m, mb] w w' ∧ IsMem w' m mb mz := by
  refine (CellC.open_call m mb z mx hmx w h).mono ?_
  rintro e w5 ⟨k5, m5, o5⟩
  unfold CellC.Opened at o5
  rw [ho] at m5 o5
  rcases o5 with ⟨h, _⟩ | ⟨_, rfl⟩
  · exact absurd h hz
  · exact ⟨rfl, k5, m5⟩
theorem DAt.neb (h : DAt G w b d v g o lg k c m mb s x) : b ∉ [m, mb] := by
  obtain ⟨⟨c4, m1⟩, ⟨c5, m2⟩⟩ := memH h.mem
  have a1 := Ow.Has.ne h.top m1 (by decide); have a2 := Ow.Has.ne h.top m2 (by decide)
  simp; exact ⟨a1, a2⟩
set_option maxRecDepth 100000 in
theorem reset1y (hx : DOk x) (n : Int) (h0 : n > 0) (hn2 : n < 9223372036854775808) (hG : Opn G w) (h : DAt G w b d v g o lg k c m mb s x) (mz : M) (vz ez : Int) (ho : (x.m.on.arm (n - 1)).open = (mz, vz, ez)) (hz : ez = 0) :
    Calls Tryz.prog 79 #[.pointer (some ⟨b, 0, none⟩), .int .i64 n] w fun e w' => e = .returned (.int .i64 0) ∧ KG (GM G m mb) w w' ∧ devOf G w' b m mb { x.fresh with m := mz, c := ⟨x.c.max, vz, false⟩ } := by
  have e0 : decide (n < 0) = false := by simp; omega
  have e1 : decide (n > 0) = true := by simpa using h0
  have e2 : wrap64 (n - 1) = n - 1 := wrap64_id (by omega) (by omega)
  have N1 := Lib.hid (show 0 ≤ n - 1 by omega)
  have N2 := Lib.hid (show n - 1 < 9223372036854775808 by omega)
  have FC := Lib.hid (fresh_call hx.p hG h)
  have HX := Lib.hid hx
  have HG := Lib.hid hG
  have GB := Lib.hid h.gb
  have HO := Lib.hid ho
  have EZ := Lib.hid hz
  clear hx hG h ho hz h0 hn2
  go_enter Tryz.func79, Tryz.ntmps79
  go_wp2_with fail
  refine FC.out.mono ?_
  rintro e w1 ⟨rfl, k1, d1, v1, g1, o1, kk, s1, h1⟩
  have K1 := Lib.hid (kgM (m := m) (mb := mb) k1)
  have H1 := Lib.hid h1
  have c5 := h1.top.cell 5 (v := .pointer (some ⟨m, 0, none⟩)) rfl
  clear k1 h1
  go_wp2_with fail
  refine (MemC.on_call m mb _ _ H1.out.mem).mono ?_
  rintro e w2 ⟨rfl, k2, m2⟩
  have H2 := Lib.hid (H1.out.memo (k2.mono (by simp)) m2)
  have K2 := Lib.hid (K1.out.trans (kgm2 (k2.mono (by simp))))
  have c5' := H2.out.top.cell 5 (v := .pointer (some ⟨m, 0, none⟩)) rfl
  have c6' := H2.out.top.cell 6 (v := .int .u32 x.c.max) rfl
  clear k2 m2 c5
  go_wp2_with fail
  rw [e2]
  refine (MemC.arm_call m mb _ (n - 1) N1.out N2.out _ H2.out.mem).mono ?_
  rintro e w3 ⟨rfl, k3, m3⟩
  have H3 := Lib.hid (H2.out.memo (k3.mono (by simp)) m3)
  have K3 := Lib.hid (K2.out.trans (kgm2 (k3.mono (by simp))))
  clear k3 m3 c5' c6'
  have c5' := H3.out.top.cell 5 (v := .pointer (some ⟨m, 0, none⟩)) rfl
  have c6' := H3.out.top.cell 6 (v := .int .u32 x.c.max) rfl
  go_wp2_with fail
  have f5 : w3.drew.cell? ⟨b, 5, none⟩ = some (.pointer (some ⟨m, 0, none⟩)) := c5'
  have f6 : w3.drew.cell? ⟨b, 6, none⟩ = some (.int .u32 x.c.max) := c6'
  have H4 := Lib.hid (H3.out.nil ((Kept.refl [] w3).drew))
  have K4 := Lib.hid K3.out.drew
  have OC := Lib.hid (open_y m mb _ x.c.max (by have := HX.out.cmax; omega) w3.drew H4.out.mem mz vz ez HO.out EZ.out)
  have nb := H4.out.neb
  have SK := Lib.hid (show ∀ w', Kept [m, mb] w3.drew w' → (w'.cell? ⟨b, 5, none⟩ = some (.pointer (some ⟨m, 0, none⟩)) ∧ w'.cell? ⟨b, 6, none⟩ = some (.int .u32 x.c.max)) from fun w' q => ⟨(q.has H4.out.top nb).cell 5 rfl, (q.has H4.out.top nb).cell 6 rfl⟩)
  have dd := And.intro f5 f6
  go_region_held3 (fun w' => w'.cell? ⟨b, 5, none⟩ = some (.pointer (some ⟨m, 0, none⟩)) ∧ w'.cell? ⟨b, 6, none⟩ = some (.int .u32 x.c.max)) (with_reducible assumption) ((go_at_call 61; with_reducible refine OC.out.mono ?_; rintro e w5 ⟨c', hc', rfl, k5, m5, ic⟩; have dd2 := SK.out _ k5; have K5 := Lib.hid (K4.out.trans (kgm2 k5)); have H5 := Lib.hid (H4.out.memo k5 m5); have IC := Lib.hid ic; have GC := Lib.hid (opn_at HG.out K4.out hc'); clear k5 m5 ic hc'))
  clear dd dd2 f5 f6 c5' c6' nb
  have c7 := H5.out.top.cell 7 (v := .pointer (some ⟨c, 0, none⟩)) rfl
  have z7 := H5.out.top.free 7
  go_wp2_with fail
  go_ret
  exact ⟨rfl, K5.out.set (i := 7) (v := .pointer (some ⟨c', 0, none⟩)) (.inl GB.out), (H5.out.newcell IC.out GC.out rfl).dev⟩
set_option maxRecDepth 100000 in
theorem reset1n (hx : DOk x) (n : Int) (h0 : n > 0) (hn2 : n < 9223372036854775808) (hG : Opn G w) (h : DAt G w b d v g o lg k c m mb s x) (mz : M) (vz ez : Int) (ho : (x.m.on.arm (n - 1)).open = (mz, vz, ez)) (hz : ez ≠ 0) :
    Calls Tryz.prog 79 #[.pointer (some ⟨b, 0, none⟩), .int .i64 n] w fun e w' => e = .returned (.int .i64 ez) ∧ KG (GM G m mb) w w' ∧ devOf G w' b m mb { x.fresh with m := mz }.down := by
  have e0 : decide (n < 0) = false := by simp; omega
  have e1 : decide (n > 0) = true := by simpa using h0
  have e2 : wrap64 (n - 1) = n - 1 := wrap64_id (by omega) (by omega)
  have N1 := Lib.hid (show 0 ≤ n - 1 by omega)
  have N2 := Lib.hid (show n - 1 < 9223372036854775808 by omega)
  have FC := Lib.hid (fresh_call hx.p hG h)
  have HX := Lib.hid hx
  have HG := Lib.hid hG
  have GB := Lib.hid h.gb
  have HO := Lib.hid ho
  have EZ := Lib.hid hz
  have e9 : (ez != 0) = true := by simp [hz]
  clear hx hG h ho hz h0 hn2
  go_enter Tryz.func79, Tryz.ntmps79
  go_wp2_with fail
  refine FC.out.mono ?_
  rintro e w1 ⟨rfl, k1, d1, v1, g1, o1, kk, s1, h1⟩
  have K1 := Lib.hid (kgM (m := m) (mb := mb) k1)
  have H1 := Lib.hid h1
  have c5 := h1.top.cell 5 (v := .pointer (some ⟨m, 0, none⟩)) rfl
  clear k1 h1
  go_wp2_with fail
  refine (MemC.on_call m mb _ _ H1.out.mem).mono ?_
  rintro e w2 ⟨rfl, k2, m2⟩
  have H2 := Lib.hid (H1.out.memo (k2.mono (by simp)) m2)
  have K2 := Lib.hid (K1.out.trans (kgm2 (k2.mono (by simp))))
  have c5' := H2.out.top.cell 5 (v := .pointer (some ⟨m, 0, none⟩)) rfl
  have c6' := H2.out.top.cell 6 (v := .int .u32 x.c.max) rfl
  clear k2 m2 c5
  go_wp2_with fail
  rw [e2]
  refine (MemC.arm_call m mb _ (n - 1) N1.out N2.out _ H2.out.mem).mono ?_
  rintro e w3 ⟨rfl, k3, m3⟩
  have H3 := Lib.hid (H2.out.memo (k3.mono (by simp)) m3)
  have K3 := Lib.hid (K2.out.trans (kgm2 (k3.mono (by simp))))
  clear k3 m3 c5' c6'
  have c5' := H3.out.top.cell 5 (v := .pointer (some ⟨m, 0, none⟩)) rfl
  have c6' := H3.out.top.cell 6 (v := .int .u32 x.c.max) rfl
  go_wp2_with fail
  have f5 : w3.drew.cell? ⟨b, 5, none⟩ = some (.pointer (some ⟨m, 0, none⟩)) := c5'
  have f6 : w3.drew.cell? ⟨b, 6, none⟩ = some (.int .u32 x.c.max) := c6'
  have H4 := Lib.hid (H3.out.nil ((Kept.refl [] w3).drew))
  have K4 := Lib.hid K3.out.drew
  have OC := Lib.hid (open_n m mb _ x.c.max (by have := HX.out.cmax; omega) w3.drew H4.out.mem mz vz ez HO.out EZ.out)
  have nb := H4.out.neb
  have SK := Lib.hid (show ∀ w', Kept [m, mb] w3.drew w' → (w'.cell? ⟨b, 5, none⟩ = some (.pointer (some ⟨m, 0, none⟩)) ∧ w'.cell? ⟨b, 6, none⟩ = some (.int .u32 x.c.max)) from fun w' q => ⟨(q.has H4.out.top nb).cell 5 rfl, (q.has H4.out.top nb).cell 6 rfl⟩)
  have dd := And.intro f5 f6
  go_region_held3 (fun w' => w'.cell? ⟨b, 5, none⟩ = some (.pointer (some ⟨m, 0, none⟩)) ∧ w'.cell? ⟨b, 6, none⟩ = some (.int .u32 x.c.max)) (with_reducible assumption) ((go_at_call 61; with_reducible refine OC.out.mono ?_; rintro e w5 ⟨rfl, k5, m5⟩; have dd2 := SK.out _ k5; have K5 := Lib.hid (K4.out.trans (kgm2 k5)); have H5 := Lib.hid (H4.out.memo k5 m5); clear k5 m5))
  clear dd dd2 f5 f6 c5' c6' nb
  have DC := Lib.hid (down_call (by exact HX.out.p) (HG.out.kg K5.out) H5.out)
  go_wp2_with fail
  refine DC.out.mono ?_
  rintro e w6 ⟨rfl, k6, d6, v6, g6, o6, kk6, s6, h6⟩
  have K6 := Lib.hid (K5.out.trans (kgM k6))
  have H6 := Lib.hid h6
  clear k6 h6
  go_wp2_with fail
  go_ret
  exact ⟨rfl, K6.out, H6.out.dev⟩
set_option maxRecDepth 100000 in
theorem reset0y (hx : DOk x) (n : Int) (h0 : n = 0) (hG : Opn G w) (h : DAt G w b d v g o lg k c m mb s x) (mz : M) (vz ez : Int) (ho : (x.m.on).open = (mz, vz, ez)) (hz : ez = 0) :
    Calls Tryz.prog 79 #[.pointer (some ⟨b, 0, none⟩), .int .i64 n] w fun e w' => e = .returned (.int .i64 0) ∧ KG (GM G m mb) w w' ∧ devOf G w' b m mb { x.fresh with m := mz, c := ⟨x.c.max, vz, false⟩ } := by
  subst h0
  have FC := Lib.hid (fresh_call hx.p hG h)
  have HX := Lib.hid hx
  have HG := Lib.hid hG
  have GB := Lib.hid h.gb
  have HO := Lib.hid ho
  have EZ := Lib.hid hz
  clear hx hG h ho hz 
  go_enter Tryz.func79, Tryz.ntmps79
  go_wp2_with fail
  refine FC.out.mono ?_
  rintro e w1 ⟨rfl, k1, d1, v1, g1, o1, kk, s1, h1⟩
  have K1 := Lib.hid (kgM (m := m) (mb := mb) k1)
  have H1 := Lib.hid h1
  have c5 := h1.top.cell 5 (v := .pointer (some ⟨m, 0, none⟩)) rfl
  clear k1 h1
  go_wp2_with fail
  refine (MemC.on_call m mb _ _ H1.out.mem).mono ?_
  rintro e w2 ⟨rfl, k2, m2⟩
  have H2 := Lib.hid (H1.out.memo (k2.mono (by simp)) m2)
  have K2 := Lib.hid (K1.out.trans (kgm2 (k2.mono (by simp))))
  have c5' := H2.out.top.cell 5 (v := .pointer (some ⟨m, 0, none⟩)) rfl
  have c6' := H2.out.top.cell 6 (v := .int .u32 x.c.max) rfl
  clear k2 m2 c5
  have H3 := Lib.hid H2.out
  have K3 := Lib.hid K2.out
  go_wp2_with fail
  have f5 : w2.drew.cell? ⟨b, 5, none⟩ = some (.pointer (some ⟨m, 0, none⟩)) := c5'
  have f6 : w2.drew.cell? ⟨b, 6, none⟩ = some (.int .u32 x.c.max) := c6'
  have H4 := Lib.hid (H3.out.nil ((Kept.refl [] w2).drew))
  have K4 := Lib.hid K3.out.drew
  have OC := Lib.hid (open_y m mb _ x.c.max (by have := HX.out.cmax; omega) w2.drew H4.out.mem mz vz ez HO.out EZ.out)
  have nb := H4.out.neb
  have SK := Lib.hid (show ∀ w', Kept [m, mb] w2.drew w' → (w'.cell? ⟨b, 5, none⟩ = some (.pointer (some ⟨m, 0, none⟩)) ∧ w'.cell? ⟨b, 6, none⟩ = some (.int .u32 x.c.max)) from fun w' q => ⟨(q.has H4.out.top nb).cell 5 rfl, (q.has H4.out.top nb).cell 6 rfl⟩)
  have dd := And.intro f5 f6
  go_region_held3 (fun w' => w'.cell? ⟨b, 5, none⟩ = some (.pointer (some ⟨m, 0, none⟩)) ∧ w'.cell? ⟨b, 6, none⟩ = some (.int .u32 x.c.max)) (with_reducible assumption) ((go_at_call 61; with_reducible refine OC.out.mono ?_; rintro e w5 ⟨c', hc', rfl, k5, m5, ic⟩; have dd2 := SK.out _ k5; have K5 := Lib.hid (K4.out.trans (kgm2 k5)); have H5 := Lib.hid (H4.out.memo k5 m5); have IC := Lib.hid ic; have GC := Lib.hid (opn_at HG.out K4.out hc'); clear k5 m5 ic hc'))
  clear dd dd2 f5 f6 c5' c6' nb
  have c7 := H5.out.top.cell 7 (v := .pointer (some ⟨c, 0, none⟩)) rfl
  have z7 := H5.out.top.free 7
  go_wp2_with fail
  go_ret
  exact ⟨rfl, K5.out.set (i := 7) (v := .pointer (some ⟨c', 0, none⟩)) (.inl GB.out), (H5.out.newcell IC.out GC.out rfl).dev⟩
set_option maxRecDepth 100000 in
theorem reset0n (hx : DOk x) (n : Int) (h0 : n = 0) (hG : Opn G w) (h : DAt G w b d v g o lg k c m mb s x) (mz : M) (vz ez : Int) (ho : (x.m.on).open = (mz, vz, ez)) (hz : ez ≠ 0) :
    Calls Tryz.prog 79 #[.pointer (some ⟨b, 0, none⟩), .int .i64 n] w fun e w' => e = .returned (.int .i64 ez) ∧ KG (GM G m mb) w w' ∧ devOf G w' b m mb { x.fresh with m := mz }.down := by
  subst h0
  have FC := Lib.hid (fresh_call hx.p hG h)
  have HX := Lib.hid hx
  have HG := Lib.hid hG
  have GB := Lib.hid h.gb
  have HO := Lib.hid ho
  have EZ := Lib.hid hz
  have e9 : (ez != 0) = true := by simp [hz]
  clear hx hG h ho hz 
  go_enter Tryz.func79, Tryz.ntmps79
  go_wp2_with fail
  refine FC.out.mono ?_
  rintro e w1 ⟨rfl, k1, d1, v1, g1, o1, kk, s1, h1⟩
  have K1 := Lib.hid (kgM (m := m) (mb := mb) k1)
  have H1 := Lib.hid h1
  have c5 := h1.top.cell 5 (v := .pointer (some ⟨m, 0, none⟩)) rfl
  clear k1 h1
  go_wp2_with fail
  refine (MemC.on_call m mb _ _ H1.out.mem).mono ?_
  rintro e w2 ⟨rfl, k2, m2⟩
  have H2 := Lib.hid (H1.out.memo (k2.mono (by simp)) m2)
  have K2 := Lib.hid (K1.out.trans (kgm2 (k2.mono (by simp))))
  have c5' := H2.out.top.cell 5 (v := .pointer (some ⟨m, 0, none⟩)) rfl
  have c6' := H2.out.top.cell 6 (v := .int .u32 x.c.max) rfl
  clear k2 m2 c5
  have H3 := Lib.hid H2.out
  have K3 := Lib.hid K2.out
  go_wp2_with fail
  have f5 : w2.drew.cell? ⟨b, 5, none⟩ = some (.pointer (some ⟨m, 0, none⟩)) := c5'
  have f6 : w2.drew.cell? ⟨b, 6, none⟩ = some (.int .u32 x.c.max) := c6'
  have H4 := Lib.hid (H3.out.nil ((Kept.refl [] w2).drew))
  have K4 := Lib.hid K3.out.drew
  have OC := Lib.hid (open_n m mb _ x.c.max (by have := HX.out.cmax; omega) w2.drew H4.out.mem mz vz ez HO.out EZ.out)
  have nb := H4.out.neb
  have SK := Lib.hid (show ∀ w', Kept [m, mb] w2.drew w' → (w'.cell? ⟨b, 5, none⟩ = some (.pointer (some ⟨m, 0, none⟩)) ∧ w'.cell? ⟨b, 6, none⟩ = some (.int .u32 x.c.max)) from fun w' q => ⟨(q.has H4.out.top nb).cell 5 rfl, (q.has H4.out.top nb).cell 6 rfl⟩)
  have dd := And.intro f5 f6
  go_region_held3 (fun w' => w'.cell? ⟨b, 5, none⟩ = some (.pointer (some ⟨m, 0, none⟩)) ∧ w'.cell? ⟨b, 6, none⟩ = some (.int .u32 x.c.max)) (with_reducible assumption) ((go_at_call 61; with_reducible refine OC.out.mono ?_; rintro e w5 ⟨rfl, k5, m5⟩; have dd2 := SK.out _ k5; have K5 := Lib.hid (K4.out.trans (kgm2 k5)); have H5 := Lib.hid (H4.out.memo k5 m5); clear k5 m5))
  clear dd dd2 f5 f6 c5' c6' nb
  have DC := Lib.hid (down_call (by exact HX.out.p) (HG.out.kg K5.out) H5.out)
  go_wp2_with fail
  refine DC.out.mono ?_
  rintro e w6 ⟨rfl, k6, d6, v6, g6, o6, kk6, s6, h6⟩
  have K6 := Lib.hid (K5.out.trans (kgM k6))
  have H6 := Lib.hid h6
  clear k6 h6
  go_wp2_with fail
  go_ret
  exact ⟨rfl, K6.out, H6.out.dev⟩
theorem reset_call (hx : DOk x) (n : Int) (hn : 0 ≤ n) (hn2 : n < 9223372036854775808) (hG : Opn G w) (h : DAt G w b d v g o lg k c m mb s x) :
    Calls Tryz.prog 79 #[.pointer (some ⟨b, 0, none⟩), .int .i64 n] w fun e w' => e = .returned (.int .i64 (x.reset n).2) ∧ KG (GM G m mb) w w' ∧ devOf G w' b m mb (x.reset n).1 := by
  rcases ho : ((x.reset0 n).m.open) with ⟨mz, vz, ez⟩
  have er : x.reset n = if ez = 0 then ({ x.reset0 n with m := mz, c := ⟨x.c.max, vz, false⟩ }, 0) else ({ x.reset0 n with m := mz }.down, ez) := by
    unfold D.reset; rw [ho]
  rw [er]
  by_cases h0 : n > 0
  · have em : x.reset0 n = { x.fresh with m := x.m.on.arm (n - 1) } := by unfold D.reset0; rw [if_pos h0]
    rw [em] at ho ⊢
    by_cases hz : ez = 0
    · rw [if_pos hz]; exact reset1y hx n h0 hn2 hG h mz vz ez ho hz
    · rw [if_neg hz]; exact reset1n hx n h0 hn2 hG h mz vz ez ho hz
  · have em : x.reset0 n = { x.fresh with m := x.m.on } := by unfold D.reset0; rw [if_neg h0]
    rw [em] at ho ⊢
    by_cases hz : ez = 0
    · rw [if_pos hz]; exact reset0y hx n (by omega) hG h mz vz ez ho hz
    · rw [if_neg hz]; exact reset0n hx n (by omega) hG h mz vz ez ho hz
set_option maxRecDepth 100000 in
theorem new_call (p : P) (hp : POk p) (mx : Int) (hmx : 0 < mx) (m mb : Nat) (w : World) (hG : Opn G w) (hm : IsMem w m mb M.new) (nm : ¬ G m) (nmb : ¬ G mb) :
    Calls Tryz.prog 31 #[pval p, .pointer (some ⟨m, 0, none⟩), .int .u32 mx] w fun e w' => ∃ b, e = .returned (.tuple #[.pointer (some ⟨b, 0, none⟩), .int .i64 0]) ∧ KG (GM G m mb) w w' ∧ devOf G w' b m mb (D.new p mx) ∧ w.heap.size ≤ b := by
  have HP := Lib.hid hp
  have HG := Lib.hid hG
  have HM := Lib.hid hm
  have HMX := Lib.hid hmx
  have NM := Lib.hid (And.intro nm nmb)
  have CK := Lib.hid (fun w => check_call p HP.out w)
  clear hp hG hm hmx nm nmb
  unfold pval at CK ⊢
  go_enter Tryz.func31, Tryz.ntmps31
  go_wp2_with fail
  have K0 := Lib.hid ((Kept.refl [] w).alloc (.cells #[.int .u32 p.code, .int .i64 p.out, .int .i64 p.inn, .int .i64 p.watch, .int .u32 p.count] 50))
  have P0 := Lib.hid (Has.new w 50 [.int .u32 p.code, .int .i64 p.out, .int .i64 p.inn, .int .i64 p.watch, .int .u32 p.count])
  generalize w.alloc (.cells #[.int .u32 p.code, .int .i64 p.out, .int .i64 p.inn, .int .i64 p.watch, .int .u32 p.count] 50) = w0 at K0 P0 ⊢
  obtain ⟨R, hR⟩ : ∃ R, R = w.heap.size := ⟨_, rfl⟩
  rw [← hR] at P0 ⊢
  clear hR
  refine (CK.out w0).mono ?_
  rintro e w1 ⟨rfl, k1⟩
  have K1 := Lib.hid (K0.out.trans k1)
  have P1 := Lib.hid (k1.has P0.out (by simp))
  have M1 := Lib.hid (HM.out.kept K1.out (by simp) (by simp))
  clear k1
  go_wp2_with fail
  have mx0 : mx ≠ 0 := by have := HMX.out; omega
  refine (open_y m mb M.new mx mx0 w1 M1.out M.new 0 0 rfl rfl).mono ?_
  clear mx0
  rintro e w2 ⟨c', hc', rfl, k2, m2, ic⟩
  have K2 := Lib.hid ((KG.nil (G := GM G m mb) K1.out).trans (kgm2 k2))
  have GC := Lib.hid (opn_at HG.out (KG.nil (G := G) K1.out) hc')
  obtain ⟨⟨c4, m4⟩, ⟨c5, m5⟩⟩ := memH (x := ⟨p, M.new, ⟨mx, 0, false⟩, 0, V.new p.out, 1, 0, 0, 0, 0, [], false⟩) M1.out
  have P2 := Lib.hid (k2.has P1.out (by have a1 := Ow.Has.ne P1.out m4 (by decide); have a2 := Ow.Has.ne P1.out m5 (by decide); simp; exact ⟨a1, a2⟩))
  have M2 := Lib.hid m2
  have C2 := Lib.hid ic
  clear k2 m2 ic hc' m4 m5
  go_wp2_with fail
  have SK := Lib.hid (show ∀ w', Kept [] w2 w' → (w'.cell? ⟨R, 0, none⟩ = some (.int .u32 p.code) ∧ w'.cell? ⟨R, 1, none⟩ = some (.int .i64 p.out) ∧ w'.cell? ⟨R, 2, none⟩ = some (.int .i64 p.inn) ∧ w'.cell? ⟨R, 3, none⟩ = some (.int .i64 p.watch) ∧ w'.cell? ⟨R, 4, none⟩ = some (.int .u32 p.count)) from fun w' q => ⟨(q.has P2.out (by simp)).cell 0 rfl, (q.has P2.out (by simp)).cell 1 rfl, (q.has P2.out (by simp)).cell 2 rfl, (q.has P2.out (by simp)).cell 3 rfl, (q.has P2.out (by simp)).cell 4 rfl⟩)
  have dd := SK.out _ ((Kept.refl [] w2).drew)
  have HG2 := Lib.hid (HG.out.kg K2.out.drew)
  have DN := Lib.hid (DiagC.new_call G w2.drew HG2.out)
  go_region_held3 (fun w' => w'.cell? ⟨R, 0, none⟩ = some (.int .u32 p.code) ∧ w'.cell? ⟨R, 1, none⟩ = some (.int .i64 p.out) ∧ w'.cell? ⟨R, 2, none⟩ = some (.int .i64 p.inn) ∧ w'.cell? ⟨R, 3, none⟩ = some (.int .i64 p.watch) ∧ w'.cell? ⟨R, 4, none⟩ = some (.int .u32 p.count)) (first | with_reducible assumption | with_reducible exact SK.out _ (KW.out.alloc _)) ((go_at_call 59; with_reducible refine DN.out.mono ?_; rintro e w3 ⟨lg, rfl, k3, h3, l3⟩; have KW := Lib.hid (((Kept.refl [] w2).drew).trans k3); have dd2 := SK.out _ (((Kept.refl [] w2).drew).trans k3); have L3 := Lib.hid h3; clear k3 h3 l3))
  clear dd dd2
  have K4 := Lib.hid (KW.out.alloc (.cells #[.int .u32 p.code, .int .i64 p.out, .int .i64 p.inn, .int .i64 p.watch, .int .u32 p.count, .pointer (some ⟨m, 0, none⟩), .int .u32 mx, .pointer (some ⟨c', 0, none⟩), .pointer none, .pointer none, .pointer (some ⟨lg, 0, none⟩), .int .i64 0, .int .u32 0, .int .u32 0, .int .u32 0, .int .i64 0, .slice none 0 0, .bool false] 142))
  have T4 := Lib.hid (show Has _ _ 142 (qcells p (.pointer (some ⟨m, 0, none⟩)) (.int .u32 mx) (.pointer (some ⟨c', 0, none⟩)) (.pointer none) (.pointer none) lg (.int .i64 0) (.int .u32 0) (.int .u32 0) (.int .u32 0) (.int .i64 0) (.slice none 0 0) (.bool false)) from Has.new w3 142 [.int .u32 p.code, .int .i64 p.out, .int .i64 p.inn, .int .i64 p.watch, .int .u32 p.count, .pointer (some ⟨m, 0, none⟩), .int .u32 mx, .pointer (some ⟨c', 0, none⟩), .pointer none, .pointer none, .pointer (some ⟨lg, 0, none⟩), .int .i64 0, .int .u32 0, .int .u32 0, .int .u32 0, .int .i64 0, .slice none 0 0, .bool false])
  have L4 := Lib.hid (L3.out.kept ((Kept.refl [] w3).alloc (.cells #[.int .u32 p.code, .int .i64 p.out, .int .i64 p.inn, .int .i64 p.watch, .int .u32 p.count, .pointer (some ⟨m, 0, none⟩), .int .u32 mx, .pointer (some ⟨c', 0, none⟩), .pointer none, .pointer none, .pointer (some ⟨lg, 0, none⟩), .int .i64 0, .int .u32 0, .int .u32 0, .int .u32 0, .int .i64 0, .slice none 0 0, .bool false] 142)) (by simp))
  have KB := Lib.hid (Nat.le_trans K2.out.size KW.out.size)
  generalize w3.alloc (.cells #[.int .u32 p.code, .int .i64 p.out, .int .i64 p.inn, .int .i64 p.watch, .int .u32 p.count, .pointer (some ⟨m, 0, none⟩), .int .u32 mx, .pointer (some ⟨c', 0, none⟩), .pointer none, .pointer none, .pointer (some ⟨lg, 0, none⟩), .int .i64 0, .int .u32 0, .int .u32 0, .int .u32 0, .int .i64 0, .slice none 0 0, .bool false] 142) = w4 at K4 T4 L4 ⊢
  generalize w3.heap.size = b at T4 KB ⊢
  have K5 := Lib.hid (K2.out.trans (KG.nil K4.out))
  have HG4 := Lib.hid (HG.out.kg K5.out)
  have GB := Lib.hid (HG.out _ KB.out)
  have C4 := Lib.hid (K4.out.has C2.out (by simp))
  have M4 := Lib.hid (M2.out.kept K4.out (by simp) (by simp))
  go_wp2_with fail
  refine (fresh_raw p HP.out _ _ _ _ _ _ _ _ _ _ _ _ HG4.out T4.out L4.out GB.out).mono ?_
  rintro e w5 ⟨rfl, k5, f5⟩
  obtain ⟨⟨c7, m7⟩, ⟨c8, m8⟩⟩ := memH (x := ⟨p, M.new, ⟨mx, 0, false⟩, 0, V.new p.out, 1, 0, 0, 0, 0, [], false⟩) M4.out
  have hf := Lib.hid (DAt.fresh (x := D.new p mx) f5 rfl rfl rfl rfl (k5.has C4.out (by simpa using Ow.Has.ne C4.out T4.out (by decide))) (M4.out.kept k5 (by simpa using Ow.Has.ne m7 T4.out (by decide)) (by simpa using Ow.Has.ne m8 T4.out (by decide))) GB.out GC.out NM.out.1 NM.out.2)
  have K6 := Lib.hid (K5.out.trans (.one k5 (.inl GB.out)))
  clear k5 f5 m7 m8
  go_wp2_with fail
  go_ret2
  obtain ⟨d, v, g, o, kk, s, h⟩ := hf.out
  exact ⟨b, rfl, K6.out, ⟨d, v, g, o, lg, kk, c', s, h⟩, KB.out⟩
end Go.Proofs.YtinaliblnihpbaaGreat.DevC
namespace Go.Proofs.YtinaliblnihpbaaGreat.DevC
open Go Go.RowKit Gf SlC CrcW SlM Hp Sl Ow DiagC ValveC DogC Kx TM MemC CellC HostC EncW ParW UnW UEnc NumW UDecW
variable {G : Nat → Prop} {w w' w'' : World} {b d v g o lg k c m mb : Nat} {s : Value} {x y : D}
set_option maxRecDepth 100000 in
set_option maxHeartbeats 3200000 in
theorem reply20_call (num : Int) (data : List Int) (vd : Value) (hn : 1 ≤ x.v.n ∧ x.v.n ≤ 8) (hl : Law (x.reply 20 num data)) (h : DAt G w b d v g o lg k c m mb s x) (hd : Bytes w vd data) (hb : By data) :
    Calls Tryz.prog 188 #[.pointer (some ⟨b, 0, none⟩), .int .i64 20, .int .u32 num, vd] w fun e w' => ∃ f, e = .returned f ∧ Kept [] w w' ∧ Made w w' f (frame (x.reply 20 num data)) := by
  obtain ⟨dp, dc, rfl, hdc⟩ := sl_shape hd
  have er : x.reply 20 num data = ⟨20, x.p.code, x.ses, num, flagsOf x.v x.hold, data⟩ := by unfold D.reply; rw [if_pos rfl]
  rw [er] at hl ⊢
  have c0 := h.top.cell 0 (v := .int .u32 x.p.code) rfl
  have c12 := h.top.cell 12 (v := .int .u32 x.ses) rfl
  have HH := Lib.hid h
  have HN := Lib.hid hn
  have HL := Lib.hid hl
  have HD := Lib.hid hd
  have HB := Lib.hid hb
  clear h hl hd hb hn er
  go_enter Tryz.func188, Tryz.ntmps188
  go_wp2_with fail
  have dd : w.drew.cell? ⟨b, 0, none⟩ = some (.int .u32 x.p.code) ∧ w.drew.cell? ⟨b, 12, none⟩ = some (.int .u32 x.ses) := ⟨c0, c12⟩
  go_region_held3 (fun w' => w'.cell? ⟨b, 0, none⟩ = some (.int .u32 x.p.code) ∧ w'.cell? ⟨b, 12, none⟩ = some (.int .u32 x.ses)) (first | with_reducible assumption | go_keep) (fail)
  have hU := Lib.hid ((Has.new w 63 [.int .i64 20, .int .u32 x.p.code, .int .u32 x.ses, .int .u32 num, .int .i64 0, .slice dp data.length dc]).drew)
  have K2 := Lib.hid (((Kept.refl [] w).alloc (.cells #[.int .i64 20, .int .u32 x.p.code, .int .u32 x.ses, .int .u32 num, .int .i64 0, .slice dp data.length dc] 63)).drew)
  clear dd c0 c12
  change Exit.then _ _ Exit.normal _ (w.alloc (.cells #[.int .i64 20, .int .u32 x.p.code, .int .u32 x.ses, .int .u32 num, .int .i64 0, .slice dp data.length dc] 63)).drew
  have hU : Hid (Has (w.alloc (.cells #[.int .i64 20, .int .u32 x.p.code, .int .u32 x.ses, .int .u32 num, .int .i64 0, .slice dp data.length dc] 63)).drew w.heap.size 63 [.int .i64 20, .int .u32 x.p.code, .int .u32 x.ses, .int .u32 num, .int .i64 0, .slice dp data.length dc]) := hU
  have K2 : Hid (Kept [] w (w.alloc (.cells #[.int .i64 20, .int .u32 x.p.code, .int .u32 x.ses, .int .u32 num, .int .i64 0, .slice dp data.length dc] 63)).drew) := K2
  generalize (w.alloc (.cells #[.int .i64 20, .int .u32 x.p.code, .int .u32 x.ses, .int .u32 num, .int .i64 0, .slice dp data.length dc] 63)).drew = w2 at hU K2 ⊢
  have RR := Lib.hid (Nat.le_refl w.heap.size)
  obtain ⟨R, hR⟩ : ∃ R, R = w.heap.size := ⟨_, rfl⟩
  rw [← hR] at hU ⊢
  have RR := Lib.hid (Nat.le_of_eq hR.symm)
  clear hR
  have D2 := Lib.hid (HD.out.kept K2.out (by simp))
  have H2 := Lib.hid (HH.out.nil K2.out)
  go_wp2_with fail
  refine (flags_call HN.out.1 HN.out.2 H2.out).mono ?_
  rintro e w3 ⟨rfl, k3⟩
  have K3 := Lib.hid (K2.out.trans k3)
  have U3 := Lib.hid (k3.has hU.out (by simp))
  have D3 := Lib.hid (D2.out.kept k3 (by simp))
  clear k3
  have y4 := U3.out.cell 4 rfl
  have z4 := U3.out.free 4
  have y0 := U3.out.cell 0 rfl
  have y1 := U3.out.cell 1 rfl
  have y2 := U3.out.cell 2 rfl
  have y3 := U3.out.cell 3 rfl
  have y5 := U3.out.cell 5 rfl
  go_wp2_with fail
  have kk := (Kept.refl [R] w3).set ⟨R, 4, none⟩ (.int .i64 (flagsOf x.v x.hold)) (by simp)
  have D4 := Lib.hid (HD.out.kept (K3.out.fresh kk (fun i hi hl => by simp only [List.mem_singleton] at hi; subst hi; exact absurd hl (Nat.not_lt.2 RR.out))) (by simp))
  have K4 := Lib.hid (K3.out.fresh kk (fun i hi hl => by simp only [List.mem_singleton] at hi; subst hi; exact absurd hl (Nat.not_lt.2 RR.out)))
  clear kk
  refine (UEnc.encode_call ⟨20, x.p.code, x.ses, num, flagsOf x.v x.hold, data⟩ HL.out (.slice dp data.length dc) _ D4.out HB.out).mono ?_
  rintro e w5 ⟨v5, rfl, k5, m5⟩
  go_wp2_with fail
  go_ret
  exact ⟨v5, rfl, K4.out.trans k5, m5.1, fun i hi => Nat.le_trans K4.out.size (m5.2 i hi)⟩
theorem law22 (hp : POk x.p) : Law (x.reply 22 0 []) := by
  have := hp.code
  have e : x.reply 22 0 [] = ⟨22, x.p.code, x.ses, 0, 0, []⟩ := by unfold D.reply; rw [if_neg (by decide)]
  rw [e]
  refine .inr (.inr (.inr (.inr (.inr (.inr (.inr (.inr (.inr (.inr ⟨rfl, ?_, .inr (.inr ⟨rfl, rfl⟩), .inl rfl, .inr (.inr ⟨rfl, rfl⟩), Int.le_refl _, (by show (0 : Int) ≤ 15; decide), fun _ => rfl⟩)))))))))
  show x.p.code ≠ 0; omega
theorem law17 (hp : POk x.p) (hs : 0 < x.ses) : Law (x.offer (sigB x.p)) := by
  have := hp.code
  have e : x.offer (sigB x.p) = ⟨17, x.p.code, x.ses, 0, 0, sigB x.p⟩ := by unfold D.offer D.reply; rw [if_neg (by decide)]
  rw [e]
  refine .inr (.inr (.inl ⟨rfl, ?_, .inl ⟨rfl, rfl⟩, .inr (.inl ⟨rfl, hs⟩), .inr (.inr ⟨rfl, rfl⟩), Int.le_refl _, (by show (0 : Int) ≤ 15; decide), fun _ => rfl⟩))
  show x.p.code ≠ 0; omega
theorem law18 (hp : POk x.p) (hs : 0 < x.ses) : Law (x.reply 18 0 []) := by
  have := hp.code
  have e : x.reply 18 0 [] = ⟨18, x.p.code, x.ses, 0, 0, []⟩ := by unfold D.reply; rw [if_neg (by decide)]
  rw [e]
  refine .inr (.inr (.inr (.inr (.inl ⟨rfl, ?_, .inr (.inr ⟨rfl, rfl⟩), .inr (.inl ⟨rfl, hs⟩), .inr (.inr ⟨rfl, rfl⟩), Int.le_refl _, (by show (0 : Int) ≤ 15; decide), fun _ => rfl⟩))))
  show x.p.code ≠ 0; omega
theorem law19 (hp : POk x.p) (hs : 0 < x.ses) : Law (x.reply 19 0 []) := by
  have := hp.code
  have e : x.reply 19 0 [] = ⟨19, x.p.code, x.ses, 0, 0, []⟩ := by unfold D.reply; rw [if_neg (by decide)]
  rw [e]
  refine .inr (.inr (.inr (.inr (.inr (.inl ⟨rfl, ?_, .inr (.inr ⟨rfl, rfl⟩), .inr (.inl ⟨rfl, hs⟩), .inr (.inr ⟨rfl, rfl⟩), Int.le_refl _, (by show (0 : Int) ≤ 15; decide), fun _ => rfl⟩)))))
  show x.p.code ≠ 0; omega
theorem law20 (hp : POk x.p) (hs : 0 < x.ses) {num : Int} {l : List Int} (hn : 0 < num) (h1 : 1 ≤ l.length) (h8 : l.length ≤ 8) : Law (x.reply 20 num l) := by
  have := hp.code
  have e : x.reply 20 num l = ⟨20, x.p.code, x.ses, num, flagsOf x.v x.hold, l⟩ := by unfold D.reply; rw [if_pos rfl]
  rw [e]
  refine .inr (.inr (.inr (.inr (.inr (.inr (.inr (.inl ⟨rfl, ?_, .inr (.inl ⟨rfl, h1, h8⟩), .inr (.inl ⟨rfl, hs⟩), .inr (.inl ⟨rfl, hn⟩), (flags_range _ _).1, (flags_range _ _).2, fun e => by cases e⟩)))))))
  show x.p.code ≠ 0; omega
theorem law21 (hp : POk x.p) (hs : 0 < x.ses) {num : Int} (hn : 0 < num) : Law (x.reply 21 num []) := by
  have := hp.code
  have e : x.reply 21 num [] = ⟨21, x.p.code, x.ses, num, 0, []⟩ := by unfold D.reply; rw [if_neg (by decide)]
  rw [e]
  refine .inr (.inr (.inr (.inr (.inr (.inr (.inr (.inr (.inr (.inl ⟨rfl, ?_, .inr (.inr ⟨rfl, rfl⟩), .inr (.inl ⟨rfl, hs⟩), .inr (.inl ⟨rfl, hn⟩), Int.le_refl _, (by show (0 : Int) ≤ 15; decide), fun _ => rfl⟩)))))))))
  show x.p.code ≠ 0; omega
set_option maxRecDepth 100000 in
theorem offer_call (hp : POk x.p) (hs : 0 < x.ses) (h : DAt G w b d v g o lg k c m mb s x) :
    Calls Tryz.prog 187 #[.pointer (some ⟨b, 0, none⟩)] w fun e w' => ∃ f, e = .returned f ∧ Kept [] w w' ∧ Made w w' f (frame (x.offer (sigB x.p))) := by
  have c0 := h.top.cell 0 (v := .int .u32 x.p.code) rfl
  have c1 := h.top.cell 1 (v := .int .i64 x.p.out) rfl
  have c2 := h.top.cell 2 (v := .int .i64 x.p.inn) rfl
  have c3 := h.top.cell 3 (v := .int .i64 x.p.watch) rfl
  have c4 := h.top.cell 4 (v := .int .u32 x.p.count) rfl
  have HH := Lib.hid h
  have HP := Lib.hid hp
  have HL := Lib.hid (law17 hp hs)
  clear h hp hs
  go_enter Tryz.func187, Tryz.ntmps187
  go_wp2_with fail
  refine (signature_call x.p HP.out _).mono ?_
  rintro e w1 ⟨rfl, k1⟩
  have K1 := Lib.hid k1
  have H1 := Lib.hid (HH.out.nil k1)
  clear c0 c1 c2 c3 c4 k1
  go_wp2_with fail
  refine (bytes_call (sigN x.p : Nat) w1).mono ?_
  rintro e w3 ⟨v3, rfl, k3, m3⟩
  have K3 := Lib.hid (K1.out.trans k3)
  have H3 := Lib.hid (H1.out.nil k3)
  have M3 := Lib.hid (show Made w1 w3 v3 (sigB x.p) from m3)
  clear k3 m3
  go_wp2_with fail
  refine (reply_call 17 0 (sigB x.p) v3 (by decide) HL.out H3.out M3.out.bytes (w4_by _)).mono ?_
  rintro e w5 ⟨f, rfl, k5, m5⟩
  go_wp2_with fail
  go_ret
  exact ⟨f, rfl, K3.out.trans k5, m5.1, fun i hi => Nat.le_trans K3.out.size (m5.2 i hi)⟩
theorem stuck_p (x : D) : x.stuck.1.p = x.p := by unfold D.stuck; (repeat' split) <;> rfl
set_option maxRecDepth 100000 in
theorem odds_call (hx : DOk x) (n : Int) (hG : Opn G w) (h : DAt G w b d v g o lg k c m mb s x) :
    Calls Tryz.prog 168 #[.pointer (some ⟨b, 0, none⟩), .int .i64 n] w fun e w' => ∃ f, e = .returned (.tuple #[f, .int .i64 (x.odds n).2.2]) ∧ KG G w w' ∧ DAt G w' b d v g o lg k c m mb s (x.odds n).1 ∧ FrameOf w w' f (x.odds n).2.1 := by
  have SC := Lib.hid (stuck_call hx.st hx.odd.1 hx.odd.2 hG h)
  have LW := Lib.hid (law22 (x := x.stuck.1) (by rw [stuck_p]; exact hx.p))
  have HG := Lib.hid hG
  unfold D.odds
  clear hx hG h
  generalize x.stuck = y at SC LW ⊢
  obtain ⟨y, q⟩ := y
  go_enter Tryz.func168, Tryz.ntmps168
  go_wp2_with fail
  refine SC.out.mono ?_
  rintro e w1 ⟨rfl, k1, h1⟩
  have K1 := Lib.hid k1
  have H1 := Lib.hid h1
  clear k1 h1
  go_wp2_with fail
  refine (reply_call 22 0 [] (.slice none 0 0) (by decide) LW.out H1.out (bytes_none _) (by intro z hz; cases hz)).mono ?_
  rintro e w5 ⟨f, rfl, k5, m5⟩
  have M5 := Lib.hid m5
  have K5 := Lib.hid k5
  clear k5 m5
  obtain ⟨p5, n5, rfl⟩ := M5.out.shape
  go_wp2_with fail
  go_ret2
  exact ⟨_, rfl, K1.out.trans (.nil K5.out), H1.out.nil K5.out, M5.out.1, fun i hi => Nat.le_trans K1.out.size (M5.out.2 i hi)⟩
end Go.Proofs.YtinaliblnihpbaaGreat.DevC
namespace Go.Proofs.YtinaliblnihpbaaGreat.DevC
open Go Go.RowKit Gf SlC CrcW SlM Hp Sl Ow DiagC ValveC DogC Kx TM MemC CellC HostC EncW ParW UnW UEnc NumW UDecW
variable {x y : D}
theorem z0 : (0 : Int) ≤ 0 ∧ (0 : Int) < 4294967296 := by decide
theorem z4 : (0 : Int) ≤ 0 ∧ (0 : Int) < 4 := by decide
theorem DOk.zc (h : DOk x) : (0 : Int) ≤ 0 ∧ (0 : Int) ≤ x.p.count := ⟨Int.le_refl _, by have := h.p.count; omega⟩
theorem ack_n (z : V) : z.ack.n = z.n := by unfold V.ack; split <;> rfl
theorem take_n (z : V) (l : List Int) : (z.take l).n = z.n := by unfold V.take; split <;> rfl
theorem holds_n (z : V) (q : Bool) : (z.holds q).n = z.n := rfl
theorem DOk.trip (h : DOk x) (c : Int) : DOk (x.trip c) :=
  ⟨h.p, h.st, h.ses, h.live, h.num, h.sent, h.odd, (trip_n _ _).trans h.vn, h.len, h.byt, h.cmax, h.cval⟩
theorem DOk.alive (h : DOk x) : DOk x.alive :=
  ⟨h.p, h.st, h.ses, h.live, h.num, h.sent, z4, h.vn, h.len, h.byt, h.cmax, h.cval⟩
theorem DOk.odded (h : DOk x) (hm : x.odd + 1 < 4) : DOk { x with odd := x.odd + 1 } :=
  ⟨h.p, h.st, h.ses, h.live, h.num, h.sent, ⟨by have := h.odd; show 0 ≤ x.odd + 1; omega, hm⟩, h.vn, h.len, h.byt, h.cmax, h.cval⟩
theorem DOk.leave (h : DOk x) (o : Int) {s : Int} (hs : s = 1 ∨ s = 5) : DOk (({ x with odd := o } : D).leave s) :=
  ⟨h.p, by show s = 1 ∨ s = 2 ∨ s = 3 ∨ s = 4 ∨ s = 5 ∨ s = 6; omega, z0, fun e => by (change s = 2 ∨ s = 3 ∨ s = 4 at e); omega, h.zc, ⟨Int.le_refl _, Int.le_refl _⟩, z4, (run_n _ _).trans h.vn, h.len, h.byt, h.cmax, h.cval⟩
theorem DOk.stuck (h : DOk x) : DOk x.stuck.1 := by
  unfold D.stuck
  split
  · split
    · rename_i hlt; exact h.odded hlt
    · split
      · exact (h.trip 131).leave (x.odd + 1) (.inl rfl)
      · exact h.leave (x.odd + 1) (.inl rfl)
  · exact h
theorem next_spec (c : C) (m : M) : (c.next m).1.max = c.max ∧ (0 ≤ c.value → 0 ≤ (c.next m).1.value) ∧ ((c.next m).2.2.2 = 0 → (c.next m).2.2.1 = c.value + 1 ∧ c.value < c.max) ∧ ((c.next m).2.2.2 = 80 → (c.next m).1 = c ∧ (c.next m).2.1 = m) ∧ ((c.next m).2.2.2 = 0 ∨ (c.next m).2.2.2 = 80 ∨ (c.next m).2.2.2 = 70) := by
  unfold C.next
  split
  · exact ⟨rfl, fun h => h, fun e => by simp at e, fun e => by simp at e, .inr (.inr rfl)⟩
  · split
    · exact ⟨rfl, fun h => h, fun e => by simp at e, fun _ => ⟨rfl, rfl⟩, .inr (.inl rfl)⟩
    · rename_i hlt
      split
      · exact ⟨rfl, fun h => by show 0 ≤ c.value + 1; omega, fun _ => ⟨rfl, by omega⟩, fun e => by simp at e, .inl rfl⟩
      · exact ⟨rfl, fun h => h, fun e => by simp at e, fun e => by simp at e, .inr (.inr rfl)⟩
theorem DOk.newlife (h : DOk x) (c : C) (m : M) (hm : c.max = x.c.max) (hc : 0 ≤ c.value) : DOk { x.fresh with m := m, c := c } :=
  ⟨h.p, .inl rfl, z0, fun e => by (change (1 : Int) = 2 ∨ (1 : Int) = 3 ∨ (1 : Int) = 4 at e); omega, h.zc, ⟨Int.le_refl _, Int.le_refl _⟩, z4, rfl, by have := h.p.inn; show ((List.replicate x.p.inn.toNat (0 : Int)).length : Int) = x.p.inn; simp; omega, fun z hz => by (change z ∈ List.replicate x.p.inn.toNat (0 : Int) at hz); obtain ⟨_, rfl⟩ := List.mem_replicate.1 hz; omega, hm ▸ h.cmax, hc⟩
theorem DOk.newdown (h : DOk x) (c : C) (m : M) (hm : c.max = x.c.max) (hc : 0 ≤ c.value) : DOk ({ x with m := m, c := c } : D).down :=
  ⟨h.p, .inr (.inr (.inr (.inr (.inr rfl)))), z0, fun e => by (change (6 : Int) = 2 ∨ (6 : Int) = 3 ∨ (6 : Int) = 4 at e); omega, h.zc, ⟨Int.le_refl _, Int.le_refl _⟩, z4, rfl, by have := h.p.inn; show ((List.replicate x.p.inn.toNat (0 : Int)).length : Int) = x.p.inn; simp; omega, fun z hz => by (change z ∈ List.replicate x.p.inn.toNat (0 : Int) at hz); obtain ⟨_, rfl⟩ := List.mem_replicate.1 hz; omega, hm ▸ h.cmax, hc⟩
theorem DOk.newses (h : DOk x) (c : C) (m : M) (s : Int) (hs : 0 < s) (hs2 : s ≤ x.c.max) (hm : c.max = x.c.max) (hc : 0 ≤ c.value) : DOk ({ ({ x with c := c, m := m } : D).leave 2 with ses := s }) :=
  ⟨h.p, .inr (.inl rfl), ⟨by show 0 ≤ s; omega, by have := h.cmax; show s < 4294967296; omega⟩, fun _ => hs, h.zc, ⟨Int.le_refl _, Int.le_refl _⟩, z4, (run_n _ _).trans h.vn, h.len, h.byt, hm ▸ h.cmax, hc⟩
theorem DOk.begin (h : DOk x) (sig : List Int) : DOk (x.begin sig).1 := by
  obtain ⟨a1, a2, a3, a4, a5⟩ := next_spec x.c x.m
  have hc := a2 h.cval
  have := h.cval
  unfold D.begin
  split
  · exact (h.trip 80).leave x.odd (.inr rfl)
  · split
    · rename_i h0
      obtain ⟨b1, b2⟩ := a3 h0
      exact h.newses _ _ _ (by omega) (by omega) a1 hc
    · exact h.newdown _ _ a1 hc
theorem DOk.agree (h : DOk x) : DOk x.agree := by
  unfold D.agree
  split
  · rename_i h2
    have := h.live (.inl h2)
    exact DOk.alive ⟨h.p, .inr (.inr (.inl rfl)), h.ses, fun _ => this, h.num, h.sent, h.odd, h.vn, h.len, h.byt, h.cmax, h.cval⟩
  · exact h
theorem DOk.go (h : DOk x) : DOk x.go := by
  unfold D.go
  split
  · rename_i h2
    have := h.live (.inr (.inl h2))
    exact DOk.alive ⟨h.p, .inr (.inr (.inr (.inl rfl))), h.ses, fun _ => this, h.num, h.sent, h.odd, (run_n _ _).trans h.vn, h.len, h.byt, h.cmax, h.cval⟩
  · exact h
theorem feed_sent (h : DOk x) (u : U) (h1 : u.num > x.num) (h2 : u.num < x.p.count) : IntKind.u32.wrap (x.sent + 1) = x.sent + 1 := by
  have := h.sent; have := h.p.count; rw [IntKind.wrap_u32]; omega
theorem DOk.feed (h : DOk x) (u : U) (hu : u.num > x.num) (hc : u.num < x.p.count) : DOk (x.feed u) := by
  have e := feed_sent h u hu hc
  have h1 := h.num; have h2 := h.sent
  exact ⟨h.p, h.st, h.ses, h.live, ⟨by show 0 ≤ u.num; omega, by show u.num ≤ x.p.count; omega⟩, ⟨by show 0 ≤ IntKind.u32.wrap (x.sent + 1); omega, by show IntKind.u32.wrap (x.sent + 1) ≤ u.num; omega⟩, z4, ((take_n _ _).trans (holds_n _ _)).trans h.vn, h.len, h.byt, h.cmax, h.cval⟩
theorem DOk.last (h : DOk x) (u : U) (hc : u.num = x.p.count) : DOk (x.last u) := by
  have h3 := h.p.count
  exact ⟨h.p, h.st, h.ses, h.live, ⟨by show 0 ≤ u.num; omega, by show u.num ≤ x.p.count; omega⟩, ⟨by show 0 ≤ x.p.count; omega, by show x.p.count ≤ u.num; omega⟩, z4, (trip_n _ _).trans h.vn, h.len, h.byt, h.cmax, h.cval⟩
theorem DOk.done (h : DOk x) : DOk { x with v := x.v.run false, state := 5 } :=
  ⟨h.p, .inr (.inr (.inr (.inr (.inl rfl)))), h.ses, fun e => by (change (5 : Int) = 2 ∨ (5 : Int) = 3 ∨ (5 : Int) = 4 at e); omega, h.num, h.sent, h.odd, (run_n _ _).trans h.vn, h.len, h.byt, h.cmax, h.cval⟩
theorem DOk.asked (h : DOk x) (sig : List Int) (u : U) : DOk (x.asked sig u).1 := by
  unfold D.asked
  split
  · split
    · split
      · exact h.stuck.begin sig
      · split
        · exact h.stuck
        · exact h.stuck
    · exact h.begin sig
  · exact h.stuck
theorem DOk.take (h : DOk x) (sig : List Int) (u : U) : DOk (x.take sig u).1 := by
  unfold D.take
  split
  · exact h.asked sig u
  · split
    · unfold D.echoed; split
      · exact h.agree
      · exact h.stuck
    · split
      · exact h.go
      · split
        · rename_i q; exact h.feed u q.2.1.2.2 q.2.2.2
        · split
          · rename_i q; exact (h.last u q.2.2).done
          · exact h.stuck
theorem DOk.receive (h : DOk x) (sig : List Int) (u : U) (e : Int) : DOk (x.receive sig u e).1 := by
  unfold D.receive
  (repeat' split) <;> first | exact h | exact h.take sig u
theorem DOk.write (h : DOk x) (l : List Int) (hb : Bool) (hl : By l) : DOk (x.write l hb).1 := by
  unfold D.write
  split
  · exact h
  · split
    · exact h
    · rename_i hh; exact ⟨h.p, h.st, h.ses, h.live, h.num, h.sent, h.odd, h.vn, by simpa using hh, hl, h.cmax, h.cval⟩
theorem DOk.since (h : DOk x) (n : Int) : DOk { x with since := n } := ⟨h.p, h.st, h.ses, h.live, h.num, h.sent, h.odd, h.vn, h.len, h.byt, h.cmax, h.cval⟩
theorem DOk.tick (h : DOk x) (n : Int) : DOk (x.tick n).1 := by
  unfold D.tick
  split
  · exact h
  · show DOk (if barks x.p.watch x.since n = true then ({ x with since := ticked x.p.watch x.since n } : D).trip 100 else { x with since := ticked x.p.watch x.since n })
    split
    · exact (h.since _).trip 100
    · exact h.since _
theorem DOk.ack (h : DOk x) : DOk x.ack.1 := by
  unfold D.ack
  split
  · exact h
  · exact ⟨h.p, h.st, h.ses, h.live, h.num, h.sent, h.odd, (ack_n _).trans h.vn, h.len, h.byt, h.cmax, h.cval⟩
theorem open_low (m : M) (h : ∀ k, 0 ≤ m.word k) : 0 ≤ m.open.2.1 := by
  have h0 := h 0; have h1 := h 1
  unfold M.open
  (repeat' split) <;> first | exact Int.le_refl _ | exact h0 | exact h1 | (show 0 ≤ max (m.word 0) (m.word 1); omega)
theorem DOk.reset (h : DOk x) (hm : MOk x.m) (n : Int) : DOk (x.reset n).1 := by
  have hw : ∀ k, 0 ≤ (x.reset0 n).m.word k := fun k => by
    have : (x.reset0 n).m.word k = x.m.word k := by unfold D.reset0; split <;> rfl
    rw [this]; exact (CellC.MOk.word hm k).1
  have ho := open_low _ hw
  unfold D.reset
  split
  · exact h.newlife ⟨x.c.max, _, false⟩ _ rfl ho
  · have h1 : DOk x.fresh := by have := h.newlife x.c x.m rfl h.cval; exact this
    exact h1.newdown x.c _ rfl h.cval
theorem DOk.arm (h : DOk x) (n : Int) : DOk { x with m := x.m.arm n } := ⟨h.p, h.st, h.ses, h.live, h.num, h.sent, h.odd, h.vn, h.len, h.byt, h.cmax, h.cval⟩
theorem DOk.new (p : P) (hp : POk p) (mx : Int) (h : 0 < mx) (h2 : mx < 4294967296) : DOk (D.new p mx) :=
  ⟨hp, .inl rfl, z0, fun e => by (change (1 : Int) = 2 ∨ (1 : Int) = 3 ∨ (1 : Int) = 4 at e); omega, ⟨Int.le_refl _, by have := hp.count; show (0 : Int) ≤ p.count; omega⟩, ⟨Int.le_refl _, Int.le_refl _⟩, z4, rfl, by have := hp.inn; show ((List.replicate p.inn.toNat (0 : Int)).length : Int) = p.inn; simp; omega, fun z hz => by (change z ∈ List.replicate p.inn.toNat (0 : Int) at hz); obtain ⟨_, rfl⟩ := List.mem_replicate.1 hz; omega, ⟨h, h2⟩, Int.le_refl _⟩
end Go.Proofs.YtinaliblnihpbaaGreat.DevC
namespace Go.Proofs.YtinaliblnihpbaaGreat.DevC
open Go Go.RowKit Gf SlC CrcW SlM Hp Sl Ow DiagC ValveC DogC Kx TM MemC CellC HostC EncW ParW UnW UEnc NumW UDecW
variable {G : Nat → Prop} {w w' w'' : World} {b d v g o lg k c m mb : Nat} {s : Value} {x y : D}
def Rep (G : Nat → Prop) (w w' : World) (b m mb : Nat) (e : Ending) (r : D × Option U × Int) : Prop :=
  ∃ f, e = .returned (.tuple #[f, .int .i64 r.2.2]) ∧ KG (GM G m mb) w w' ∧ devOf G w' b m mb r.1 ∧ FrameOf w w' f r.2.1
theorem Made.after {w w1 w2 : World} {f : Value} {l : List Int} (q : w.heap.size ≤ w1.heap.size) (h : Made w1 w2 f l) : Made w w2 f l := ⟨h.1, fun i hi => Nat.le_trans q (h.2 i hi)⟩
theorem FrameOf.after {w w1 w2 : World} {f : Value} {o : Option U} (q : w.heap.size ≤ w1.heap.size) (h : FrameOf w1 w2 f o) : FrameOf w w2 f o := by
  cases o with
  | none => exact h
  | some u => exact Made.after q h
theorem FrameOf.shape {w w1 : World} {f : Value} {o : Option U} (h : FrameOf w w1 f o) : ∃ p n c, f = .slice p n c := by
  cases o with
  | none => exact ⟨_, _, _, h⟩
  | some u => obtain ⟨p, c, e⟩ := Made.shape h; exact ⟨p, _, c, e⟩
theorem kgC (q : Kept [c, m, mb] w w') (gc : G c) : KG (GM G m mb) w w' := .of q (fun i hi => by simp at hi; rcases hi with rfl | rfl | rfl; exact .inl gc; exact .inr (.inl rfl); exact .inr (.inr rfl))
set_option maxRecDepth 100000 in
theorem beginX (hx : DOk x) (hG : Opn G w) (h : DAt G w b d v g o lg k c m mb s x) (hn : (x.c.next x.m).2.2.2 = 80) :
    Calls Tryz.prog 189 #[.pointer (some ⟨b, 0, none⟩)] w fun e w' => Rep G w w' b m mb e (x.begin (sigB x.p)) := by
  have eb : x.begin (sigB x.p) = (((x.trip 80).leave 5), some (((x.trip 80).leave 5).reply 22 0 []), 80) := by unfold D.begin; rw [if_pos hn]
  rw [eb]
  obtain ⟨a1, a2, a3, a4, a5⟩ := next_spec x.c x.m
  obtain ⟨b1, b2⟩ := a4 hn
  have NC := Lib.hid (CellC.next_call c m mb x.c x.m w h.mem h.cel hx.cval hx.cmax.2)
  rw [hn, b1, b2] at NC
  have HH := Lib.hid h
  have HX := Lib.hid hx
  have HG := Lib.hid hG
  have c7 := h.top.cell 7 (v := .pointer (some ⟨c, 0, none⟩)) rfl
  have L22 := Lib.hid (law22 (x := (x.trip 80).leave 5) hx.p)
  clear hx hG h hn eb a1 a2 a3 a4 a5 b1 b2
  go_enter Tryz.func189, Tryz.ntmps189
  go_wp2_with fail
  refine NC.out.mono ?_
  rintro e w1 ⟨rfl, k1, m1, i1⟩
  have H1 := Lib.hid (show DAt G w1 b d v g o lg k c m mb s x from HH.out.mems k1 m1 i1 rfl)
  have K1 := Lib.hid (kgC k1 HH.out.gc)
  clear k1 m1 i1
  go_wp2_with fail
  refine (trip_call 80 (by decide) (by decide) (HG.out.kg K1.out) H1.out).mono ?_
  rintro e w2 ⟨rfl, k2, h2⟩
  have H2 := Lib.hid h2
  have K2 := Lib.hid (K1.out.trans (kgM k2))
  clear k2 h2
  go_wp2_with fail
  refine (leave_call 5 H2.out).mono ?_
  rintro e w3 ⟨rfl, k3, h3⟩
  have H3 := Lib.hid h3
  have K3 := Lib.hid (K2.out.trans (kgM k3))
  clear k3 h3
  go_wp2_with fail
  refine (reply_call 22 0 [] (.slice none 0 0) (by decide) L22.out H3.out (bytes_none _) (by intro z hz; cases hz)).mono ?_
  rintro e w5 ⟨f, rfl, k5, m5⟩
  have M5 := Lib.hid m5
  have K5 := Lib.hid k5
  clear k5 m5
  obtain ⟨p5, n5, rfl⟩ := M5.out.shape
  go_wp2_with fail
  go_ret2
  exact ⟨_, rfl, K3.out.trans (.nil K5.out), (H3.out.nil K5.out).dev, Made.after K3.out.size M5.out⟩
set_option maxRecDepth 100000 in
theorem beginY (hx : DOk x) (hG : Opn G w) (h : DAt G w b d v g o lg k c m mb s x) (hn : (x.c.next x.m).2.2.2 = 0) :
    Calls Tryz.prog 189 #[.pointer (some ⟨b, 0, none⟩)] w fun e w' => Rep G w w' b m mb e (x.begin (sigB x.p)) := by
  have eb : x.begin (sigB x.p) = ({ ({ x with c := (x.c.next x.m).1, m := (x.c.next x.m).2.1 } : D).leave 2 with ses := (x.c.next x.m).2.2.1 },
      some (({ ({ x with c := (x.c.next x.m).1, m := (x.c.next x.m).2.1 } : D).leave 2 with ses := (x.c.next x.m).2.2.1 } : D).offer (sigB x.p)), 0) := by unfold D.begin; rw [if_neg (by omega), if_pos hn]
  rw [eb]
  obtain ⟨a1, a2, a3, a4, a5⟩ := next_spec x.c x.m
  obtain ⟨b1, b2⟩ := a3 hn
  have NC := Lib.hid (CellC.next_call c m mb x.c x.m w h.mem h.cel hx.cval hx.cmax.2)
  rw [hn] at NC
  have SP := Lib.hid (show 0 < (x.c.next x.m).2.2.1 by have := hx.cval; omega)
  have A1 := Lib.hid a1
  clear eb hn a1 a2 a3 a4 a5 b1 b2
  generalize x.c.next x.m = r at NC SP A1 ⊢
  obtain ⟨nc, nm, sv, ev⟩ := r
  simp only at NC SP A1 ⊢
  have HH := Lib.hid h
  have HX := Lib.hid hx
  have HG := Lib.hid hG
  have c7 := h.top.cell 7 (v := .pointer (some ⟨c, 0, none⟩)) rfl
  clear hx hG h
  go_enter Tryz.func189, Tryz.ntmps189
  go_wp2_with fail
  refine NC.out.mono ?_
  rintro e w1 ⟨rfl, k1, m1, i1⟩
  have H1 := Lib.hid (HH.out.mems k1 m1 i1 A1.out)
  have K1 := Lib.hid (kgC k1 HH.out.gc)
  clear k1 m1 i1
  go_wp2_with fail
  refine (leave_call 2 H1.out).mono ?_
  rintro e w3 ⟨rfl, k3, h3⟩
  have H3 := Lib.hid h3
  have K3 := Lib.hid (K1.out.trans (kgM k3))
  have c12 := H3.out.top.cell 12 (v := .int .u32 0) rfl
  have z12 := H3.out.top.free 12
  clear k3 h3
  go_wp2_with fail
  have H4 := Lib.hid (H3.out.set (y := { ({ x with c := nc, m := nm } : D).leave 2 with ses := sv }) 12 (.int .u32 sv) rfl rfl rfl rfl rfl rfl rfl)
  have K4 := Lib.hid (K3.out.set (i := 12) (v := .int .u32 sv) (.inl HH.out.gb))
  clear c12 z12
  generalize w3.setCell ⟨b, 12, none⟩ (.int .u32 sv) = w4 at H4 K4 ⊢
  refine (offer_call (x := { ({ x with c := nc, m := nm } : D).leave 2 with ses := sv }) HX.out.p SP.out H4.out).mono ?_
  rintro e w5 ⟨f, rfl, k5, m5⟩
  have M5 := Lib.hid m5
  have K5 := Lib.hid k5
  clear k5 m5
  obtain ⟨p5, n5, rfl⟩ := M5.out.shape
  go_wp2_with fail
  go_ret2
  exact ⟨_, rfl, K4.out.trans (.nil K5.out), (H4.out.nil K5.out).dev, Made.after K4.out.size M5.out⟩
set_option maxRecDepth 100000 in
theorem beginN (hx : DOk x) (hG : Opn G w) (h : DAt G w b d v g o lg k c m mb s x) (hn : (x.c.next x.m).2.2.2 = 70) :
    Calls Tryz.prog 189 #[.pointer (some ⟨b, 0, none⟩)] w fun e w' => Rep G w w' b m mb e (x.begin (sigB x.p)) := by
  have eb : x.begin (sigB x.p) = (({ x with c := (x.c.next x.m).1, m := (x.c.next x.m).2.1 } : D).down, none, 70) := by unfold D.begin; rw [if_neg (by omega), if_neg (by omega)]
  rw [eb]
  obtain ⟨a1, a2, a3, a4, a5⟩ := next_spec x.c x.m
  have NC := Lib.hid (CellC.next_call c m mb x.c x.m w h.mem h.cel hx.cval hx.cmax.2)
  rw [hn] at NC
  have A1 := Lib.hid a1
  clear eb hn a1 a2 a3 a4 a5
  generalize x.c.next x.m = r at NC A1 ⊢
  obtain ⟨nc, nm, sv, ev⟩ := r
  simp only at NC A1 ⊢
  have HH := Lib.hid h
  have HX := Lib.hid hx
  have HG := Lib.hid hG
  have c7 := h.top.cell 7 (v := .pointer (some ⟨c, 0, none⟩)) rfl
  clear hx hG h
  go_enter Tryz.func189, Tryz.ntmps189
  go_wp2_with fail
  refine NC.out.mono ?_
  rintro e w1 ⟨rfl, k1, m1, i1⟩
  have H1 := Lib.hid (HH.out.mems k1 m1 i1 A1.out)
  have K1 := Lib.hid (kgC k1 HH.out.gc)
  clear k1 m1 i1
  go_wp2_with fail
  refine (down_call (x := { x with m := nm, c := nc }) HX.out.p (HG.out.kg K1.out) H1.out).mono ?_
  rintro e w3 ⟨rfl, k3, d3, v3, g3, o3, kk3, s3, h3⟩
  have H3 := Lib.hid h3
  have K3 := Lib.hid (K1.out.trans (kgM k3))
  clear k3 h3
  go_wp2_with fail
  go_ret2
  exact ⟨_, rfl, K3.out, H3.out.dev, rfl⟩
theorem begin_call (hx : DOk x) (hG : Opn G w) (h : DAt G w b d v g o lg k c m mb s x) :
    Calls Tryz.prog 189 #[.pointer (some ⟨b, 0, none⟩)] w fun e w' => Rep G w w' b m mb e (x.begin (sigB x.p)) := by
  rcases (next_spec x.c x.m).2.2.2.2 with hn | hn | hn
  · exact beginY hx hG h hn
  · exact beginX hx hG h hn
  · exact beginN hx hG h hn
end Go.Proofs.YtinaliblnihpbaaGreat.DevC
