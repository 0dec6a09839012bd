/- The walks and the plain laws of DevL. -/
import Derived.Test.YtinaliblnihpbaaGreatV12
set_option linter.unusedVariables false
set_option linter.unusedSimpArgs false
open Go.Lib (hid)
namespace Go.Proofs.YtinaliblnihpbaaGreat
namespace DevC
open Go Go.RowKit Gf SlC CrcW SlM Hp Sl Ow DiagC ValveC DogC Kx TM MemC CellC HostC EncW ParW UnW UEnc NumW UDecW
variable {G : Nat → Prop} {w w' w'' : World} {b d v g o lg k c m mb : Nat} {s : Value} {x y : D}
theorem fkT {R : Nat} {u : U} {dp : Option Addr} {dc : Nat} (HA : Hid (DAt G w b d v g o lg k c m mb s x)) (UA : Hid (Has w R 63 [.int .i64 u.kind, .int .u32 u.code, .int .u32 u.ses, .int .u32 u.num, .int .i64 u.flags, .slice dp u.data.length dc])) : ∀ w', Kept [] w w' → (w'.cell? ⟨b, 1, none⟩ = some (.int .i64 x.p.out) ∧ w'.cell? ⟨b, 4, none⟩ = some (.int .u32 x.p.count) ∧ w'.cell? ⟨b, 11, none⟩ = some (.int .i64 x.state) ∧ w'.cell? ⟨b, 12, none⟩ = some (.int .u32 x.ses) ∧ w'.cell? ⟨b, 13, none⟩ = some (.int .u32 x.num) ∧ w'.cell? ⟨R, 0, none⟩ = some (.int .i64 u.kind) ∧ w'.cell? ⟨R, 1, none⟩ = some (.int .u32 u.code) ∧ w'.cell? ⟨R, 2, none⟩ = some (.int .u32 u.ses) ∧ w'.cell? ⟨R, 3, none⟩ = some (.int .u32 u.num) ∧ w'.cell? ⟨R, 4, none⟩ = some (.int .i64 u.flags) ∧ w'.cell? ⟨R, 5, none⟩ = some (.slice dp u.data.length dc)) := fun w' q => ⟨(q.has HA.out.top (by simp)).cell 1 rfl, (q.has HA.out.top (by simp)).cell 4 rfl, (q.has HA.out.top (by simp)).cell 11 rfl, (q.has HA.out.top (by simp)).cell 12 rfl, (q.has HA.out.top (by simp)).cell 13 rfl, (q.has UA.out (by simp)).cell 0 rfl, (q.has UA.out (by simp)).cell 1 rfl, (q.has UA.out (by simp)).cell 2 rfl, (q.has UA.out (by simp)).cell 3 rfl, (q.has UA.out (by simp)).cell 4 rfl, (q.has UA.out (by simp)).cell 5 rfl⟩
set_option maxRecDepth 100000 in
theorem next1 (hx : DOk x) (hG : Opn G w) (h : DAt G w b d v g o lg k c m mb s x) (u : U) (vd : Value) (hd : Bytes w vd u.data) (hb : By u.data) (h1 : x.state ≠ 4) :
    Calls Tryz.prog 165 #[.pointer (some ⟨b, 0, none⟩), uval u vd] w fun e w' => e = .returned (.bool (decide (x.next u))) ∧ Kept [] w w' := by
  obtain ⟨dp, dc, rfl, hdc⟩ := sl_shape hd
  have HH := hid h
  have HX := hid hx
  have HG := hid hG
  have HD := hid hd
  have HB := hid hb
  have hlt := h.top.lt
  have KA := hid ((Kept.refl [] w).alloc (.cells #[.int .i64 u.kind, .int .u32 u.code, .int .u32 u.ses, .int .u32 u.num, .int .i64 u.flags, .slice dp u.data.length dc] 63))
  have UA := hid (Has.new w 63 [.int .i64 u.kind, .int .u32 u.code, .int .u32 u.ses, .int .u32 u.num, .int .i64 u.flags, .slice dp u.data.length dc])
  have Xh1 := hid h1
  have e0 : (x.state == 4) = false := by simp [h1]
  clear h hx hG hd hb h1
  unfold uval
  go_enter Tryz.func165, Tryz.ntmps165
  go_wp2_with fail
  have HA := hid (HH.out.nil KA.out)
  have DA := hid (HD.out.kept KA.out (by simp))
  generalize w.alloc (.cells #[.int .i64 u.kind, .int .u32 u.code, .int .u32 u.ses, .int .u32 u.num, .int .i64 u.flags, .slice dp u.data.length dc] 63) = wa at KA UA HA DA ⊢
  obtain ⟨R, hR⟩ : ∃ R, R = w.heap.size := ⟨_, rfl⟩
  rw [← hR] at UA ⊢
  have RR := hid (Nat.le_of_eq hR.symm)
  clear hR hlt
  have FK := hid (fkT HA UA)
  have k0 := Kept.refl [] wa
  obtain ⟨f1, f4, f11, f12, f13, y0, y1, y2, y3, y4, y5⟩ := FK.out _ k0
  go_quiet (fail)
  have k1 := k0.drewN nq
  clear f1 f4 f11 f12 f13 y0 y1 y2 y3 y4 y5 k0
  generalize wa.drewN nq = wq1 at k1 ⊢
  obtain ⟨f1, f4, f11, f12, f13, y0, y1, y2, y3, y4, y5⟩ := FK.out _ k1
  go_wp2_with fail
  clear f1 f4 f11 f12 f13 y0 y1 y2 y3 y4 y5
  have KM := hid k1
  have HM := hid (HA.out.nil k1)
  have UM := hid (k1.has UA.out (by simp))
  have DM := hid (DA.out.kept k1 (by simp))
  have KQ := hid (KG.nil (G := G) (KA.out.trans k1))
  have HGM := hid (HG.out.kg KQ.out)
  clear k1
  go_ret
  exact ⟨by rw [show decide (x.next u) = false by simp [D.next, Xh1.out]]; rfl, KA.out.trans KM.out⟩
set_option maxRecDepth 100000 in
theorem next2 (hx : DOk x) (hG : Opn G w) (h : DAt G w b d v g o lg k c m mb s x) (u : U) (vd : Value) (hd : Bytes w vd u.data) (hb : By u.data) (h1 : x.state = 4) (h2 : x.ses ≠ u.ses) :
    Calls Tryz.prog 165 #[.pointer (some ⟨b, 0, none⟩), uval u vd] w fun e w' => e = .returned (.bool (decide (x.next u))) ∧ Kept [] w w' := by
  obtain ⟨dp, dc, rfl, hdc⟩ := sl_shape hd
  have HH := hid h
  have HX := hid hx
  have HG := hid hG
  have HD := hid hd
  have HB := hid hb
  have hlt := h.top.lt
  have KA := hid ((Kept.refl [] w).alloc (.cells #[.int .i64 u.kind, .int .u32 u.code, .int .u32 u.ses, .int .u32 u.num, .int .i64 u.flags, .slice dp u.data.length dc] 63))
  have UA := hid (Has.new w 63 [.int .i64 u.kind, .int .u32 u.code, .int .u32 u.ses, .int .u32 u.num, .int .i64 u.flags, .slice dp u.data.length dc])
  have Xh1 := hid h1
  have Xh2 := hid h2
  have e0 : (x.state == 4) = true := by simp [h1]
  have e1 : (x.ses == u.ses) = false := by simp [h2]
  clear h hx hG hd hb h1 h2
  unfold uval
  go_enter Tryz.func165, Tryz.ntmps165
  go_wp2_with fail
  have HA := hid (HH.out.nil KA.out)
  have DA := hid (HD.out.kept KA.out (by simp))
  generalize w.alloc (.cells #[.int .i64 u.kind, .int .u32 u.code, .int .u32 u.ses, .int .u32 u.num, .int .i64 u.flags, .slice dp u.data.length dc] 63) = wa at KA UA HA DA ⊢
  obtain ⟨R, hR⟩ : ∃ R, R = w.heap.size := ⟨_, rfl⟩
  rw [← hR] at UA ⊢
  have RR := hid (Nat.le_of_eq hR.symm)
  clear hR hlt
  have FK := hid (fkT HA UA)
  have k0 := Kept.refl [] wa
  obtain ⟨f1, f4, f11, f12, f13, y0, y1, y2, y3, y4, y5⟩ := FK.out _ k0
  go_quiet (fail)
  have k1 := k0.drewN nq
  clear f1 f4 f11 f12 f13 y0 y1 y2 y3 y4 y5 k0
  generalize wa.drewN nq = wq1 at k1 ⊢
  obtain ⟨f1, f4, f11, f12, f13, y0, y1, y2, y3, y4, y5⟩ := FK.out _ k1
  go_wp2_with fail
  clear f1 f4 f11 f12 f13 y0 y1 y2 y3 y4 y5
  have KM := hid k1
  have HM := hid (HA.out.nil k1)
  have UM := hid (k1.has UA.out (by simp))
  have DM := hid (DA.out.kept k1 (by simp))
  have KQ := hid (KG.nil (G := G) (KA.out.trans k1))
  have HGM := hid (HG.out.kg KQ.out)
  clear k1
  go_ret
  exact ⟨by rw [show decide (x.next u) = false by simp [D.next, Xh1.out, Xh2.out]]; rfl, KA.out.trans KM.out⟩
set_option maxRecDepth 100000 in
theorem next3 (hx : DOk x) (hG : Opn G w) (h : DAt G w b d v g o lg k c m mb s x) (u : U) (vd : Value) (hd : Bytes w vd u.data) (hb : By u.data) (h1 : x.state = 4) (h2 : x.ses = u.ses) (h3 : ¬ u.num > x.num) :
    Calls Tryz.prog 165 #[.pointer (some ⟨b, 0, none⟩), uval u vd] w fun e w' => e = .returned (.bool (decide (x.next u))) ∧ Kept [] w w' := by
  obtain ⟨dp, dc, rfl, hdc⟩ := sl_shape hd
  have HH := hid h
  have HX := hid hx
  have HG := hid hG
  have HD := hid hd
  have HB := hid hb
  have hlt := h.top.lt
  have KA := hid ((Kept.refl [] w).alloc (.cells #[.int .i64 u.kind, .int .u32 u.code, .int .u32 u.ses, .int .u32 u.num, .int .i64 u.flags, .slice dp u.data.length dc] 63))
  have UA := hid (Has.new w 63 [.int .i64 u.kind, .int .u32 u.code, .int .u32 u.ses, .int .u32 u.num, .int .i64 u.flags, .slice dp u.data.length dc])
  have Xh1 := hid h1
  have Xh2 := hid h2
  have Xh3 := hid h3
  have e0 : (x.state == 4) = true := by simp [h1]
  have e1 : (x.ses == u.ses) = true := by simp [h2]
  have e2 : decide (u.num > x.num) = false := by simp; omega
  have e3 : decide (x.num < u.num) = false := by simp; omega
  clear h hx hG hd hb h1 h2 h3
  unfold uval
  go_enter Tryz.func165, Tryz.ntmps165
  go_wp2_with fail
  have HA := hid (HH.out.nil KA.out)
  have DA := hid (HD.out.kept KA.out (by simp))
  generalize w.alloc (.cells #[.int .i64 u.kind, .int .u32 u.code, .int .u32 u.ses, .int .u32 u.num, .int .i64 u.flags, .slice dp u.data.length dc] 63) = wa at KA UA HA DA ⊢
  obtain ⟨R, hR⟩ : ∃ R, R = w.heap.size := ⟨_, rfl⟩
  rw [← hR] at UA ⊢
  have RR := hid (Nat.le_of_eq hR.symm)
  clear hR hlt
  have FK := hid (fkT HA UA)
  have k0 := Kept.refl [] wa
  obtain ⟨f1, f4, f11, f12, f13, y0, y1, y2, y3, y4, y5⟩ := FK.out _ k0
  go_quiet (fail)
  have k1 := k0.drewN nq
  clear f1 f4 f11 f12 f13 y0 y1 y2 y3 y4 y5 k0
  generalize wa.drewN nq = wq1 at k1 ⊢
  obtain ⟨f1, f4, f11, f12, f13, y0, y1, y2, y3, y4, y5⟩ := FK.out _ k1
  go_wp2_with fail
  clear f1 f4 f11 f12 f13 y0 y1 y2 y3 y4 y5
  have KM := hid k1
  have HM := hid (HA.out.nil k1)
  have UM := hid (k1.has UA.out (by simp))
  have DM := hid (DA.out.kept k1 (by simp))
  have KQ := hid (KG.nil (G := G) (KA.out.trans k1))
  have HGM := hid (HG.out.kg KQ.out)
  clear k1
  go_ret
  exact ⟨by rw [show decide (x.next u) = false by have := Xh3.out; simp [D.next]; intro _ _; omega]; rfl, KA.out.trans KM.out⟩
set_option maxRecDepth 100000 in
theorem next4 (hx : DOk x) (hG : Opn G w) (h : DAt G w b d v g o lg k c m mb s x) (u : U) (vd : Value) (hd : Bytes w vd u.data) (hb : By u.data) (h1 : x.state = 4) (h2 : x.ses = u.ses) (h3 : u.num > x.num) :
    Calls Tryz.prog 165 #[.pointer (some ⟨b, 0, none⟩), uval u vd] w fun e w' => e = .returned (.bool (decide (x.next u))) ∧ Kept [] w w' := by
  obtain ⟨dp, dc, rfl, hdc⟩ := sl_shape hd
  have HH := hid h
  have HX := hid hx
  have HG := hid hG
  have HD := hid hd
  have HB := hid hb
  have hlt := h.top.lt
  have KA := hid ((Kept.refl [] w).alloc (.cells #[.int .i64 u.kind, .int .u32 u.code, .int .u32 u.ses, .int .u32 u.num, .int .i64 u.flags, .slice dp u.data.length dc] 63))
  have UA := hid (Has.new w 63 [.int .i64 u.kind, .int .u32 u.code, .int .u32 u.ses, .int .u32 u.num, .int .i64 u.flags, .slice dp u.data.length dc])
  have Xh1 := hid h1
  have Xh2 := hid h2
  have Xh3 := hid h3
  have e0 : (x.state == 4) = true := by simp [h1]
  have e1 : (x.ses == u.ses) = true := by simp [h2]
  have e2 : decide (u.num > x.num) = true := by simp; omega
  have e3 : decide (x.num < u.num) = true := by simp; omega
  clear h hx hG hd hb h1 h2 h3
  unfold uval
  go_enter Tryz.func165, Tryz.ntmps165
  go_wp2_with fail
  have HA := hid (HH.out.nil KA.out)
  have DA := hid (HD.out.kept KA.out (by simp))
  generalize w.alloc (.cells #[.int .i64 u.kind, .int .u32 u.code, .int .u32 u.ses, .int .u32 u.num, .int .i64 u.flags, .slice dp u.data.length dc] 63) = wa at KA UA HA DA ⊢
  obtain ⟨R, hR⟩ : ∃ R, R = w.heap.size := ⟨_, rfl⟩
  rw [← hR] at UA ⊢
  have RR := hid (Nat.le_of_eq hR.symm)
  clear hR hlt
  have FK := hid (fkT HA UA)
  have k0 := Kept.refl [] wa
  obtain ⟨f1, f4, f11, f12, f13, y0, y1, y2, y3, y4, y5⟩ := FK.out _ k0
  go_quiet (fail)
  have k1 := k0.drewN nq
  clear f1 f4 f11 f12 f13 y0 y1 y2 y3 y4 y5 k0
  generalize wa.drewN nq = wq1 at k1 ⊢
  obtain ⟨f1, f4, f11, f12, f13, y0, y1, y2, y3, y4, y5⟩ := FK.out _ k1
  go_wp2_with fail
  clear f1 f4 f11 f12 f13 y0 y1 y2 y3 y4 y5
  have KM := hid k1
  have HM := hid (HA.out.nil k1)
  have UM := hid (k1.has UA.out (by simp))
  have DM := hid (DA.out.kept k1 (by simp))
  have KQ := hid (KG.nil (G := G) (KA.out.trans k1))
  have HGM := hid (HG.out.kg KQ.out)
  clear k1
  go_ret
  exact ⟨by rw [show decide (x.next u) = true by have := Xh1.out; have := Xh2.out; have := Xh3.out; simp [D.next]; omega]; rfl, KA.out.trans KM.out⟩
theorem next_call (hx : DOk x) (hG : Opn G w) (h : DAt G w b d v g o lg k c m mb s x) (u : U) (vd : Value) (hd : Bytes w vd u.data) (hb : By u.data) :
    Calls Tryz.prog 165 #[.pointer (some ⟨b, 0, none⟩), uval u vd] w fun e w' => e = .returned (.bool (decide (x.next u))) ∧ Kept [] w w' := by
  by_cases h1 : x.state = 4
  · by_cases h2 : x.ses = u.ses
    · by_cases h3 : u.num > x.num
      · exact next4 hx hG h u vd hd hb h1 h2 h3
      · exact next3 hx hG h u vd hd hb h1 h2 h3
    · exact next2 hx hG h u vd hd hb h1 h2
  · exact next1 hx hG h u vd hd hb h1
set_option maxRecDepth 100000 in
theorem take1 (hx : DOk x) (hG : Opn G w) (h : DAt G w b d v g o lg k c m mb s x) (u : U) (vd : Value) (hd : Bytes w vd u.data) (hb : By u.data) (h1 : u.kind = 1) :
    Calls Tryz.prog 134 #[.pointer (some ⟨b, 0, none⟩), uval u vd] w fun e w' => Rep G w w' b m mb e (x.asked (sigB x.p) u) := by
  obtain ⟨dp, dc, rfl, hdc⟩ := sl_shape hd
  have HH := hid h
  have HX := hid hx
  have HG := hid hG
  have HD := hid hd
  have HB := hid hb
  have hlt := h.top.lt
  have KA := hid ((Kept.refl [] w).alloc (.cells #[.int .i64 u.kind, .int .u32 u.code, .int .u32 u.ses, .int .u32 u.num, .int .i64 u.flags, .slice dp u.data.length dc] 63))
  have UA := hid (Has.new w 63 [.int .i64 u.kind, .int .u32 u.code, .int .u32 u.ses, .int .u32 u.num, .int .i64 u.flags, .slice dp u.data.length dc])
  have Xh1 := hid h1
  have e0 : (u.kind == 1) = true := by simp [h1]
  have hg1 := h.top.cell 1 (v := .int .i64 x.p.out) rfl
  have hg4 := h.top.cell 4 (v := .int .u32 x.p.count) rfl
  have hg11 := h.top.cell 11 (v := .int .i64 x.state) rfl
  have hg12 := h.top.cell 12 (v := .int .u32 x.ses) rfl
  have hg13 := h.top.cell 13 (v := .int .u32 x.num) rfl
  clear h hx hG hd hb h1
  unfold uval
  go_enter Tryz.func134, Tryz.ntmps134
  go_wp2_with fail
  have HA := hid (HH.out.nil KA.out)
  have DA := hid (HD.out.kept KA.out (by simp))
  generalize w.alloc (.cells #[.int .i64 u.kind, .int .u32 u.code, .int .u32 u.ses, .int .u32 u.num, .int .i64 u.flags, .slice dp u.data.length dc] 63) = wa at KA UA HA DA ⊢
  obtain ⟨R, hR⟩ : ∃ R, R = w.heap.size := ⟨_, rfl⟩
  rw [← hR] at UA ⊢
  have RR := hid (Nat.le_of_eq hR.symm)
  clear hR hlt hg1 hg4 hg11 hg12 hg13
  have FK := hid (fkT HA UA)
  have k0 := Kept.refl [] wa
  have KM := hid k0
  have HM := hid (HA.out.nil k0)
  have UM := hid (k0.has UA.out (by simp))
  have DM := hid (DA.out.kept k0 (by simp))
  have KQ := hid (KG.nil (G := G) (KA.out.trans k0))
  have HGM := hid (HG.out.kg KQ.out)
  clear k0
  have AC := hid (asked_call HX.out HGM.out HM.out u (.slice dp u.data.length dc) DM.out HB.out)
  unfold uval at AC
  refine AC.out.mono ?_
  rintro e w5 ⟨f, rfl, k5, h5, f5⟩
  have K5 := hid (KG.trans (kgM (m := m) (mb := mb) KQ.out) k5)
  have H5 := hid h5
  have F5 := hid (FrameOf.after KQ.out.size f5)
  clear k5 h5 f5
  obtain ⟨p5, l5, n5, rfl⟩ := DevC.FrameOf.shape F5.out
  go_wp2_with fail
  go_ret2
  exact ⟨_, rfl, K5.out, H5.out, F5.out⟩
set_option maxRecDepth 100000 in
theorem take2a (hx : DOk x) (hG : Opn G w) (h : DAt G w b d v g o lg k c m mb s x) (u : U) (vd : Value) (hd : Bytes w vd u.data) (hb : By u.data) (h1 : u.kind = 2) (h2 : x.ses = u.ses) (h3 : x.state = 2) (h4 : u.data = sigB x.p) :
    Calls Tryz.prog 134 #[.pointer (some ⟨b, 0, none⟩), uval u vd] w fun e w' => Rep G w w' b m mb e (({ x with state := 3 } : D).alive, some (({ x with state := 3 } : D).alive.reply 18 0 []), 0) := by
  obtain ⟨dp, dc, rfl, hdc⟩ := sl_shape hd
  have HH := hid h
  have HX := hid hx
  have HG := hid hG
  have HD := hid hd
  have HB := hid hb
  have hlt := h.top.lt
  have KA := hid ((Kept.refl [] w).alloc (.cells #[.int .i64 u.kind, .int .u32 u.code, .int .u32 u.ses, .int .u32 u.num, .int .i64 u.flags, .slice dp u.data.length dc] 63))
  have UA := hid (Has.new w 63 [.int .i64 u.kind, .int .u32 u.code, .int .u32 u.ses, .int .u32 u.num, .int .i64 u.flags, .slice dp u.data.length dc])
  have Xh1 := hid h1
  have Xh2 := hid h2
  have Xh3 := hid h3
  have Xh4 := hid h4
  have e0 : (u.kind == 1) = false := by simp [h1]
  have e1 : (u.kind == 2) = true := by simp [h1]
  have e2 : (x.ses == u.ses) = true := by simp [h2]
  have e3 : (x.state == 2) = true := by simp [h3]
  have e4 : (x.state == 3) = false := by simp [h3]
  have hg1 := h.top.cell 1 (v := .int .i64 x.p.out) rfl
  have hg4 := h.top.cell 4 (v := .int .u32 x.p.count) rfl
  have hg11 := h.top.cell 11 (v := .int .i64 x.state) rfl
  have hg12 := h.top.cell 12 (v := .int .u32 x.ses) rfl
  have hg13 := h.top.cell 13 (v := .int .u32 x.num) rfl
  clear h hx hG hd hb h1 h2 h3 h4
  unfold uval
  go_enter Tryz.func134, Tryz.ntmps134
  go_wp2_with fail
  have HA := hid (HH.out.nil KA.out)
  have DA := hid (HD.out.kept KA.out (by simp))
  generalize w.alloc (.cells #[.int .i64 u.kind, .int .u32 u.code, .int .u32 u.ses, .int .u32 u.num, .int .i64 u.flags, .slice dp u.data.length dc] 63) = wa at KA UA HA DA ⊢
  obtain ⟨R, hR⟩ : ∃ R, R = w.heap.size := ⟨_, rfl⟩
  rw [← hR] at UA ⊢
  have RR := hid (Nat.le_of_eq hR.symm)
  clear hR hlt hg1 hg4 hg11 hg12 hg13
  have FK := hid (fkT HA UA)
  have k0 := Kept.refl [] wa
  obtain ⟨f1, f4, f11, f12, f13, y0, y1, y2, y3, y4, y5⟩ := FK.out _ k0
  go_quiet (fail)
  have k1 := k0.drewN nq
  clear f1 f4 f11 f12 f13 y0 y1 y2 y3 y4 y5 k0
  generalize wa.drewN nq = wq1 at k1 ⊢
  obtain ⟨f1, f4, f11, f12, f13, y0, y1, y2, y3, y4, y5⟩ := FK.out _ k1
  go_wp2_with fail
  clear f1 f4 f11 f12 f13 y0 y1 y2 y3 y4 y5
  have KM := hid k1
  have HM := hid (HA.out.nil k1)
  have UM := hid (k1.has UA.out (by simp))
  have DM := hid (DA.out.kept k1 (by simp))
  have KQ := hid (KG.nil (G := G) (KA.out.trans k1))
  have HGM := hid (HG.out.kg KQ.out)
  clear k1
  have AC := hid (echoed2 HX.out HGM.out HM.out u (.slice dp u.data.length dc) DM.out HB.out Xh4.out Xh3.out)
  unfold uval at AC
  refine AC.out.mono ?_
  rintro e w5 ⟨f, rfl, k5, h5, f5⟩
  have K5 := hid (KG.trans (kgM (m := m) (mb := mb) KQ.out) k5)
  have H5 := hid h5
  have F5 := hid (FrameOf.after KQ.out.size f5)
  clear k5 h5 f5
  obtain ⟨p5, l5, n5, rfl⟩ := DevC.FrameOf.shape F5.out
  go_wp2_with fail
  go_ret2
  exact ⟨_, rfl, K5.out, H5.out, F5.out⟩
set_option maxRecDepth 100000 in
theorem take2b (hx : DOk x) (hG : Opn G w) (h : DAt G w b d v g o lg k c m mb s x) (u : U) (vd : Value) (hd : Bytes w vd u.data) (hb : By u.data) (h1 : u.kind = 2) (h2 : x.ses = u.ses) (h3 : x.state = 3) (h4 : u.data = sigB x.p) :
    Calls Tryz.prog 134 #[.pointer (some ⟨b, 0, none⟩), uval u vd] w fun e w' => Rep G w w' b m mb e (x, some (x.reply 18 0 []), 0) := by
  obtain ⟨dp, dc, rfl, hdc⟩ := sl_shape hd
  have HH := hid h
  have HX := hid hx
  have HG := hid hG
  have HD := hid hd
  have HB := hid hb
  have hlt := h.top.lt
  have KA := hid ((Kept.refl [] w).alloc (.cells #[.int .i64 u.kind, .int .u32 u.code, .int .u32 u.ses, .int .u32 u.num, .int .i64 u.flags, .slice dp u.data.length dc] 63))
  have UA := hid (Has.new w 63 [.int .i64 u.kind, .int .u32 u.code, .int .u32 u.ses, .int .u32 u.num, .int .i64 u.flags, .slice dp u.data.length dc])
  have Xh1 := hid h1
  have Xh2 := hid h2
  have Xh3 := hid h3
  have Xh4 := hid h4
  have e0 : (u.kind == 1) = false := by simp [h1]
  have e1 : (u.kind == 2) = true := by simp [h1]
  have e2 : (x.ses == u.ses) = true := by simp [h2]
  have e3 : (x.state == 2) = false := by simp [h3]
  have e4 : (x.state == 3) = true := by simp [h3]
  have hg1 := h.top.cell 1 (v := .int .i64 x.p.out) rfl
  have hg4 := h.top.cell 4 (v := .int .u32 x.p.count) rfl
  have hg11 := h.top.cell 11 (v := .int .i64 x.state) rfl
  have hg12 := h.top.cell 12 (v := .int .u32 x.ses) rfl
  have hg13 := h.top.cell 13 (v := .int .u32 x.num) rfl
  clear h hx hG hd hb h1 h2 h3 h4
  unfold uval
  go_enter Tryz.func134, Tryz.ntmps134
  go_wp2_with fail
  have HA := hid (HH.out.nil KA.out)
  have DA := hid (HD.out.kept KA.out (by simp))
  generalize w.alloc (.cells #[.int .i64 u.kind, .int .u32 u.code, .int .u32 u.ses, .int .u32 u.num, .int .i64 u.flags, .slice dp u.data.length dc] 63) = wa at KA UA HA DA ⊢
  obtain ⟨R, hR⟩ : ∃ R, R = w.heap.size := ⟨_, rfl⟩
  rw [← hR] at UA ⊢
  have RR := hid (Nat.le_of_eq hR.symm)
  clear hR hlt hg1 hg4 hg11 hg12 hg13
  have FK := hid (fkT HA UA)
  have k0 := Kept.refl [] wa
  obtain ⟨f1, f4, f11, f12, f13, y0, y1, y2, y3, y4, y5⟩ := FK.out _ k0
  go_quiet (fail)
  have k1 := k0.drewN nq
  clear f1 f4 f11 f12 f13 y0 y1 y2 y3 y4 y5 k0
  generalize wa.drewN nq = wq1 at k1 ⊢
  obtain ⟨f1, f4, f11, f12, f13, y0, y1, y2, y3, y4, y5⟩ := FK.out _ k1
  go_wp2_with fail
  clear f1 f4 f11 f12 f13 y0 y1 y2 y3 y4 y5
  have KM := hid k1
  have HM := hid (HA.out.nil k1)
  have UM := hid (k1.has UA.out (by simp))
  have DM := hid (DA.out.kept k1 (by simp))
  have KQ := hid (KG.nil (G := G) (KA.out.trans k1))
  have HGM := hid (HG.out.kg KQ.out)
  clear k1
  have AC := hid (echoed1 HX.out HGM.out HM.out u (.slice dp u.data.length dc) DM.out HB.out Xh4.out Xh3.out)
  unfold uval at AC
  refine AC.out.mono ?_
  rintro e w5 ⟨f, rfl, k5, h5, f5⟩
  have K5 := hid (KG.trans (kgM (m := m) (mb := mb) KQ.out) k5)
  have H5 := hid h5
  have F5 := hid (FrameOf.after KQ.out.size f5)
  clear k5 h5 f5
  obtain ⟨p5, l5, n5, rfl⟩ := DevC.FrameOf.shape F5.out
  go_wp2_with fail
  go_ret2
  exact ⟨_, rfl, K5.out, H5.out, F5.out⟩
set_option maxRecDepth 100000 in
theorem take2c (hx : DOk x) (hG : Opn G w) (h : DAt G w b d v g o lg k c m mb s x) (u : U) (vd : Value) (hd : Bytes w vd u.data) (hb : By u.data) (h1 : u.kind = 2) (h2 : x.ses = u.ses) (h3 : x.state = 2) (h4 : u.data ≠ sigB x.p) :
    Calls Tryz.prog 134 #[.pointer (some ⟨b, 0, none⟩), uval u vd] w fun e w' => Rep G w w' b m mb e (x.odds 91) := by
  obtain ⟨dp, dc, rfl, hdc⟩ := sl_shape hd
  have HH := hid h
  have HX := hid hx
  have HG := hid hG
  have HD := hid hd
  have HB := hid hb
  have hlt := h.top.lt
  have KA := hid ((Kept.refl [] w).alloc (.cells #[.int .i64 u.kind, .int .u32 u.code, .int .u32 u.ses, .int .u32 u.num, .int .i64 u.flags, .slice dp u.data.length dc] 63))
  have UA := hid (Has.new w 63 [.int .i64 u.kind, .int .u32 u.code, .int .u32 u.ses, .int .u32 u.num, .int .i64 u.flags, .slice dp u.data.length dc])
  have Xh1 := hid h1
  have Xh2 := hid h2
  have Xh3 := hid h3
  have Xh4 := hid h4
  have e0 : (u.kind == 1) = false := by simp [h1]
  have e1 : (u.kind == 2) = true := by simp [h1]
  have e2 : (x.ses == u.ses) = true := by simp [h2]
  have e3 : (x.state == 2) = true := by simp [h3]
  have e4 : (x.state == 3) = false := by simp [h3]
  have hg1 := h.top.cell 1 (v := .int .i64 x.p.out) rfl
  have hg4 := h.top.cell 4 (v := .int .u32 x.p.count) rfl
  have hg11 := h.top.cell 11 (v := .int .i64 x.state) rfl
  have hg12 := h.top.cell 12 (v := .int .u32 x.ses) rfl
  have hg13 := h.top.cell 13 (v := .int .u32 x.num) rfl
  clear h hx hG hd hb h1 h2 h3 h4
  unfold uval
  go_enter Tryz.func134, Tryz.ntmps134
  go_wp2_with fail
  have HA := hid (HH.out.nil KA.out)
  have DA := hid (HD.out.kept KA.out (by simp))
  generalize w.alloc (.cells #[.int .i64 u.kind, .int .u32 u.code, .int .u32 u.ses, .int .u32 u.num, .int .i64 u.flags, .slice dp u.data.length dc] 63) = wa at KA UA HA DA ⊢
  obtain ⟨R, hR⟩ : ∃ R, R = w.heap.size := ⟨_, rfl⟩
  rw [← hR] at UA ⊢
  have RR := hid (Nat.le_of_eq hR.symm)
  clear hR hlt hg1 hg4 hg11 hg12 hg13
  have FK := hid (fkT HA UA)
  have k0 := Kept.refl [] wa
  obtain ⟨f1, f4, f11, f12, f13, y0, y1, y2, y3, y4, y5⟩ := FK.out _ k0
  go_quiet (fail)
  have k1 := k0.drewN nq
  clear f1 f4 f11 f12 f13 y0 y1 y2 y3 y4 y5 k0
  generalize wa.drewN nq = wq1 at k1 ⊢
  obtain ⟨f1, f4, f11, f12, f13, y0, y1, y2, y3, y4, y5⟩ := FK.out _ k1
  go_wp2_with fail
  clear f1 f4 f11 f12 f13 y0 y1 y2 y3 y4 y5
  have KM := hid k1
  have HM := hid (HA.out.nil k1)
  have UM := hid (k1.has UA.out (by simp))
  have DM := hid (DA.out.kept k1 (by simp))
  have KQ := hid (KG.nil (G := G) (KA.out.trans k1))
  have HGM := hid (HG.out.kg KQ.out)
  clear k1
  have AC := hid (echoed0 HX.out HGM.out HM.out u (.slice dp u.data.length dc) DM.out HB.out Xh4.out)
  unfold uval at AC
  refine AC.out.mono ?_
  rintro e w5 ⟨f, rfl, k5, h5, f5⟩
  have K5 := hid (KG.trans (kgM (m := m) (mb := mb) KQ.out) k5)
  have H5 := hid h5
  have F5 := hid (FrameOf.after KQ.out.size f5)
  clear k5 h5 f5
  obtain ⟨p5, l5, n5, rfl⟩ := DevC.FrameOf.shape F5.out
  go_wp2_with fail
  go_ret2
  exact ⟨_, rfl, K5.out, H5.out, F5.out⟩
set_option maxRecDepth 100000 in
theorem take2d (hx : DOk x) (hG : Opn G w) (h : DAt G w b d v g o lg k c m mb s x) (u : U) (vd : Value) (hd : Bytes w vd u.data) (hb : By u.data) (h1 : u.kind = 2) (h2 : x.ses = u.ses) (h3 : x.state = 3) (h4 : u.data ≠ sigB x.p) :
    Calls Tryz.prog 134 #[.pointer (some ⟨b, 0, none⟩), uval u vd] w fun e w' => Rep G w w' b m mb e (x.odds 91) := by
  obtain ⟨dp, dc, rfl, hdc⟩ := sl_shape hd
  have HH := hid h
  have HX := hid hx
  have HG := hid hG
  have HD := hid hd
  have HB := hid hb
  have hlt := h.top.lt
  have KA := hid ((Kept.refl [] w).alloc (.cells #[.int .i64 u.kind, .int .u32 u.code, .int .u32 u.ses, .int .u32 u.num, .int .i64 u.flags, .slice dp u.data.length dc] 63))
  have UA := hid (Has.new w 63 [.int .i64 u.kind, .int .u32 u.code, .int .u32 u.ses, .int .u32 u.num, .int .i64 u.flags, .slice dp u.data.length dc])
  have Xh1 := hid h1
  have Xh2 := hid h2
  have Xh3 := hid h3
  have Xh4 := hid h4
  have e0 : (u.kind == 1) = false := by simp [h1]
  have e1 : (u.kind == 2) = true := by simp [h1]
  have e2 : (x.ses == u.ses) = true := by simp [h2]
  have e3 : (x.state == 2) = false := by simp [h3]
  have e4 : (x.state == 3) = true := by simp [h3]
  have hg1 := h.top.cell 1 (v := .int .i64 x.p.out) rfl
  have hg4 := h.top.cell 4 (v := .int .u32 x.p.count) rfl
  have hg11 := h.top.cell 11 (v := .int .i64 x.state) rfl
  have hg12 := h.top.cell 12 (v := .int .u32 x.ses) rfl
  have hg13 := h.top.cell 13 (v := .int .u32 x.num) rfl
  clear h hx hG hd hb h1 h2 h3 h4
  unfold uval
  go_enter Tryz.func134, Tryz.ntmps134
  go_wp2_with fail
  have HA := hid (HH.out.nil KA.out)
  have DA := hid (HD.out.kept KA.out (by simp))
  generalize w.alloc (.cells #[.int .i64 u.kind, .int .u32 u.code, .int .u32 u.ses, .int .u32 u.num, .int .i64 u.flags, .slice dp u.data.length dc] 63) = wa at KA UA HA DA ⊢
  obtain ⟨R, hR⟩ : ∃ R, R = w.heap.size := ⟨_, rfl⟩
  rw [← hR] at UA ⊢
  have RR := hid (Nat.le_of_eq hR.symm)
  clear hR hlt hg1 hg4 hg11 hg12 hg13
  have FK := hid (fkT HA UA)
  have k0 := Kept.refl [] wa
  obtain ⟨f1, f4, f11, f12, f13, y0, y1, y2, y3, y4, y5⟩ := FK.out _ k0
  go_quiet (fail)
  have k1 := k0.drewN nq
  clear f1 f4 f11 f12 f13 y0 y1 y2 y3 y4 y5 k0
  generalize wa.drewN nq = wq1 at k1 ⊢
  obtain ⟨f1, f4, f11, f12, f13, y0, y1, y2, y3, y4, y5⟩ := FK.out _ k1
  go_wp2_with fail
  clear f1 f4 f11 f12 f13 y0 y1 y2 y3 y4 y5
  have KM := hid k1
  have HM := hid (HA.out.nil k1)
  have UM := hid (k1.has UA.out (by simp))
  have DM := hid (DA.out.kept k1 (by simp))
  have KQ := hid (KG.nil (G := G) (KA.out.trans k1))
  have HGM := hid (HG.out.kg KQ.out)
  clear k1
  have AC := hid (echoed0 HX.out HGM.out HM.out u (.slice dp u.data.length dc) DM.out HB.out Xh4.out)
  unfold uval at AC
  refine AC.out.mono ?_
  rintro e w5 ⟨f, rfl, k5, h5, f5⟩
  have K5 := hid (KG.trans (kgM (m := m) (mb := mb) KQ.out) k5)
  have H5 := hid h5
  have F5 := hid (FrameOf.after KQ.out.size f5)
  clear k5 h5 f5
  obtain ⟨p5, l5, n5, rfl⟩ := DevC.FrameOf.shape F5.out
  go_wp2_with fail
  go_ret2
  exact ⟨_, rfl, K5.out, H5.out, F5.out⟩
set_option maxRecDepth 100000 in
theorem take2e (hx : DOk x) (hG : Opn G w) (h : DAt G w b d v g o lg k c m mb s x) (u : U) (vd : Value) (hd : Bytes w vd u.data) (hb : By u.data) (h1 : u.kind = 2) (h2 : x.ses ≠ u.ses) :
    Calls Tryz.prog 134 #[.pointer (some ⟨b, 0, none⟩), uval u vd] w fun e w' => Rep G w w' b m mb e (x.odds 130) := by
  obtain ⟨dp, dc, rfl, hdc⟩ := sl_shape hd
  have HH := hid h
  have HX := hid hx
  have HG := hid hG
  have HD := hid hd
  have HB := hid hb
  have hlt := h.top.lt
  have KA := hid ((Kept.refl [] w).alloc (.cells #[.int .i64 u.kind, .int .u32 u.code, .int .u32 u.ses, .int .u32 u.num, .int .i64 u.flags, .slice dp u.data.length dc] 63))
  have UA := hid (Has.new w 63 [.int .i64 u.kind, .int .u32 u.code, .int .u32 u.ses, .int .u32 u.num, .int .i64 u.flags, .slice dp u.data.length dc])
  have Xh1 := hid h1
  have Xh2 := hid h2
  have e0 : (u.kind == 1) = false := by simp [h1]
  have e1 : (u.kind == 2) = true := by simp [h1]
  have e2 : (x.ses == u.ses) = false := by simp [h2]
  have hg1 := h.top.cell 1 (v := .int .i64 x.p.out) rfl
  have hg4 := h.top.cell 4 (v := .int .u32 x.p.count) rfl
  have hg11 := h.top.cell 11 (v := .int .i64 x.state) rfl
  have hg12 := h.top.cell 12 (v := .int .u32 x.ses) rfl
  have hg13 := h.top.cell 13 (v := .int .u32 x.num) rfl
  clear h hx hG hd hb h1 h2
  unfold uval
  go_enter Tryz.func134, Tryz.ntmps134
  go_wp2_with fail
  have HA := hid (HH.out.nil KA.out)
  have DA := hid (HD.out.kept KA.out (by simp))
  generalize w.alloc (.cells #[.int .i64 u.kind, .int .u32 u.code, .int .u32 u.ses, .int .u32 u.num, .int .i64 u.flags, .slice dp u.data.length dc] 63) = wa at KA UA HA DA ⊢
  obtain ⟨R, hR⟩ : ∃ R, R = w.heap.size := ⟨_, rfl⟩
  rw [← hR] at UA ⊢
  have RR := hid (Nat.le_of_eq hR.symm)
  clear hR hlt hg1 hg4 hg11 hg12 hg13
  have FK := hid (fkT HA UA)
  have k0 := Kept.refl [] wa
  obtain ⟨f1, f4, f11, f12, f13, y0, y1, y2, y3, y4, y5⟩ := FK.out _ k0
  go_quiet (fail)
  have k1 := k0.drewN nq
  clear f1 f4 f11 f12 f13 y0 y1 y2 y3 y4 y5 k0
  generalize wa.drewN nq = wq1 at k1 ⊢
  obtain ⟨f1, f4, f11, f12, f13, y0, y1, y2, y3, y4, y5⟩ := FK.out _ k1
  go_wp2_with fail
  clear f1 f4 f11 f12 f13 y0 y1 y2 y3 y4 y5
  have KM := hid k1
  have HM := hid (HA.out.nil k1)
  have UM := hid (k1.has UA.out (by simp))
  have DM := hid (DA.out.kept k1 (by simp))
  have KQ := hid (KG.nil (G := G) (KA.out.trans k1))
  have HGM := hid (HG.out.kg KQ.out)
  clear k1
  refine (odds_call HX.out 130 HGM.out HM.out).mono ?_
  rintro e w5 ⟨f, rfl, k5, h5, f5⟩
  have K5 := hid (kgM (m := m) (mb := mb) (KQ.out.trans k5))
  have H5 := hid h5.dev
  have F5 := hid (FrameOf.after KQ.out.size f5)
  clear k5 h5 f5
  obtain ⟨p5, l5, n5, rfl⟩ := DevC.FrameOf.shape F5.out
  go_wp2_with fail
  go_ret2
  exact ⟨_, rfl, K5.out, H5.out, F5.out⟩
set_option maxRecDepth 100000 in
theorem take2f (hx : DOk x) (hG : Opn G w) (h : DAt G w b d v g o lg k c m mb s x) (u : U) (vd : Value) (hd : Bytes w vd u.data) (hb : By u.data) (h1 : u.kind = 2) (h2 : x.ses = u.ses) (h3 : x.state ≠ 2) (h4 : x.state ≠ 3) :
    Calls Tryz.prog 134 #[.pointer (some ⟨b, 0, none⟩), uval u vd] w fun e w' => Rep G w w' b m mb e (x.odds 130) := by
  obtain ⟨dp, dc, rfl, hdc⟩ := sl_shape hd
  have HH := hid h
  have HX := hid hx
  have HG := hid hG
  have HD := hid hd
  have HB := hid hb
  have hlt := h.top.lt
  have KA := hid ((Kept.refl [] w).alloc (.cells #[.int .i64 u.kind, .int .u32 u.code, .int .u32 u.ses, .int .u32 u.num, .int .i64 u.flags, .slice dp u.data.length dc] 63))
  have UA := hid (Has.new w 63 [.int .i64 u.kind, .int .u32 u.code, .int .u32 u.ses, .int .u32 u.num, .int .i64 u.flags, .slice dp u.data.length dc])
  have Xh1 := hid h1
  have Xh2 := hid h2
  have Xh3 := hid h3
  have Xh4 := hid h4
  have e0 : (u.kind == 1) = false := by simp [h1]
  have e1 : (u.kind == 2) = true := by simp [h1]
  have e2 : (x.ses == u.ses) = true := by simp [h2]
  have e3 : (x.state == 2) = false := by simp [h3]
  have e4 : (x.state == 3) = false := by simp [h4]
  have hg1 := h.top.cell 1 (v := .int .i64 x.p.out) rfl
  have hg4 := h.top.cell 4 (v := .int .u32 x.p.count) rfl
  have hg11 := h.top.cell 11 (v := .int .i64 x.state) rfl
  have hg12 := h.top.cell 12 (v := .int .u32 x.ses) rfl
  have hg13 := h.top.cell 13 (v := .int .u32 x.num) rfl
  clear h hx hG hd hb h1 h2 h3 h4
  unfold uval
  go_enter Tryz.func134, Tryz.ntmps134
  go_wp2_with fail
  have HA := hid (HH.out.nil KA.out)
  have DA := hid (HD.out.kept KA.out (by simp))
  generalize w.alloc (.cells #[.int .i64 u.kind, .int .u32 u.code, .int .u32 u.ses, .int .u32 u.num, .int .i64 u.flags, .slice dp u.data.length dc] 63) = wa at KA UA HA DA ⊢
  obtain ⟨R, hR⟩ : ∃ R, R = w.heap.size := ⟨_, rfl⟩
  rw [← hR] at UA ⊢
  have RR := hid (Nat.le_of_eq hR.symm)
  clear hR hlt hg1 hg4 hg11 hg12 hg13
  have FK := hid (fkT HA UA)
  have k0 := Kept.refl [] wa
  obtain ⟨f1, f4, f11, f12, f13, y0, y1, y2, y3, y4, y5⟩ := FK.out _ k0
  go_quiet (fail)
  have k1 := k0.drewN nq
  clear f1 f4 f11 f12 f13 y0 y1 y2 y3 y4 y5 k0
  generalize wa.drewN nq = wq1 at k1 ⊢
  obtain ⟨f1, f4, f11, f12, f13, y0, y1, y2, y3, y4, y5⟩ := FK.out _ k1
  go_wp2_with fail
  clear f1 f4 f11 f12 f13 y0 y1 y2 y3 y4 y5
  have KM := hid k1
  have HM := hid (HA.out.nil k1)
  have UM := hid (k1.has UA.out (by simp))
  have DM := hid (DA.out.kept k1 (by simp))
  have KQ := hid (KG.nil (G := G) (KA.out.trans k1))
  have HGM := hid (HG.out.kg KQ.out)
  clear k1
  refine (odds_call HX.out 130 HGM.out HM.out).mono ?_
  rintro e w5 ⟨f, rfl, k5, h5, f5⟩
  have K5 := hid (kgM (m := m) (mb := mb) (KQ.out.trans k5))
  have H5 := hid h5.dev
  have F5 := hid (FrameOf.after KQ.out.size f5)
  clear k5 h5 f5
  obtain ⟨p5, l5, n5, rfl⟩ := DevC.FrameOf.shape F5.out
  go_wp2_with fail
  go_ret2
  exact ⟨_, rfl, K5.out, H5.out, F5.out⟩
set_option maxRecDepth 100000 in
theorem take3a (hx : DOk x) (hG : Opn G w) (h : DAt G w b d v g o lg k c m mb s x) (u : U) (vd : Value) (hd : Bytes w vd u.data) (hb : By u.data) (h1 : u.kind = 3) (h2 : x.ses = u.ses) (h3 : x.state = 3) :
    Calls Tryz.prog 134 #[.pointer (some ⟨b, 0, none⟩), uval u vd] w fun e w' => Rep G w w' b m mb e (({ x with state := 4, v := x.v.run true } : D).alive, some (({ x with state := 4, v := x.v.run true } : D).alive.reply 19 0 []), 0) := by
  obtain ⟨dp, dc, rfl, hdc⟩ := sl_shape hd
  have HH := hid h
  have HX := hid hx
  have HG := hid hG
  have HD := hid hd
  have HB := hid hb
  have hlt := h.top.lt
  have KA := hid ((Kept.refl [] w).alloc (.cells #[.int .i64 u.kind, .int .u32 u.code, .int .u32 u.ses, .int .u32 u.num, .int .i64 u.flags, .slice dp u.data.length dc] 63))
  have UA := hid (Has.new w 63 [.int .i64 u.kind, .int .u32 u.code, .int .u32 u.ses, .int .u32 u.num, .int .i64 u.flags, .slice dp u.data.length dc])
  have Xh1 := hid h1
  have Xh2 := hid h2
  have Xh3 := hid h3
  have e0 : (u.kind == 1) = false := by simp [h1]
  have e1 : (u.kind == 2) = false := by simp [h1]
  have e2 : (u.kind == 3) = true := by simp [h1]
  have e3 : (x.ses == u.ses) = true := by simp [h2]
  have e4 : (x.state == 3) = true := by simp [h3]
  have e5 : (x.state == 4) = false := by simp [h3]
  have hg1 := h.top.cell 1 (v := .int .i64 x.p.out) rfl
  have hg4 := h.top.cell 4 (v := .int .u32 x.p.count) rfl
  have hg11 := h.top.cell 11 (v := .int .i64 x.state) rfl
  have hg12 := h.top.cell 12 (v := .int .u32 x.ses) rfl
  have hg13 := h.top.cell 13 (v := .int .u32 x.num) rfl
  clear h hx hG hd hb h1 h2 h3
  unfold uval
  go_enter Tryz.func134, Tryz.ntmps134
  go_wp2_with fail
  have HA := hid (HH.out.nil KA.out)
  have DA := hid (HD.out.kept KA.out (by simp))
  generalize w.alloc (.cells #[.int .i64 u.kind, .int .u32 u.code, .int .u32 u.ses, .int .u32 u.num, .int .i64 u.flags, .slice dp u.data.length dc] 63) = wa at KA UA HA DA ⊢
  obtain ⟨R, hR⟩ : ∃ R, R = w.heap.size := ⟨_, rfl⟩
  rw [← hR] at UA ⊢
  have RR := hid (Nat.le_of_eq hR.symm)
  clear hR hlt hg1 hg4 hg11 hg12 hg13
  have FK := hid (fkT HA UA)
  have k0 := Kept.refl [] wa
  obtain ⟨f1, f4, f11, f12, f13, y0, y1, y2, y3, y4, y5⟩ := FK.out _ k0
  go_quiet (fail)
  have k1 := k0.drewN nq
  clear f1 f4 f11 f12 f13 y0 y1 y2 y3 y4 y5 k0
  generalize wa.drewN nq = wq1 at k1 ⊢
  obtain ⟨f1, f4, f11, f12, f13, y0, y1, y2, y3, y4, y5⟩ := FK.out _ k1
  go_wp2_with fail
  clear f1 f4 f11 f12 f13 y0 y1 y2 y3 y4 y5
  have KM := hid k1
  have HM := hid (HA.out.nil k1)
  have UM := hid (k1.has UA.out (by simp))
  have DM := hid (DA.out.kept k1 (by simp))
  have KQ := hid (KG.nil (G := G) (KA.out.trans k1))
  have HGM := hid (HG.out.kg KQ.out)
  clear k1
  refine (started3 HX.out HGM.out HM.out Xh3.out).mono ?_
  rintro e w5 ⟨f, rfl, k5, h5, f5⟩
  have K5 := hid (KG.trans (kgM (m := m) (mb := mb) KQ.out) k5)
  have H5 := hid h5
  have F5 := hid (FrameOf.after KQ.out.size f5)
  clear k5 h5 f5
  obtain ⟨p5, l5, n5, rfl⟩ := DevC.FrameOf.shape F5.out
  go_wp2_with fail
  go_ret2
  exact ⟨_, rfl, K5.out, H5.out, F5.out⟩
set_option maxRecDepth 100000 in
theorem take3b (hx : DOk x) (hG : Opn G w) (h : DAt G w b d v g o lg k c m mb s x) (u : U) (vd : Value) (hd : Bytes w vd u.data) (hb : By u.data) (h1 : u.kind = 3) (h2 : x.ses = u.ses) (h3 : x.state = 4) (h4 : x.num = 0) :
    Calls Tryz.prog 134 #[.pointer (some ⟨b, 0, none⟩), uval u vd] w fun e w' => Rep G w w' b m mb e (x, some (x.reply 19 0 []), 0) := by
  obtain ⟨dp, dc, rfl, hdc⟩ := sl_shape hd
  have HH := hid h
  have HX := hid hx
  have HG := hid hG
  have HD := hid hd
  have HB := hid hb
  have hlt := h.top.lt
  have KA := hid ((Kept.refl [] w).alloc (.cells #[.int .i64 u.kind, .int .u32 u.code, .int .u32 u.ses, .int .u32 u.num, .int .i64 u.flags, .slice dp u.data.length dc] 63))
  have UA := hid (Has.new w 63 [.int .i64 u.kind, .int .u32 u.code, .int .u32 u.ses, .int .u32 u.num, .int .i64 u.flags, .slice dp u.data.length dc])
  have Xh1 := hid h1
  have Xh2 := hid h2
  have Xh3 := hid h3
  have Xh4 := hid h4
  have e0 : (u.kind == 1) = false := by simp [h1]
  have e1 : (u.kind == 2) = false := by simp [h1]
  have e2 : (u.kind == 3) = true := by simp [h1]
  have e3 : (x.ses == u.ses) = true := by simp [h2]
  have e4 : (x.state == 3) = false := by simp [h3]
  have e5 : (x.state == 4) = true := by simp [h3]
  have e6 : (x.num == 0) = true := by simp [h4]
  have hg1 := h.top.cell 1 (v := .int .i64 x.p.out) rfl
  have hg4 := h.top.cell 4 (v := .int .u32 x.p.count) rfl
  have hg11 := h.top.cell 11 (v := .int .i64 x.state) rfl
  have hg12 := h.top.cell 12 (v := .int .u32 x.ses) rfl
  have hg13 := h.top.cell 13 (v := .int .u32 x.num) rfl
  clear h hx hG hd hb h1 h2 h3 h4
  unfold uval
  go_enter Tryz.func134, Tryz.ntmps134
  go_wp2_with fail
  have HA := hid (HH.out.nil KA.out)
  have DA := hid (HD.out.kept KA.out (by simp))
  generalize w.alloc (.cells #[.int .i64 u.kind, .int .u32 u.code, .int .u32 u.ses, .int .u32 u.num, .int .i64 u.flags, .slice dp u.data.length dc] 63) = wa at KA UA HA DA ⊢
  obtain ⟨R, hR⟩ : ∃ R, R = w.heap.size := ⟨_, rfl⟩
  rw [← hR] at UA ⊢
  have RR := hid (Nat.le_of_eq hR.symm)
  clear hR hlt hg1 hg4 hg11 hg12 hg13
  have FK := hid (fkT HA UA)
  have k0 := Kept.refl [] wa
  obtain ⟨f1, f4, f11, f12, f13, y0, y1, y2, y3, y4, y5⟩ := FK.out _ k0
  go_quiet (fail)
  have k1 := k0.drewN nq
  clear f1 f4 f11 f12 f13 y0 y1 y2 y3 y4 y5 k0
  generalize wa.drewN nq = wq1 at k1 ⊢
  obtain ⟨f1, f4, f11, f12, f13, y0, y1, y2, y3, y4, y5⟩ := FK.out _ k1
  go_wp2_with fail
  clear f1 f4 f11 f12 f13 y0 y1 y2 y3 y4 y5
  have KM := hid k1
  have HM := hid (HA.out.nil k1)
  have UM := hid (k1.has UA.out (by simp))
  have DM := hid (DA.out.kept k1 (by simp))
  have KQ := hid (KG.nil (G := G) (KA.out.trans k1))
  have HGM := hid (HG.out.kg KQ.out)
  clear k1
  refine (started4 HX.out HGM.out HM.out Xh3.out).mono ?_
  rintro e w5 ⟨f, rfl, k5, h5, f5⟩
  have K5 := hid (KG.trans (kgM (m := m) (mb := mb) KQ.out) k5)
  have H5 := hid h5
  have F5 := hid (FrameOf.after KQ.out.size f5)
  clear k5 h5 f5
  obtain ⟨p5, l5, n5, rfl⟩ := DevC.FrameOf.shape F5.out
  go_wp2_with fail
  go_ret2
  exact ⟨_, rfl, K5.out, H5.out, F5.out⟩
set_option maxRecDepth 100000 in
theorem take3e (hx : DOk x) (hG : Opn G w) (h : DAt G w b d v g o lg k c m mb s x) (u : U) (vd : Value) (hd : Bytes w vd u.data) (hb : By u.data) (h1 : u.kind = 3) (h2 : x.ses ≠ u.ses) :
    Calls Tryz.prog 134 #[.pointer (some ⟨b, 0, none⟩), uval u vd] w fun e w' => Rep G w w' b m mb e (x.odds 130) := by
  obtain ⟨dp, dc, rfl, hdc⟩ := sl_shape hd
  have HH := hid h
  have HX := hid hx
  have HG := hid hG
  have HD := hid hd
  have HB := hid hb
  have hlt := h.top.lt
  have KA := hid ((Kept.refl [] w).alloc (.cells #[.int .i64 u.kind, .int .u32 u.code, .int .u32 u.ses, .int .u32 u.num, .int .i64 u.flags, .slice dp u.data.length dc] 63))
  have UA := hid (Has.new w 63 [.int .i64 u.kind, .int .u32 u.code, .int .u32 u.ses, .int .u32 u.num, .int .i64 u.flags, .slice dp u.data.length dc])
  have Xh1 := hid h1
  have Xh2 := hid h2
  have e0 : (u.kind == 1) = false := by simp [h1]
  have e1 : (u.kind == 2) = false := by simp [h1]
  have e2 : (u.kind == 3) = true := by simp [h1]
  have e3 : (x.ses == u.ses) = false := by simp [h2]
  have hg1 := h.top.cell 1 (v := .int .i64 x.p.out) rfl
  have hg4 := h.top.cell 4 (v := .int .u32 x.p.count) rfl
  have hg11 := h.top.cell 11 (v := .int .i64 x.state) rfl
  have hg12 := h.top.cell 12 (v := .int .u32 x.ses) rfl
  have hg13 := h.top.cell 13 (v := .int .u32 x.num) rfl
  clear h hx hG hd hb h1 h2
  unfold uval
  go_enter Tryz.func134, Tryz.ntmps134
  go_wp2_with fail
  have HA := hid (HH.out.nil KA.out)
  have DA := hid (HD.out.kept KA.out (by simp))
  generalize w.alloc (.cells #[.int .i64 u.kind, .int .u32 u.code, .int .u32 u.ses, .int .u32 u.num, .int .i64 u.flags, .slice dp u.data.length dc] 63) = wa at KA UA HA DA ⊢
  obtain ⟨R, hR⟩ : ∃ R, R = w.heap.size := ⟨_, rfl⟩
  rw [← hR] at UA ⊢
  have RR := hid (Nat.le_of_eq hR.symm)
  clear hR hlt hg1 hg4 hg11 hg12 hg13
  have FK := hid (fkT HA UA)
  have k0 := Kept.refl [] wa
  obtain ⟨f1, f4, f11, f12, f13, y0, y1, y2, y3, y4, y5⟩ := FK.out _ k0
  go_quiet (fail)
  have k1 := k0.drewN nq
  clear f1 f4 f11 f12 f13 y0 y1 y2 y3 y4 y5 k0
  generalize wa.drewN nq = wq1 at k1 ⊢
  obtain ⟨f1, f4, f11, f12, f13, y0, y1, y2, y3, y4, y5⟩ := FK.out _ k1
  go_wp2_with fail
  clear f1 f4 f11 f12 f13 y0 y1 y2 y3 y4 y5
  have KM := hid k1
  have HM := hid (HA.out.nil k1)
  have UM := hid (k1.has UA.out (by simp))
  have DM := hid (DA.out.kept k1 (by simp))
  have KQ := hid (KG.nil (G := G) (KA.out.trans k1))
  have HGM := hid (HG.out.kg KQ.out)
  clear k1
  refine (odds_call HX.out 130 HGM.out HM.out).mono ?_
  rintro e w5 ⟨f, rfl, k5, h5, f5⟩
  have K5 := hid (kgM (m := m) (mb := mb) (KQ.out.trans k5))
  have H5 := hid h5.dev
  have F5 := hid (FrameOf.after KQ.out.size f5)
  clear k5 h5 f5
  obtain ⟨p5, l5, n5, rfl⟩ := DevC.FrameOf.shape F5.out
  go_wp2_with fail
  go_ret2
  exact ⟨_, rfl, K5.out, H5.out, F5.out⟩
set_option maxRecDepth 100000 in
theorem take3f (hx : DOk x) (hG : Opn G w) (h : DAt G w b d v g o lg k c m mb s x) (u : U) (vd : Value) (hd : Bytes w vd u.data) (hb : By u.data) (h1 : u.kind = 3) (h2 : x.ses = u.ses) (h3 : x.state ≠ 3) (h4 : x.state ≠ 4) :
    Calls Tryz.prog 134 #[.pointer (some ⟨b, 0, none⟩), uval u vd] w fun e w' => Rep G w w' b m mb e (x.odds 130) := by
  obtain ⟨dp, dc, rfl, hdc⟩ := sl_shape hd
  have HH := hid h
  have HX := hid hx
  have HG := hid hG
  have HD := hid hd
  have HB := hid hb
  have hlt := h.top.lt
  have KA := hid ((Kept.refl [] w).alloc (.cells #[.int .i64 u.kind, .int .u32 u.code, .int .u32 u.ses, .int .u32 u.num, .int .i64 u.flags, .slice dp u.data.length dc] 63))
  have UA := hid (Has.new w 63 [.int .i64 u.kind, .int .u32 u.code, .int .u32 u.ses, .int .u32 u.num, .int .i64 u.flags, .slice dp u.data.length dc])
  have Xh1 := hid h1
  have Xh2 := hid h2
  have Xh3 := hid h3
  have Xh4 := hid h4
  have e0 : (u.kind == 1) = false := by simp [h1]
  have e1 : (u.kind == 2) = false := by simp [h1]
  have e2 : (u.kind == 3) = true := by simp [h1]
  have e3 : (x.ses == u.ses) = true := by simp [h2]
  have e4 : (x.state == 3) = false := by simp [h3]
  have e5 : (x.state == 4) = false := by simp [h4]
  have hg1 := h.top.cell 1 (v := .int .i64 x.p.out) rfl
  have hg4 := h.top.cell 4 (v := .int .u32 x.p.count) rfl
  have hg11 := h.top.cell 11 (v := .int .i64 x.state) rfl
  have hg12 := h.top.cell 12 (v := .int .u32 x.ses) rfl
  have hg13 := h.top.cell 13 (v := .int .u32 x.num) rfl
  clear h hx hG hd hb h1 h2 h3 h4
  unfold uval
  go_enter Tryz.func134, Tryz.ntmps134
  go_wp2_with fail
  have HA := hid (HH.out.nil KA.out)
  have DA := hid (HD.out.kept KA.out (by simp))
  generalize w.alloc (.cells #[.int .i64 u.kind, .int .u32 u.code, .int .u32 u.ses, .int .u32 u.num, .int .i64 u.flags, .slice dp u.data.length dc] 63) = wa at KA UA HA DA ⊢
  obtain ⟨R, hR⟩ : ∃ R, R = w.heap.size := ⟨_, rfl⟩
  rw [← hR] at UA ⊢
  have RR := hid (Nat.le_of_eq hR.symm)
  clear hR hlt hg1 hg4 hg11 hg12 hg13
  have FK := hid (fkT HA UA)
  have k0 := Kept.refl [] wa
  obtain ⟨f1, f4, f11, f12, f13, y0, y1, y2, y3, y4, y5⟩ := FK.out _ k0
  go_quiet (fail)
  have k1 := k0.drewN nq
  clear f1 f4 f11 f12 f13 y0 y1 y2 y3 y4 y5 k0
  generalize wa.drewN nq = wq1 at k1 ⊢
  obtain ⟨f1, f4, f11, f12, f13, y0, y1, y2, y3, y4, y5⟩ := FK.out _ k1
  go_wp2_with fail
  clear f1 f4 f11 f12 f13 y0 y1 y2 y3 y4 y5
  have KM := hid k1
  have HM := hid (HA.out.nil k1)
  have UM := hid (k1.has UA.out (by simp))
  have DM := hid (DA.out.kept k1 (by simp))
  have KQ := hid (KG.nil (G := G) (KA.out.trans k1))
  have HGM := hid (HG.out.kg KQ.out)
  clear k1
  refine (odds_call HX.out 130 HGM.out HM.out).mono ?_
  rintro e w5 ⟨f, rfl, k5, h5, f5⟩
  have K5 := hid (kgM (m := m) (mb := mb) (KQ.out.trans k5))
  have H5 := hid h5.dev
  have F5 := hid (FrameOf.after KQ.out.size f5)
  clear k5 h5 f5
  obtain ⟨p5, l5, n5, rfl⟩ := DevC.FrameOf.shape F5.out
  go_wp2_with fail
  go_ret2
  exact ⟨_, rfl, K5.out, H5.out, F5.out⟩
set_option maxRecDepth 100000 in
theorem take3g (hx : DOk x) (hG : Opn G w) (h : DAt G w b d v g o lg k c m mb s x) (u : U) (vd : Value) (hd : Bytes w vd u.data) (hb : By u.data) (h1 : u.kind = 3) (h2 : x.ses = u.ses) (h3 : x.state = 4) (h4 : x.num ≠ 0) :
    Calls Tryz.prog 134 #[.pointer (some ⟨b, 0, none⟩), uval u vd] w fun e w' => Rep G w w' b m mb e (x.odds 130) := by
  obtain ⟨dp, dc, rfl, hdc⟩ := sl_shape hd
  have HH := hid h
  have HX := hid hx
  have HG := hid hG
  have HD := hid hd
  have HB := hid hb
  have hlt := h.top.lt
  have KA := hid ((Kept.refl [] w).alloc (.cells #[.int .i64 u.kind, .int .u32 u.code, .int .u32 u.ses, .int .u32 u.num, .int .i64 u.flags, .slice dp u.data.length dc] 63))
  have UA := hid (Has.new w 63 [.int .i64 u.kind, .int .u32 u.code, .int .u32 u.ses, .int .u32 u.num, .int .i64 u.flags, .slice dp u.data.length dc])
  have Xh1 := hid h1
  have Xh2 := hid h2
  have Xh3 := hid h3
  have Xh4 := hid h4
  have e0 : (u.kind == 1) = false := by simp [h1]
  have e1 : (u.kind == 2) = false := by simp [h1]
  have e2 : (u.kind == 3) = true := by simp [h1]
  have e3 : (x.ses == u.ses) = true := by simp [h2]
  have e4 : (x.state == 3) = false := by simp [h3]
  have e5 : (x.state == 4) = true := by simp [h3]
  have e6 : (x.num == 0) = false := by simp [h4]
  have hg1 := h.top.cell 1 (v := .int .i64 x.p.out) rfl
  have hg4 := h.top.cell 4 (v := .int .u32 x.p.count) rfl
  have hg11 := h.top.cell 11 (v := .int .i64 x.state) rfl
  have hg12 := h.top.cell 12 (v := .int .u32 x.ses) rfl
  have hg13 := h.top.cell 13 (v := .int .u32 x.num) rfl
  clear h hx hG hd hb h1 h2 h3 h4
  unfold uval
  go_enter Tryz.func134, Tryz.ntmps134
  go_wp2_with fail
  have HA := hid (HH.out.nil KA.out)
  have DA := hid (HD.out.kept KA.out (by simp))
  generalize w.alloc (.cells #[.int .i64 u.kind, .int .u32 u.code, .int .u32 u.ses, .int .u32 u.num, .int .i64 u.flags, .slice dp u.data.length dc] 63) = wa at KA UA HA DA ⊢
  obtain ⟨R, hR⟩ : ∃ R, R = w.heap.size := ⟨_, rfl⟩
  rw [← hR] at UA ⊢
  have RR := hid (Nat.le_of_eq hR.symm)
  clear hR hlt hg1 hg4 hg11 hg12 hg13
  have FK := hid (fkT HA UA)
  have k0 := Kept.refl [] wa
  obtain ⟨f1, f4, f11, f12, f13, y0, y1, y2, y3, y4, y5⟩ := FK.out _ k0
  go_quiet (fail)
  have k1 := k0.drewN nq
  clear f1 f4 f11 f12 f13 y0 y1 y2 y3 y4 y5 k0
  generalize wa.drewN nq = wq1 at k1 ⊢
  obtain ⟨f1, f4, f11, f12, f13, y0, y1, y2, y3, y4, y5⟩ := FK.out _ k1
  go_wp2_with fail
  clear f1 f4 f11 f12 f13 y0 y1 y2 y3 y4 y5
  have KM := hid k1
  have HM := hid (HA.out.nil k1)
  have UM := hid (k1.has UA.out (by simp))
  have DM := hid (DA.out.kept k1 (by simp))
  have KQ := hid (KG.nil (G := G) (KA.out.trans k1))
  have HGM := hid (HG.out.kg KQ.out)
  clear k1
  refine (odds_call HX.out 130 HGM.out HM.out).mono ?_
  rintro e w5 ⟨f, rfl, k5, h5, f5⟩
  have K5 := hid (kgM (m := m) (mb := mb) (KQ.out.trans k5))
  have H5 := hid h5.dev
  have F5 := hid (FrameOf.after KQ.out.size f5)
  clear k5 h5 f5
  obtain ⟨p5, l5, n5, rfl⟩ := DevC.FrameOf.shape F5.out
  go_wp2_with fail
  go_ret2
  exact ⟨_, rfl, K5.out, H5.out, F5.out⟩
end DevC
end Go.Proofs.YtinaliblnihpbaaGreat
