/- The walks and the plain laws of DevI, DevJ. -/
import Derived.Test.YtinaliblnihpbaaGreatV11
set_option linter.unusedVariables false
set_option linter.unusedSimpArgs false
open Go.Lib (hid)
namespace Go.Proofs.YtinaliblnihpbaaGreat
namespace DevC
open Go Go.RowKit Gf SlC CrcW SlM Hp Sl Ow DiagC ValveC DogC Kx TM MemC CellC HostC EncW ParW UnW UEnc NumW UDecW
variable {G : Nat → Prop} {w w' w'' : World} {b d v g o lg k c m mb : Nat} {s : Value} {x y : D}
theorem skI {R : Nat} {u : U} {dp : Option Addr} {dc : Nat} (HA : Hid (DAt G w b d v g o lg k c m mb s x)) (UA : Hid (Has w R 63 [.int .i64 u.kind, .int .u32 u.code, .int .u32 u.ses, .int .u32 u.num, .int .i64 u.flags, .slice dp u.data.length dc])) : ∀ w', Kept [] w w' → (w'.cell? ⟨b, 0, none⟩ = some (.int .u32 x.p.code) ∧ w'.cell? ⟨b, 1, none⟩ = some (.int .i64 x.p.out) ∧ w'.cell? ⟨b, 2, none⟩ = some (.int .i64 x.p.inn) ∧ w'.cell? ⟨b, 3, none⟩ = some (.int .i64 x.p.watch) ∧ w'.cell? ⟨b, 4, none⟩ = some (.int .u32 x.p.count) ∧ w'.cell? ⟨R, 5, none⟩ = some (.slice dp u.data.length dc)) := fun w' q => ⟨(q.has HA.out.top (by simp)).cell 0 rfl, (q.has HA.out.top (by simp)).cell 1 rfl, (q.has HA.out.top (by simp)).cell 2 rfl, (q.has HA.out.top (by simp)).cell 3 rfl, (q.has HA.out.top (by simp)).cell 4 rfl, (q.has UA.out (by simp)).cell 5 rfl⟩
set_option maxRecDepth 100000 in
theorem asked0 (hx : DOk x) (hG : Opn G w) (h : DAt G w b d v g o lg k c m mb s x) (u : U) (vd : Value) (hd : Bytes w vd u.data) (hb : By u.data) (h1 : u.data ≠ sigB x.p) :
    Calls Tryz.prog 162 #[.pointer (some ⟨b, 0, none⟩), uval u vd] w fun e w' => Rep G w w' b m mb e (x.odds 91) := by
  obtain ⟨dp, dc, rfl, hdc⟩ := sl_shape hd
  have HH := hid h
  have HX := hid hx
  have HG := hid hG
  have HD := hid hd
  have HB := hid hb
  have hlt := h.top.lt
  have KA := hid ((Kept.refl [] w).alloc (.cells #[.int .i64 u.kind, .int .u32 u.code, .int .u32 u.ses, .int .u32 u.num, .int .i64 u.flags, .slice dp u.data.length dc] 63))
  have UA := hid (Has.new w 63 [.int .i64 u.kind, .int .u32 u.code, .int .u32 u.ses, .int .u32 u.num, .int .i64 u.flags, .slice dp u.data.length dc])
  have Xh1 := hid h1
  clear h hx hG hd hb h1
  unfold uval
  go_enter Tryz.func162, Tryz.ntmps162
  go_wp2_with fail
  have HA := hid (HH.out.nil KA.out)
  have DA := hid (HD.out.kept KA.out (by simp))
  generalize w.alloc (.cells #[.int .i64 u.kind, .int .u32 u.code, .int .u32 u.ses, .int .u32 u.num, .int .i64 u.flags, .slice dp u.data.length dc] 63) = wa at KA UA HA DA ⊢
  obtain ⟨R, hR⟩ : ∃ R, R = w.heap.size := ⟨_, rfl⟩
  rw [← hR] at UA ⊢
  have RR := hid (Nat.le_of_eq hR.symm)
  clear hR hlt
  have SK := hid (skI HA UA)
  have MC := hid (match_call x.p HX.out.p _ u.data _ (DA.out.kept ((Kept.refl [] wa).drew) (by simp)) HB.out)
  rw [show decide (u.data = sigB x.p) = false by have := Xh1.out; simp [this]] at MC
  unfold pval at MC
  have dd := SK.out _ ((Kept.refl [] wa).drew)
  go_region_held3 (fun w' => w'.cell? ⟨b, 0, none⟩ = some (.int .u32 x.p.code) ∧ w'.cell? ⟨b, 1, none⟩ = some (.int .i64 x.p.out) ∧ w'.cell? ⟨b, 2, none⟩ = some (.int .i64 x.p.inn) ∧ w'.cell? ⟨b, 3, none⟩ = some (.int .i64 x.p.watch) ∧ w'.cell? ⟨b, 4, none⟩ = some (.int .u32 x.p.count) ∧ w'.cell? ⟨R, 5, none⟩ = some (.slice dp u.data.length dc)) (with_reducible assumption) ((go_at_call 157; with_reducible refine MC.out.mono ?_; rintro e wm ⟨rfl, km⟩; have KM := hid (((Kept.refl [] wa).drew).trans km); have dd2 := SK.out _ KM.out; clear km))
  clear dd dd2
  have HM := hid (HA.out.nil KM.out)
  have UM := hid (KM.out.has UA.out (by simp))
  have KQ := hid (KG.nil (G := G) (KA.out.trans KM.out))
  have HGM := hid (HG.out.kg KQ.out)
  go_wp2_with fail
  refine (odds_call HX.out 91 HGM.out HM.out).mono ?_
  rintro e w5 ⟨f, rfl, k5, h5, f5⟩
  have K5 := hid (kgM (m := m) (mb := mb) (KQ.out.trans k5))
  have H5 := hid h5
  have F5 := hid (FrameOf.after KQ.out.size f5)
  clear k5 h5 f5
  obtain ⟨p5, l5, n5, rfl⟩ := DevC.FrameOf.shape F5.out
  go_wp2_with fail
  go_ret2
  exact ⟨_, rfl, K5.out, H5.out.dev, F5.out⟩
set_option maxRecDepth 100000 in
theorem asked1 (hx : DOk x) (hG : Opn G w) (h : DAt G w b d v g o lg k c m mb s x) (u : U) (vd : Value) (hd : Bytes w vd u.data) (hb : By u.data) (h1 : u.data = sigB x.p) (h2 : ¬ x.half) :
    Calls Tryz.prog 162 #[.pointer (some ⟨b, 0, none⟩), uval u vd] w fun e w' => Rep G w w' b m mb e (x.begin (sigB x.p)) := by
  obtain ⟨dp, dc, rfl, hdc⟩ := sl_shape hd
  have HH := hid h
  have HX := hid hx
  have HG := hid hG
  have HD := hid hd
  have HB := hid hb
  have hlt := h.top.lt
  have KA := hid ((Kept.refl [] w).alloc (.cells #[.int .i64 u.kind, .int .u32 u.code, .int .u32 u.ses, .int .u32 u.num, .int .i64 u.flags, .slice dp u.data.length dc] 63))
  have UA := hid (Has.new w 63 [.int .i64 u.kind, .int .u32 u.code, .int .u32 u.ses, .int .u32 u.num, .int .i64 u.flags, .slice dp u.data.length dc])
  have Xh1 := hid h1
  have Xh2 := hid h2
  clear h hx hG hd hb h1 h2
  unfold uval
  go_enter Tryz.func162, Tryz.ntmps162
  go_wp2_with fail
  have HA := hid (HH.out.nil KA.out)
  have DA := hid (HD.out.kept KA.out (by simp))
  generalize w.alloc (.cells #[.int .i64 u.kind, .int .u32 u.code, .int .u32 u.ses, .int .u32 u.num, .int .i64 u.flags, .slice dp u.data.length dc] 63) = wa at KA UA HA DA ⊢
  obtain ⟨R, hR⟩ : ∃ R, R = w.heap.size := ⟨_, rfl⟩
  rw [← hR] at UA ⊢
  have RR := hid (Nat.le_of_eq hR.symm)
  clear hR hlt
  have SK := hid (skI HA UA)
  have MC := hid (match_call x.p HX.out.p _ u.data _ (DA.out.kept ((Kept.refl [] wa).drew) (by simp)) HB.out)
  rw [show decide (u.data = sigB x.p) = true by have := Xh1.out; simp [this]] at MC
  unfold pval at MC
  have dd := SK.out _ ((Kept.refl [] wa).drew)
  go_region_held3 (fun w' => w'.cell? ⟨b, 0, none⟩ = some (.int .u32 x.p.code) ∧ w'.cell? ⟨b, 1, none⟩ = some (.int .i64 x.p.out) ∧ w'.cell? ⟨b, 2, none⟩ = some (.int .i64 x.p.inn) ∧ w'.cell? ⟨b, 3, none⟩ = some (.int .i64 x.p.watch) ∧ w'.cell? ⟨b, 4, none⟩ = some (.int .u32 x.p.count) ∧ w'.cell? ⟨R, 5, none⟩ = some (.slice dp u.data.length dc)) (with_reducible assumption) ((go_at_call 157; with_reducible refine MC.out.mono ?_; rintro e wm ⟨rfl, km⟩; have KM := hid (((Kept.refl [] wa).drew).trans km); have dd2 := SK.out _ KM.out; clear km))
  clear dd dd2
  have HM := hid (HA.out.nil KM.out)
  have UM := hid (KM.out.has UA.out (by simp))
  have KQ := hid (KG.nil (G := G) (KA.out.trans KM.out))
  have HGM := hid (HG.out.kg KQ.out)
  have c11 := HM.out.top.cell 11 (v := .int .i64 x.state) rfl
  have hs : x.state = 1 ∨ x.state = 5 ∨ x.state = 6 := by have := HX.out.st; have := Xh2.out; unfold D.half at this; omega
  rcases hs with hs | hs | hs
  all_goals (
  rw [hs] at c11
  clear hs
  go_wp2_with fail
  refine (begin_call HX.out HGM.out HM.out).mono ?_
  rintro e w5 ⟨f, rfl, k5, h5, f5⟩
  have K5 := hid ((kgM (m := m) (mb := mb) KQ.out).trans k5)
  have H5 := hid h5
  have F5 := hid (FrameOf.after KQ.out.size f5)
  clear k5 h5 f5
  obtain ⟨p5, l5, n5, rfl⟩ := DevC.FrameOf.shape F5.out
  go_wp2_with fail
  go_ret2
  exact ⟨_, rfl, K5.out, H5.out, F5.out⟩
  )
set_option maxRecDepth 100000 in
theorem asked2 (hx : DOk x) (hG : Opn G w) (h : DAt G w b d v g o lg k c m mb s x) (u : U) (vd : Value) (hd : Bytes w vd u.data) (hb : By u.data) (h1 : u.data = sigB x.p) (h2 : x.half) (h3 : x.stuck.2 = true) :
    Calls Tryz.prog 162 #[.pointer (some ⟨b, 0, none⟩), uval u vd] w fun e w' => Rep G w w' b m mb e (x.stuck.1.begin (sigB x.p)) := by
  obtain ⟨dp, dc, rfl, hdc⟩ := sl_shape hd
  have HH := hid h
  have HX := hid hx
  have HG := hid hG
  have HD := hid hd
  have HB := hid hb
  have hlt := h.top.lt
  have KA := hid ((Kept.refl [] w).alloc (.cells #[.int .i64 u.kind, .int .u32 u.code, .int .u32 u.ses, .int .u32 u.num, .int .i64 u.flags, .slice dp u.data.length dc] 63))
  have UA := hid (Has.new w 63 [.int .i64 u.kind, .int .u32 u.code, .int .u32 u.ses, .int .u32 u.num, .int .i64 u.flags, .slice dp u.data.length dc])
  have Xh1 := hid h1
  have Xh2 := hid h2
  have Xh3 := hid h3
  clear h hx hG hd hb h1 h2 h3
  unfold uval
  go_enter Tryz.func162, Tryz.ntmps162
  go_wp2_with fail
  have HA := hid (HH.out.nil KA.out)
  have DA := hid (HD.out.kept KA.out (by simp))
  generalize w.alloc (.cells #[.int .i64 u.kind, .int .u32 u.code, .int .u32 u.ses, .int .u32 u.num, .int .i64 u.flags, .slice dp u.data.length dc] 63) = wa at KA UA HA DA ⊢
  obtain ⟨R, hR⟩ : ∃ R, R = w.heap.size := ⟨_, rfl⟩
  rw [← hR] at UA ⊢
  have RR := hid (Nat.le_of_eq hR.symm)
  clear hR hlt
  have SK := hid (skI HA UA)
  have MC := hid (match_call x.p HX.out.p _ u.data _ (DA.out.kept ((Kept.refl [] wa).drew) (by simp)) HB.out)
  rw [show decide (u.data = sigB x.p) = true by have := Xh1.out; simp [this]] at MC
  unfold pval at MC
  have dd := SK.out _ ((Kept.refl [] wa).drew)
  go_region_held3 (fun w' => w'.cell? ⟨b, 0, none⟩ = some (.int .u32 x.p.code) ∧ w'.cell? ⟨b, 1, none⟩ = some (.int .i64 x.p.out) ∧ w'.cell? ⟨b, 2, none⟩ = some (.int .i64 x.p.inn) ∧ w'.cell? ⟨b, 3, none⟩ = some (.int .i64 x.p.watch) ∧ w'.cell? ⟨b, 4, none⟩ = some (.int .u32 x.p.count) ∧ w'.cell? ⟨R, 5, none⟩ = some (.slice dp u.data.length dc)) (with_reducible assumption) ((go_at_call 157; with_reducible refine MC.out.mono ?_; rintro e wm ⟨rfl, km⟩; have KM := hid (((Kept.refl [] wa).drew).trans km); have dd2 := SK.out _ KM.out; clear km))
  clear dd dd2
  have HM := hid (HA.out.nil KM.out)
  have UM := hid (KM.out.has UA.out (by simp))
  have KQ := hid (KG.nil (G := G) (KA.out.trans KM.out))
  have HGM := hid (HG.out.kg KQ.out)
  have SC := hid (stuck_call HX.out.st HX.out.odd.1 HX.out.odd.2 HGM.out HM.out)
  rw [Xh3.out] at SC
  have SO := hid HX.out.stuck
  have EP := hid (stuck_p x)
  have hs : x.state = 2 ∨ x.state = 3 ∨ x.state = 4 := Xh2.out
  have c11 := HM.out.top.cell 11 (v := .int .i64 x.state) rfl
  rcases hs with hs | hs | hs
  all_goals (
  rw [hs] at c11
  clear hs
  go_wp2_with fail
  refine SC.out.mono ?_
  rintro e w3 ⟨rfl, k3, h3⟩
  have K3 := hid (KQ.out.trans k3)
  have H3 := hid h3
  clear k3 h3 c11
  go_wp2_with fail
  refine (begin_call SO.out (HG.out.kg K3.out) H3.out).mono ?_
  rw [EP.out]
  rintro e w5 ⟨f, rfl, k5, h5, f5⟩
  have K5 := hid ((kgM (m := m) (mb := mb) K3.out).trans k5)
  have H5 := hid h5
  have F5 := hid (FrameOf.after K3.out.size f5)
  clear k5 h5 f5
  obtain ⟨p5, l5, n5, rfl⟩ := DevC.FrameOf.shape F5.out
  go_wp2_with fail
  go_ret2
  exact ⟨_, rfl, K5.out, H5.out, F5.out⟩
  )
set_option maxRecDepth 100000 in
theorem asked3 (hx : DOk x) (hG : Opn G w) (h : DAt G w b d v g o lg k c m mb s x) (u : U) (vd : Value) (hd : Bytes w vd u.data) (hb : By u.data) (h1 : u.data = sigB x.p) (h2 : x.half) (h3 : x.stuck.2 = false) (h4 : x.stuck.1.state = 2) :
    Calls Tryz.prog 162 #[.pointer (some ⟨b, 0, none⟩), uval u vd] w fun e w' => Rep G w w' b m mb e (x.stuck.1, some (x.stuck.1.offer (sigB x.p)), 130) := by
  obtain ⟨dp, dc, rfl, hdc⟩ := sl_shape hd
  have HH := hid h
  have HX := hid hx
  have HG := hid hG
  have HD := hid hd
  have HB := hid hb
  have hlt := h.top.lt
  have KA := hid ((Kept.refl [] w).alloc (.cells #[.int .i64 u.kind, .int .u32 u.code, .int .u32 u.ses, .int .u32 u.num, .int .i64 u.flags, .slice dp u.data.length dc] 63))
  have UA := hid (Has.new w 63 [.int .i64 u.kind, .int .u32 u.code, .int .u32 u.ses, .int .u32 u.num, .int .i64 u.flags, .slice dp u.data.length dc])
  have Xh1 := hid h1
  have Xh2 := hid h2
  have Xh3 := hid h3
  have Xh4 := hid h4
  clear h hx hG hd hb h1 h2 h3 h4
  unfold uval
  go_enter Tryz.func162, Tryz.ntmps162
  go_wp2_with fail
  have HA := hid (HH.out.nil KA.out)
  have DA := hid (HD.out.kept KA.out (by simp))
  generalize w.alloc (.cells #[.int .i64 u.kind, .int .u32 u.code, .int .u32 u.ses, .int .u32 u.num, .int .i64 u.flags, .slice dp u.data.length dc] 63) = wa at KA UA HA DA ⊢
  obtain ⟨R, hR⟩ : ∃ R, R = w.heap.size := ⟨_, rfl⟩
  rw [← hR] at UA ⊢
  have RR := hid (Nat.le_of_eq hR.symm)
  clear hR hlt
  have SK := hid (skI HA UA)
  have MC := hid (match_call x.p HX.out.p _ u.data _ (DA.out.kept ((Kept.refl [] wa).drew) (by simp)) HB.out)
  rw [show decide (u.data = sigB x.p) = true by have := Xh1.out; simp [this]] at MC
  unfold pval at MC
  have dd := SK.out _ ((Kept.refl [] wa).drew)
  go_region_held3 (fun w' => w'.cell? ⟨b, 0, none⟩ = some (.int .u32 x.p.code) ∧ w'.cell? ⟨b, 1, none⟩ = some (.int .i64 x.p.out) ∧ w'.cell? ⟨b, 2, none⟩ = some (.int .i64 x.p.inn) ∧ w'.cell? ⟨b, 3, none⟩ = some (.int .i64 x.p.watch) ∧ w'.cell? ⟨b, 4, none⟩ = some (.int .u32 x.p.count) ∧ w'.cell? ⟨R, 5, none⟩ = some (.slice dp u.data.length dc)) (with_reducible assumption) ((go_at_call 157; with_reducible refine MC.out.mono ?_; rintro e wm ⟨rfl, km⟩; have KM := hid (((Kept.refl [] wa).drew).trans km); have dd2 := SK.out _ KM.out; clear km))
  clear dd dd2
  have HM := hid (HA.out.nil KM.out)
  have UM := hid (KM.out.has UA.out (by simp))
  have KQ := hid (KG.nil (G := G) (KA.out.trans KM.out))
  have HGM := hid (HG.out.kg KQ.out)
  have SC := hid (stuck_call HX.out.st HX.out.odd.1 HX.out.odd.2 HGM.out HM.out)
  rw [Xh3.out] at SC
  have SO := hid HX.out.stuck
  have EP := hid (stuck_p x)
  have hs : x.state = 2 ∨ x.state = 3 ∨ x.state = 4 := Xh2.out
  have c11 := HM.out.top.cell 11 (v := .int .i64 x.state) rfl
  rcases hs with hs | hs | hs
  all_goals (
  rw [hs] at c11
  clear hs
  go_wp2_with fail
  refine SC.out.mono ?_
  rintro e w3 ⟨rfl, k3, h3⟩
  have K3 := hid (KQ.out.trans k3)
  have H3 := hid h3
  clear k3 h3 c11
  have c11 := H3.out.top.cell 11 (v := .int .i64 x.stuck.1.state) rfl
  rw [Xh4.out] at c11
  go_wp2_with fail
  have OC := offer_call SO.out.p (SO.out.live (.inl Xh4.out)) H3.out
  rw [EP.out] at OC
  refine OC.mono ?_
  clear OC
  rintro e w5 ⟨f, rfl, k5, m5⟩
  have K5 := hid (KG.trans (kgM (m := m) (mb := mb) K3.out) (.nil k5))
  have H5 := hid (H3.out.nil k5)
  have F5 := hid (Made.after K3.out.size m5)
  clear k5 m5
  obtain ⟨p5, n5, rfl⟩ := F5.out.shape
  go_wp2_with fail
  go_ret2
  exact ⟨_, rfl, K5.out, H5.out.dev, F5.out⟩
  )
set_option maxRecDepth 100000 in
theorem asked4 (hx : DOk x) (hG : Opn G w) (h : DAt G w b d v g o lg k c m mb s x) (u : U) (vd : Value) (hd : Bytes w vd u.data) (hb : By u.data) (h1 : u.data = sigB x.p) (h2 : x.half) (h3 : x.stuck.2 = false) (h4 : x.stuck.1.state ≠ 2) :
    Calls Tryz.prog 162 #[.pointer (some ⟨b, 0, none⟩), uval u vd] w fun e w' => Rep G w w' b m mb e (x.stuck.1, some (x.stuck.1.reply 22 0 []), 130) := by
  obtain ⟨dp, dc, rfl, hdc⟩ := sl_shape hd
  have HH := hid h
  have HX := hid hx
  have HG := hid hG
  have HD := hid hd
  have HB := hid hb
  have hlt := h.top.lt
  have KA := hid ((Kept.refl [] w).alloc (.cells #[.int .i64 u.kind, .int .u32 u.code, .int .u32 u.ses, .int .u32 u.num, .int .i64 u.flags, .slice dp u.data.length dc] 63))
  have UA := hid (Has.new w 63 [.int .i64 u.kind, .int .u32 u.code, .int .u32 u.ses, .int .u32 u.num, .int .i64 u.flags, .slice dp u.data.length dc])
  have Xh1 := hid h1
  have Xh2 := hid h2
  have Xh3 := hid h3
  have Xh4 := hid h4
  clear h hx hG hd hb h1 h2 h3 h4
  unfold uval
  go_enter Tryz.func162, Tryz.ntmps162
  go_wp2_with fail
  have HA := hid (HH.out.nil KA.out)
  have DA := hid (HD.out.kept KA.out (by simp))
  generalize w.alloc (.cells #[.int .i64 u.kind, .int .u32 u.code, .int .u32 u.ses, .int .u32 u.num, .int .i64 u.flags, .slice dp u.data.length dc] 63) = wa at KA UA HA DA ⊢
  obtain ⟨R, hR⟩ : ∃ R, R = w.heap.size := ⟨_, rfl⟩
  rw [← hR] at UA ⊢
  have RR := hid (Nat.le_of_eq hR.symm)
  clear hR hlt
  have SK := hid (skI HA UA)
  have MC := hid (match_call x.p HX.out.p _ u.data _ (DA.out.kept ((Kept.refl [] wa).drew) (by simp)) HB.out)
  rw [show decide (u.data = sigB x.p) = true by have := Xh1.out; simp [this]] at MC
  unfold pval at MC
  have dd := SK.out _ ((Kept.refl [] wa).drew)
  go_region_held3 (fun w' => w'.cell? ⟨b, 0, none⟩ = some (.int .u32 x.p.code) ∧ w'.cell? ⟨b, 1, none⟩ = some (.int .i64 x.p.out) ∧ w'.cell? ⟨b, 2, none⟩ = some (.int .i64 x.p.inn) ∧ w'.cell? ⟨b, 3, none⟩ = some (.int .i64 x.p.watch) ∧ w'.cell? ⟨b, 4, none⟩ = some (.int .u32 x.p.count) ∧ w'.cell? ⟨R, 5, none⟩ = some (.slice dp u.data.length dc)) (with_reducible assumption) ((go_at_call 157; with_reducible refine MC.out.mono ?_; rintro e wm ⟨rfl, km⟩; have KM := hid (((Kept.refl [] wa).drew).trans km); have dd2 := SK.out _ KM.out; clear km))
  clear dd dd2
  have HM := hid (HA.out.nil KM.out)
  have UM := hid (KM.out.has UA.out (by simp))
  have KQ := hid (KG.nil (G := G) (KA.out.trans KM.out))
  have HGM := hid (HG.out.kg KQ.out)
  have SC := hid (stuck_call HX.out.st HX.out.odd.1 HX.out.odd.2 HGM.out HM.out)
  rw [Xh3.out] at SC
  have SO := hid HX.out.stuck
  have EP := hid (stuck_p x)
  have hs : x.state = 2 ∨ x.state = 3 ∨ x.state = 4 := Xh2.out
  have c11 := HM.out.top.cell 11 (v := .int .i64 x.state) rfl
  rcases hs with hs | hs | hs
  all_goals (
  rw [hs] at c11
  clear hs
  go_wp2_with fail
  refine SC.out.mono ?_
  rintro e w3 ⟨rfl, k3, h3⟩
  have K3 := hid (KQ.out.trans k3)
  have H3 := hid h3
  clear k3 h3 c11
  have c11 := H3.out.top.cell 11 (v := .int .i64 x.stuck.1.state) rfl
  have e11 : (x.stuck.1.state == 2) = false := by have := Xh4.out; simp [this]
  go_wp2_with fail
  refine (reply_call 22 0 [] (.slice none 0 0) (by decide) (law22 SO.out.p) H3.out (bytes_none _) (by intro z hz; cases hz)).mono ?_
  rintro e w5 ⟨f, rfl, k5, m5⟩
  have K5 := hid (KG.trans (kgM (m := m) (mb := mb) K3.out) (.nil k5))
  have H5 := hid (H3.out.nil k5)
  have F5 := hid (Made.after K3.out.size m5)
  clear k5 m5
  obtain ⟨p5, n5, rfl⟩ := F5.out.shape
  go_wp2_with fail
  go_ret2
  exact ⟨_, rfl, K5.out, H5.out.dev, F5.out⟩
  )
theorem asked_call (hx : DOk x) (hG : Opn G w) (h : DAt G w b d v g o lg k c m mb s x) (u : U) (vd : Value) (hd : Bytes w vd u.data) (hb : By u.data) :
    Calls Tryz.prog 162 #[.pointer (some ⟨b, 0, none⟩), uval u vd] w fun e w' => Rep G w w' b m mb e (x.asked (sigB x.p) u) := by
  by_cases h1 : u.data = sigB x.p
  · by_cases h2 : x.half
    · by_cases h3 : x.stuck.2 = true
      · have e : x.asked (sigB x.p) u = x.stuck.1.begin (sigB x.p) := by unfold D.asked; rw [if_pos h1, if_pos h2, if_pos h3]
        rw [e]; exact asked2 hx hG h u vd hd hb h1 h2 h3
      · by_cases h4 : x.stuck.1.state = 2
        · have e : x.asked (sigB x.p) u = (x.stuck.1, some (x.stuck.1.offer (sigB x.p)), 130) := by unfold D.asked; rw [if_pos h1, if_pos h2, if_neg h3, if_pos h4]
          rw [e]; exact asked3 hx hG h u vd hd hb h1 h2 (by simpa using h3) h4
        · have e : x.asked (sigB x.p) u = (x.stuck.1, some (x.stuck.1.reply 22 0 []), 130) := by unfold D.asked; rw [if_pos h1, if_pos h2, if_neg h3, if_neg h4]
          rw [e]; exact asked4 hx hG h u vd hd hb h1 h2 (by simpa using h3) h4
    · have e : x.asked (sigB x.p) u = x.begin (sigB x.p) := by unfold D.asked; rw [if_pos h1, if_neg h2]
      rw [e]; exact asked1 hx hG h u vd hd hb h1 h2
  · have e : x.asked (sigB x.p) u = x.odds 91 := by unfold D.asked; rw [if_neg h1]
    rw [e]; exact asked0 hx hG h u vd hd hb h1
end DevC
namespace DevC
open Go Go.RowKit Gf SlC CrcW SlM Hp Sl Ow DiagC ValveC DogC Kx TM MemC CellC HostC EncW ParW UnW UEnc NumW UDecW
variable {G : Nat → Prop} {w w' w'' : World} {b d v g o lg k c m mb : Nat} {s : Value} {x y : D}
theorem Made.ne {w1 : World} {f : Value} {l : List Int} {i b : Nat} {T : TypeId} {cs : List Value} (h : Made w w1 f l) (hi : f.ownBlock = some i) (hb : Has w1 b T cs) (hT : 5 ≠ T) : i ≠ b := by
  rcases h.1 with ⟨rfl, _⟩ | ⟨g, ho⟩
  · cases hi
  · obtain ⟨cap, cur, rfl, hh, _⟩ := ho; cases hi; exact Ow.Has.ne hh hb hT
set_option maxRecDepth 100000 in
theorem echoed0 (hx : DOk x) (hG : Opn G w) (h : DAt G w b d v g o lg k c m mb s x) (u : U) (vd : Value) (hd : Bytes w vd u.data) (hb : By u.data) (h1 : u.data ≠ sigB x.p) :
    Calls Tryz.prog 163 #[.pointer (some ⟨b, 0, none⟩), uval u vd] w fun e w' => Rep G w w' b m mb e (x.odds 91) := by
  obtain ⟨dp, dc, rfl, hdc⟩ := sl_shape hd
  have HH := hid h
  have HX := hid hx
  have HG := hid hG
  have HD := hid hd
  have HB := hid hb
  have hlt := h.top.lt
  have KA := hid ((Kept.refl [] w).alloc (.cells #[.int .i64 u.kind, .int .u32 u.code, .int .u32 u.ses, .int .u32 u.num, .int .i64 u.flags, .slice dp u.data.length dc] 63))
  have UA := hid (Has.new w 63 [.int .i64 u.kind, .int .u32 u.code, .int .u32 u.ses, .int .u32 u.num, .int .i64 u.flags, .slice dp u.data.length dc])
  have Xh1 := hid h1
  clear h hx hG hd hb h1
  unfold uval
  go_enter Tryz.func163, Tryz.ntmps163
  go_wp2_with fail
  have HA := hid (HH.out.nil KA.out)
  have DA := hid (HD.out.kept KA.out (by simp))
  generalize w.alloc (.cells #[.int .i64 u.kind, .int .u32 u.code, .int .u32 u.ses, .int .u32 u.num, .int .i64 u.flags, .slice dp u.data.length dc] 63) = wa at KA UA HA DA ⊢
  obtain ⟨R, hR⟩ : ∃ R, R = w.heap.size := ⟨_, rfl⟩
  rw [← hR] at UA ⊢
  have RR := hid (Nat.le_of_eq hR.symm)
  clear hR hlt
  have SK := hid (skI HA UA)
  have MC := hid (match_call x.p HX.out.p _ u.data _ (DA.out.kept ((Kept.refl [] wa).drew) (by simp)) HB.out)
  rw [show decide (u.data = sigB x.p) = false by have := Xh1.out; simp [this]] at MC
  unfold pval at MC
  have dd := SK.out _ ((Kept.refl [] wa).drew)
  go_region_held3 (fun w' => w'.cell? ⟨b, 0, none⟩ = some (.int .u32 x.p.code) ∧ w'.cell? ⟨b, 1, none⟩ = some (.int .i64 x.p.out) ∧ w'.cell? ⟨b, 2, none⟩ = some (.int .i64 x.p.inn) ∧ w'.cell? ⟨b, 3, none⟩ = some (.int .i64 x.p.watch) ∧ w'.cell? ⟨b, 4, none⟩ = some (.int .u32 x.p.count) ∧ w'.cell? ⟨R, 5, none⟩ = some (.slice dp u.data.length dc)) (with_reducible assumption) ((go_at_call 157; with_reducible refine MC.out.mono ?_; rintro e wm ⟨rfl, km⟩; have KM := hid (((Kept.refl [] wa).drew).trans km); have dd2 := SK.out _ KM.out; clear km))
  clear dd dd2
  have HM := hid (HA.out.nil KM.out)
  have UM := hid (KM.out.has UA.out (by simp))
  have KQ := hid (KG.nil (G := G) (KA.out.trans KM.out))
  have HGM := hid (HG.out.kg KQ.out)
  go_wp2_with fail
  refine (odds_call HX.out 91 HGM.out HM.out).mono ?_
  rintro e w5 ⟨f, rfl, k5, h5, f5⟩
  have K5 := hid (kgM (m := m) (mb := mb) (KQ.out.trans k5))
  have H5 := hid h5
  have F5 := hid (FrameOf.after KQ.out.size f5)
  clear k5 h5 f5
  obtain ⟨p5, l5, n5, rfl⟩ := F5.out.shape
  go_wp2_with fail
  go_ret2
  exact ⟨_, rfl, K5.out, H5.out.dev, F5.out⟩
set_option maxRecDepth 100000 in
theorem echoed1 (hx : DOk x) (hG : Opn G w) (h : DAt G w b d v g o lg k c m mb s x) (u : U) (vd : Value) (hd : Bytes w vd u.data) (hb : By u.data) (h1 : u.data = sigB x.p) (h2 : x.state = 3) :
    Calls Tryz.prog 163 #[.pointer (some ⟨b, 0, none⟩), uval u vd] w fun e w' => Rep G w w' b m mb e (x, some (x.reply 18 0 []), 0) := by
  obtain ⟨dp, dc, rfl, hdc⟩ := sl_shape hd
  have HH := hid h
  have HX := hid hx
  have HG := hid hG
  have HD := hid hd
  have HB := hid hb
  have hlt := h.top.lt
  have KA := hid ((Kept.refl [] w).alloc (.cells #[.int .i64 u.kind, .int .u32 u.code, .int .u32 u.ses, .int .u32 u.num, .int .i64 u.flags, .slice dp u.data.length dc] 63))
  have UA := hid (Has.new w 63 [.int .i64 u.kind, .int .u32 u.code, .int .u32 u.ses, .int .u32 u.num, .int .i64 u.flags, .slice dp u.data.length dc])
  have Xh1 := hid h1
  have Xh2 := hid h2
  clear h hx hG hd hb h1 h2
  unfold uval
  go_enter Tryz.func163, Tryz.ntmps163
  go_wp2_with fail
  have HA := hid (HH.out.nil KA.out)
  have DA := hid (HD.out.kept KA.out (by simp))
  generalize w.alloc (.cells #[.int .i64 u.kind, .int .u32 u.code, .int .u32 u.ses, .int .u32 u.num, .int .i64 u.flags, .slice dp u.data.length dc] 63) = wa at KA UA HA DA ⊢
  obtain ⟨R, hR⟩ : ∃ R, R = w.heap.size := ⟨_, rfl⟩
  rw [← hR] at UA ⊢
  have RR := hid (Nat.le_of_eq hR.symm)
  clear hR hlt
  have SK := hid (skI HA UA)
  have MC := hid (match_call x.p HX.out.p _ u.data _ (DA.out.kept ((Kept.refl [] wa).drew) (by simp)) HB.out)
  rw [show decide (u.data = sigB x.p) = true by have := Xh1.out; simp [this]] at MC
  unfold pval at MC
  have dd := SK.out _ ((Kept.refl [] wa).drew)
  go_region_held3 (fun w' => w'.cell? ⟨b, 0, none⟩ = some (.int .u32 x.p.code) ∧ w'.cell? ⟨b, 1, none⟩ = some (.int .i64 x.p.out) ∧ w'.cell? ⟨b, 2, none⟩ = some (.int .i64 x.p.inn) ∧ w'.cell? ⟨b, 3, none⟩ = some (.int .i64 x.p.watch) ∧ w'.cell? ⟨b, 4, none⟩ = some (.int .u32 x.p.count) ∧ w'.cell? ⟨R, 5, none⟩ = some (.slice dp u.data.length dc)) (with_reducible assumption) ((go_at_call 157; with_reducible refine MC.out.mono ?_; rintro e wm ⟨rfl, km⟩; have KM := hid (((Kept.refl [] wa).drew).trans km); have dd2 := SK.out _ KM.out; clear km))
  clear dd dd2
  have HM := hid (HA.out.nil KM.out)
  have UM := hid (KM.out.has UA.out (by simp))
  have KQ := hid (KG.nil (G := G) (KA.out.trans KM.out))
  have HGM := hid (HG.out.kg KQ.out)
  have c11 := HM.out.top.cell 11 (v := .int .i64 x.state) rfl
  rw [Xh2.out] at c11
  go_wp2_with fail
  refine (reply_call 18 0 [] (.slice none 0 0) (by decide) (law18 HX.out.p (HX.out.live (.inr (.inl Xh2.out)))) HM.out (bytes_none _) (by intro z hz; cases hz)).mono ?_
  rintro e w9 ⟨f, rfl, k9, m9⟩
  have K9 := hid (KG.trans (kgM (m := m) (mb := mb) KQ.out) (.nil k9))
  have H9 := hid (HM.out.nil k9)
  have F9 := hid (Made.after KQ.out.size m9)
  clear k9 m9
  obtain ⟨p9, n9, rfl⟩ := F9.out.shape
  go_wp2_with fail
  go_ret2
  exact ⟨_, rfl, K9.out, H9.out.dev, F9.out⟩
set_option maxRecDepth 100000 in
theorem echoed2 (hx : DOk x) (hG : Opn G w) (h : DAt G w b d v g o lg k c m mb s x) (u : U) (vd : Value) (hd : Bytes w vd u.data) (hb : By u.data) (h1 : u.data = sigB x.p) (h2 : x.state = 2) :
    Calls Tryz.prog 163 #[.pointer (some ⟨b, 0, none⟩), uval u vd] w fun e w' => Rep G w w' b m mb e (({ x with state := 3 } : D).alive, some (({ x with state := 3 } : D).alive.reply 18 0 []), 0) := by
  obtain ⟨dp, dc, rfl, hdc⟩ := sl_shape hd
  have HH := hid h
  have HX := hid hx
  have HG := hid hG
  have HD := hid hd
  have HB := hid hb
  have hlt := h.top.lt
  have KA := hid ((Kept.refl [] w).alloc (.cells #[.int .i64 u.kind, .int .u32 u.code, .int .u32 u.ses, .int .u32 u.num, .int .i64 u.flags, .slice dp u.data.length dc] 63))
  have UA := hid (Has.new w 63 [.int .i64 u.kind, .int .u32 u.code, .int .u32 u.ses, .int .u32 u.num, .int .i64 u.flags, .slice dp u.data.length dc])
  have Xh1 := hid h1
  have Xh2 := hid h2
  clear h hx hG hd hb h1 h2
  unfold uval
  go_enter Tryz.func163, Tryz.ntmps163
  go_wp2_with fail
  have HA := hid (HH.out.nil KA.out)
  have DA := hid (HD.out.kept KA.out (by simp))
  generalize w.alloc (.cells #[.int .i64 u.kind, .int .u32 u.code, .int .u32 u.ses, .int .u32 u.num, .int .i64 u.flags, .slice dp u.data.length dc] 63) = wa at KA UA HA DA ⊢
  obtain ⟨R, hR⟩ : ∃ R, R = w.heap.size := ⟨_, rfl⟩
  rw [← hR] at UA ⊢
  have RR := hid (Nat.le_of_eq hR.symm)
  clear hR hlt
  have SK := hid (skI HA UA)
  have MC := hid (match_call x.p HX.out.p _ u.data _ (DA.out.kept ((Kept.refl [] wa).drew) (by simp)) HB.out)
  rw [show decide (u.data = sigB x.p) = true by have := Xh1.out; simp [this]] at MC
  unfold pval at MC
  have dd := SK.out _ ((Kept.refl [] wa).drew)
  go_region_held3 (fun w' => w'.cell? ⟨b, 0, none⟩ = some (.int .u32 x.p.code) ∧ w'.cell? ⟨b, 1, none⟩ = some (.int .i64 x.p.out) ∧ w'.cell? ⟨b, 2, none⟩ = some (.int .i64 x.p.inn) ∧ w'.cell? ⟨b, 3, none⟩ = some (.int .i64 x.p.watch) ∧ w'.cell? ⟨b, 4, none⟩ = some (.int .u32 x.p.count) ∧ w'.cell? ⟨R, 5, none⟩ = some (.slice dp u.data.length dc)) (with_reducible assumption) ((go_at_call 157; with_reducible refine MC.out.mono ?_; rintro e wm ⟨rfl, km⟩; have KM := hid (((Kept.refl [] wa).drew).trans km); have dd2 := SK.out _ KM.out; clear km))
  clear dd dd2
  have HM := hid (HA.out.nil KM.out)
  have UM := hid (KM.out.has UA.out (by simp))
  have KQ := hid (KG.nil (G := G) (KA.out.trans KM.out))
  have HGM := hid (HG.out.kg KQ.out)
  have c11 := HM.out.top.cell 11 (v := .int .i64 x.state) rfl
  have z11 := HM.out.top.free 11
  rw [Xh2.out] at c11
  go_wp2_with fail
  have H3 := hid (HM.out.set (y := { x with state := 3 }) 11 (.int .i64 3) rfl rfl rfl rfl rfl rfl rfl)
  have K3 := hid (KQ.out.set (i := 11) (v := .int .i64 3) HH.out.gb)
  clear c11 z11
  refine (alive_call (HG.out.kg K3.out) H3.out).mono ?_
  rintro e w4 ⟨rfl, k4, h4⟩
  have K4 := hid (K3.out.trans k4)
  have H4 := hid h4
  clear k4 h4
  go_wp2_with fail
  refine (reply_call 18 0 [] (.slice none 0 0) (by decide) (law18 (x := ({ x with state := 3 } : D).alive) HX.out.p (HX.out.live (.inl Xh2.out))) H4.out (bytes_none _) (by intro z hz; cases hz)).mono ?_
  rintro e w9 ⟨f, rfl, k9, m9⟩
  have K9 := hid (KG.trans (kgM (m := m) (mb := mb) K4.out) (.nil k9))
  have H9 := hid (H4.out.nil k9)
  have F9 := hid (Made.after K4.out.size m9)
  clear k9 m9
  obtain ⟨p9, n9, rfl⟩ := F9.out.shape
  go_wp2_with fail
  go_ret2
  exact ⟨_, rfl, K9.out, H9.out.dev, F9.out⟩
set_option maxRecDepth 100000 in
theorem started4 (hx : DOk x) (hG : Opn G w) (h : DAt G w b d v g o lg k c m mb s x) (h2 : x.state = 4) :
    Calls Tryz.prog 164 #[.pointer (some ⟨b, 0, none⟩)] w fun e w' => Rep G w w' b m mb e (x, some (x.reply 19 0 []), 0) := by
  have HH := hid h
  have HX := hid hx
  have HG := hid hG
  have KQ := hid (KG.refl (G := G) (w := w))
  have c11 := h.top.cell 11 (v := .int .i64 x.state) rfl
  have z11 := h.top.free 11
  have Xh2 := hid h2
  clear h hx hG h2
  rw [Xh2.out] at c11
  go_enter Tryz.func164, Tryz.ntmps164
  go_wp2_with fail
  refine (reply_call 19 0 [] (.slice none 0 0) (by decide) (law19 HX.out.p (HX.out.live (.inr (.inr Xh2.out)))) HH.out (bytes_none _) (by intro z hz; cases hz)).mono ?_
  rintro e w9 ⟨f, rfl, k9, m9⟩
  have K9 := hid (KG.trans (kgM (m := m) (mb := mb) KQ.out) (.nil k9))
  have H9 := hid (HH.out.nil k9)
  have F9 := hid (Made.after KQ.out.size m9)
  clear k9 m9
  obtain ⟨p9, n9, rfl⟩ := F9.out.shape
  go_wp2_with fail
  go_ret2
  exact ⟨_, rfl, K9.out, H9.out.dev, F9.out⟩
set_option maxRecDepth 100000 in
theorem started3 (hx : DOk x) (hG : Opn G w) (h : DAt G w b d v g o lg k c m mb s x) (h2 : x.state = 3) :
    Calls Tryz.prog 164 #[.pointer (some ⟨b, 0, none⟩)] w fun e w' => Rep G w w' b m mb e (({ x with state := 4, v := x.v.run true } : D).alive, some (({ x with state := 4, v := x.v.run true } : D).alive.reply 19 0 []), 0) := by
  have HH := hid h
  have HX := hid hx
  have HG := hid hG
  have KQ := hid (KG.refl (G := G) (w := w))
  have c11 := h.top.cell 11 (v := .int .i64 x.state) rfl
  have z11 := h.top.free 11
  have Xh2 := hid h2
  clear h hx hG h2
  rw [Xh2.out] at c11
  have c9 := HH.out.top.cell 9 (v := .pointer (some ⟨v, 0, none⟩)) rfl
  go_enter Tryz.func164, Tryz.ntmps164
  go_wp2_with fail
  have H3 := hid (HH.out.set (y := { x with state := 4 }) 11 (.int .i64 4) rfl rfl rfl rfl rfl rfl rfl)
  have K3 := hid (KQ.out.set (i := 11) (v := .int .i64 4) HH.out.gb)
  clear c11 z11
  refine (ValveC.run_call v g o x.v true _ H3.out.val).mono ?_
  rintro e w4 ⟨rfl, k4, h4⟩
  have K4 := hid (K3.out.trans (.one k4 HH.out.gv))
  have H4 := hid (H3.out.one k4 h4)
  clear k4 h4
  go_wp2_with fail
  refine (alive_call (HG.out.kg K4.out) H4.out).mono ?_
  rintro e w5 ⟨rfl, k5, h5⟩
  have K5 := hid (K4.out.trans k5)
  have H5 := hid h5
  clear k5 h5
  go_wp2_with fail
  refine (reply_call 19 0 [] (.slice none 0 0) (by decide) (law19 (x := ({ x with state := 4, v := x.v.run true } : D).alive) HX.out.p (HX.out.live (.inr (.inl Xh2.out)))) H5.out (bytes_none _) (by intro z hz; cases hz)).mono ?_
  rintro e w9 ⟨f, rfl, k9, m9⟩
  have K9 := hid (KG.trans (kgM (m := m) (mb := mb) K5.out) (.nil k9))
  have H9 := hid (H5.out.nil k9)
  have F9 := hid (Made.after K5.out.size m9)
  clear k9 m9
  obtain ⟨p9, n9, rfl⟩ := F9.out.shape
  go_wp2_with fail
  go_ret2
  exact ⟨_, rfl, K9.out, H9.out.dev, F9.out⟩
set_option maxRecDepth 100000 in
set_option maxHeartbeats 3200000 in
theorem fed_call (hx : DOk x) (hG : Opn G w) (h : DAt G w b d v g o lg k c m mb s x) (u : U) (vd : Value) (hd : Bytes w vd u.data) (hb : By u.data) (hfl : 0 ≤ u.flags ∧ u.flags ≤ 15) (hnd : ∀ b' off n c, vd = .slice (some ⟨b', off, none⟩) n c → u.data ≠ [] → ¬ G b') (h4 : x.state = 4) (h5 : (u.data.length : Int) = x.p.out) (hu : u.num > x.num) (hc : u.num < x.p.count) :
    Calls Tryz.prog 166 #[.pointer (some ⟨b, 0, none⟩), uval u vd] w fun e w' => Rep G w w' b m mb e (x.fed u) := by
  have FE := hid (feed_sent hx u hu hc)
  have ef : x.fed u = (x.feed u, some ((x.feed u).reply 20 (IntKind.u32.wrap (x.sent + 1)) x.value), 0) := rfl
  rw [ef, FE.out]
  have FX := hid (show x.feed u = { ({ x with num := u.num } : D).alive with v := ((({ x with num := u.num } : D).alive.v.holds (holdBit u.flags)).take u.data), sent := x.sent + 1 } by unfold D.feed; rw [FE.out])
  rw [FX.out]
  clear ef
  obtain ⟨vcap, vcur, rfl, _⟩ := id h.own
  obtain ⟨dp, dc, rfl, hdc⟩ := sl_shape hd
  have HH := hid h
  have HX := hid hx
  have HG := hid hG
  have HD := hid hd
  have HB := hid hb
  have hlt := h.top.lt
  have KA := hid ((Kept.refl [] w).alloc (.cells #[.int .i64 u.kind, .int .u32 u.code, .int .u32 u.ses, .int .u32 u.num, .int .i64 u.flags, .slice dp u.data.length dc] 63))
  have UA := hid (Has.new w 63 [.int .i64 u.kind, .int .u32 u.code, .int .u32 u.ses, .int .u32 u.num, .int .i64 u.flags, .slice dp u.data.length dc])
  have Xhfl := hid hfl
  have Xhnd := hid hnd
  have Xh4 := hid h4
  have Xh5 := hid h5
  have Xhu := hid hu
  have Xhc := hid hc
  have c13 := h.top.cell 13 (v := .int .u32 x.num) rfl
  have z13 := h.top.free 13
  clear h hx hG hd hb hfl hnd h4 h5 hu hc
  unfold uval
  go_enter Tryz.func166, Tryz.ntmps166
  go_wp2_with fail
  have kb := (Kept.refl [b] w).set ⟨b, 13, none⟩ (.int .u32 u.num) (by simp)
  have ka := (Kept.refl [] (w.setCell ⟨b, 13, none⟩ (.int .u32 u.num))).alloc (.cells #[.int .i64 u.kind, .int .u32 u.code, .int .u32 u.ses, .int .u32 u.num, .int .i64 u.flags, .slice dp u.data.length dc] 63)
  have U3 := hid (show Has ((w.setCell ⟨b, 13, none⟩ (.int .u32 u.num)).alloc (.cells #[.int .i64 u.kind, .int .u32 u.code, .int .u32 u.ses, .int .u32 u.num, .int .i64 u.flags, .slice dp u.data.length dc] 63)) w.heap.size 63 [.int .i64 u.kind, .int .u32 u.code, .int .u32 u.ses, .int .u32 u.num, .int .i64 u.flags, .slice dp u.data.length dc] by
    have := Has.new (w.setCell ⟨b, 13, none⟩ (.int .u32 u.num)) 63 [.int .i64 u.kind, .int .u32 u.code, .int .u32 u.ses, .int .u32 u.num, .int .i64 u.flags, .slice dp u.data.length dc]
    rwa [show (w.setCell ⟨b, 13, none⟩ (.int .u32 u.num)).heap.size = w.heap.size by simp] at this)
  have H3 := hid ((HH.out.set (y := { x with num := u.num }) 13 (.int .u32 u.num) rfl rfl rfl rfl rfl rfl rfl).nil ka)
  have K3 := hid (((KG.refl (G := G) (w := w)).set (i := 13) (v := .int .u32 u.num) HH.out.gb).trans (.nil ka))
  have D3 := hid ((HD.out.kept kb (fun b' off n c e hl hm => Xhnd.out b' off n c e hl (by simp at hm; subst hm; exact HH.out.gb))).kept ka (by simp))
  clear kb ka c13 z13 hlt KA UA
  generalize (w.setCell ⟨b, 13, none⟩ (.int .u32 u.num)).alloc (.cells #[.int .i64 u.kind, .int .u32 u.code, .int .u32 u.ses, .int .u32 u.num, .int .i64 u.flags, .slice dp u.data.length dc] 63) = w3 at U3 K3 H3 D3 ⊢
  generalize w.heap.size = R at U3 ⊢
  refine (alive_call (opn_bare (HG.out.kg K3.out) U3.out.lt) (H3.out.bare U3.out)).mono ?_
  rintro e w4 ⟨rfl, k4, h4⟩
  have H4 := hid (h4.mono (G' := G) (fun i _ hi => hi.1) HH.out.nm HH.out.nmb)
  have U4 := hid (k4.has U3.out (fun e => e.2 rfl))
  have D4 := hid (k4.bytes D3.out (fun b' off n c e hl hm => Xhnd.out b' off n c e hl hm.1))
  have K4 := hid (K3.out.trans (kg_bare k4))
  clear k4 h4
  have c9 := H4.out.top.cell 9 (v := .pointer (some ⟨v, 0, none⟩)) rfl
  have u4 := U4.out.cell 4 (v := .int .i64 u.flags) rfl
  have ehb := hold_bit Xhfl.out.1 Xhfl.out.2
  go_wp2_with fail
  have t6 : w4.drew.cell? ⟨b, 9, none⟩ = some (.pointer (some ⟨v, 0, none⟩)) := c9
  have t4 : w4.drew.cell? ⟨R, 4, none⟩ = some (.int .i64 u.flags) := u4
  (refine wp_region_still_tail 8 (by kernel_rfl) (by kernel_rfl) ?_; simp only [List.take_succ_cons, List.take_zero, List.drop_succ_cons, List.drop_zero]; (repeat still_step); refine wpStill_nil ?_)
  change wpList _ _ _ _ _ w4.drew
  go_wp2_with fail
  have H5 := H4.out.nil ((Kept.refl [] w4).drew)
  refine (ValveC.hold_call v g o _ _ _ H5.val).mono ?_
  rintro e w6 ⟨rfl, k6, h6⟩
  have nRv : R ∉ [v] := by obtain ⟨⟨_, h1⟩, _, _⟩ := hasV H4.out.val; simpa using Ow.Has.ne U4.out h1 (by decide)
  have H6 := hid (H5.one k6 h6)
  have K6 := hid (K4.out.drew.trans (.one k6 HH.out.gv))
  have U6 := hid (k6.has U4.out.drew nRv)
  have D6 := hid ((D4.out.kept ((Kept.refl [] w4).drew) (by simp)).kept k6 (fun b' off n c e hl hm => Xhnd.out b' off n c e hl (by simp at hm; subst hm; exact HH.out.gv)))
  have c9' := H6.out.top.cell 9 (v := .pointer (some ⟨v, 0, none⟩)) rfl
  have u5' := U6.out.cell 5 (v := .slice dp u.data.length dc) rfl
  clear H5 k6 h6 nRv t6 t4 c9 u4 ehb
  go_wp2_with fail
  have t6 : w6.drew.cell? ⟨b, 9, none⟩ = some (.pointer (some ⟨v, 0, none⟩)) := c9'
  have t5 : w6.drew.cell? ⟨R, 5, none⟩ = some (.slice dp u.data.length dc) := u5'
  (refine wp_region_still_tail 6 (by kernel_rfl) (by kernel_rfl) ?_; simp only [List.take_succ_cons, List.take_zero, List.drop_succ_cons, List.drop_zero]; (repeat still_step); refine wpStill_nil ?_)
  change wpList _ _ _ _ _ w6.drew
  go_wp2_with fail
  have H7 := H6.out.nil ((Kept.refl [] w6).drew)
  have D7 := D6.out.kept ((Kept.refl [] w6).drew) (by simp)
  have hout := HX.out.p.out
  have hvn := HX.out.vn
  refine (ValveC.take_call v g o _ _ u.data w6.drew (HG.out.kg K6.out.drew) H7.val D7 (by rw [Xh5.out]; exact hvn) (by intro e; have := Xh5.out; rw [e] at this; simp at this; omega) (by have := Xh5.out; omega)).mono ?_
  rintro e w8 ⟨rfl, k8, h8⟩
  have H8 := hid (H7.one k8 h8)
  have K8 := hid (K6.out.drew.trans (.one k8 HH.out.gv))
  have c14 := H8.out.top.cell 14 (v := .int .u32 x.sent) rfl
  have z14 := H8.out.top.free 14
  have fe := FE.out
  clear H7 D7 hout hvn k8 h8 t6 t5 c9' u5'
  go_wp2_with fail
  have H9 := hid (H8.out.set (y := { ({ x with num := u.num } : D).alive with v := ((({ x with num := u.num } : D).alive.v.holds (holdBit u.flags)).take u.data), sent := x.sent + 1 }) 14 (.int .u32 (x.sent + 1)) rfl rfl rfl rfl rfl rfl rfl)
  have K9 := hid (K8.out.set (i := 14) (v := .int .u32 (x.sent + 1)) HH.out.gb)
  clear c14 z14
  generalize w8.setCell ⟨b, 14, none⟩ (.int .u32 (x.sent + 1)) = w9 at H9 K9 ⊢
  have YN := hid (show 1 ≤ ({ ({ x with num := u.num } : D).alive with v := ((({ x with num := u.num } : D).alive.v.holds (holdBit u.flags)).take u.data), sent := x.sent + 1 } : D).v.n ∧ ({ ({ x with num := u.num } : D).alive with v := ((({ x with num := u.num } : D).alive.v.holds (holdBit u.flags)).take u.data), sent := x.sent + 1 } : D).v.n ≤ 8 by show 1 ≤ ((x.v.come.holds _).take _).n ∧ ((x.v.come.holds _).take _).n ≤ 8; rw [take_n, holds_n]; have := HX.out.p.out; have := HX.out.vn; show 1 ≤ x.v.n ∧ x.v.n ≤ 8; omega)
  have YL := hid (law20 (x := { ({ x with num := u.num } : D).alive with v := ((({ x with num := u.num } : D).alive.v.holds (holdBit u.flags)).take u.data), sent := x.sent + 1 }) HX.out.p (HX.out.live (.inr (.inr Xh4.out))) (num := x.sent + 1) (l := x.value) (by have := HX.out.sent; omega) (by have := HX.out.len; have := HX.out.p.inn; omega) (by have := HX.out.len; have := HX.out.p.inn; omega))
  have OW := hid (show Own w9 k (.slice (some ⟨k, 0, none⟩) x.value.length vcap) x.value from H9.out.own)
  have T9 := H9.out.top
  have SK := hid (show ∀ w', Kept [] w9 w' → (w'.cell? ⟨b, 14, none⟩ = some (.int .u32 (x.sent + 1)) ∧ w'.cell? ⟨b, 16, none⟩ = some (.slice (some ⟨k, 0, none⟩) x.value.length vcap)) from fun w' q => ⟨(q.has T9 (by simp)).cell 14 rfl, (q.has T9 (by simp)).cell 16 rfl⟩)
  clear T9
  have VL := hid (show x.value.length ≤ 140737488351232 by have := HX.out.len; have := HX.out.p.inn; omega)
  have VB := hid HX.out.byt
  obtain ⟨y, hy⟩ : ∃ y : D, y = { ({ x with num := u.num } : D).alive with v := ((({ x with num := u.num } : D).alive.v.holds (holdBit u.flags)).take u.data), sent := x.sent + 1 } := ⟨_, rfl⟩
  rw [← hy] at H9 YN YL
  have OB := hid (OW.out.kept ((Kept.refl [] w9).drew) (by simp)).bytes
  have CL := hid (clone_call _ x.value w9.drew OB.out VL.out)
  have dd := SK.out _ ((Kept.refl [] w9).drew)
  go_wp2_with fail
  go_region_held3 (fun w' => w'.cell? ⟨b, 14, none⟩ = some (.int .u32 (x.sent + 1)) ∧ w'.cell? ⟨b, 16, none⟩ = some (.slice (some ⟨k, 0, none⟩) x.value.length vcap)) (with_reducible assumption) (first | (go_at_call 35; with_reducible refine CL.out.mono ?_; rintro e wc ⟨vc, rfl, kc, hc⟩; have MC := hid (made_of_cloned OB.out hc); have KC := hid (((Kept.refl [] w9).drew).trans kc); have HC := hid (H9.out.nil KC.out); have dd2 := SK.out _ KC.out; have RC := hid (reply20_call (x.sent + 1) x.value vc YN.out YL.out HC.out MC.out.bytes VB.out); clear kc hc) | (go_at_call 188; with_reducible refine RC.out.mono ?_; rintro e wr ⟨f, rfl, kr, mr⟩; have KR := hid (KC.out.trans kr); have MR := hid (Made.after (Nat.le_trans K9.out.size KC.out.size) mr); have dd3 := SK.out _ KR.out; clear kr mr))
  clear dd dd2 dd3
  obtain ⟨p5, n5, rfl⟩ := MR.out.shape
  go_wp2_with fail
  go_ret2
  subst hy
  have HZ : devOf G wr b m mb { ({ x with num := u.num } : D).alive with v := ((({ x with num := u.num } : D).alive.v.holds (holdBit u.flags)).take u.data), sent := x.sent + 1 } := ⟨d, v, g, o, lg, k, c, _, H9.out.nil KR.out⟩
  refine ⟨_, rfl, (kgM K9.out).trans (.nil KR.out), ?_, ?_⟩
  · exact HZ
  · exact MR.out
set_option maxRecDepth 100000 in
set_option maxHeartbeats 3200000 in
theorem ended_call (hx : DOk x) (hG : Opn G w) (h : DAt G w b d v g o lg k c m mb s x) (u : U) (vd : Value) (hd : Bytes w vd u.data) (hb : By u.data) (h4 : x.state = 4) (hu : u.num > x.num) (hc : u.num = x.p.count) :
    Calls Tryz.prog 167 #[.pointer (some ⟨b, 0, none⟩), uval u vd] w fun e w' => Rep G w w' b m mb e (x.ended u) := by
  have ef : x.ended u = ({ x.last u with v := (x.last u).v.run false, state := 5 }, some ((x.last u).reply 21 x.p.count []), 0) := rfl
  rw [ef]
  clear ef
  obtain ⟨dp, dc, rfl, hdc⟩ := sl_shape hd
  have HH := hid h
  have HX := hid hx
  have HG := hid hG
  have HD := hid hd
  have HB := hid hb
  have hlt := h.top.lt
  have KA := hid ((Kept.refl [] w).alloc (.cells #[.int .i64 u.kind, .int .u32 u.code, .int .u32 u.ses, .int .u32 u.num, .int .i64 u.flags, .slice dp u.data.length dc] 63))
  have UA := hid (Has.new w 63 [.int .i64 u.kind, .int .u32 u.code, .int .u32 u.ses, .int .u32 u.num, .int .i64 u.flags, .slice dp u.data.length dc])
  have Xh4 := hid h4
  have Xhu := hid hu
  have Xhc := hid hc
  have c13 := h.top.cell 13 (v := .int .u32 x.num) rfl
  have z13 := h.top.free 13
  clear h hx hG hd hb h4 hu hc
  unfold uval
  go_enter Tryz.func167, Tryz.ntmps167
  go_wp2_with fail
  have kb := (Kept.refl [b] w).set ⟨b, 13, none⟩ (.int .u32 u.num) (by simp)
  have ka := (Kept.refl [] (w.setCell ⟨b, 13, none⟩ (.int .u32 u.num))).alloc (.cells #[.int .i64 u.kind, .int .u32 u.code, .int .u32 u.ses, .int .u32 u.num, .int .i64 u.flags, .slice dp u.data.length dc] 63)
  have U3 := hid (show Has ((w.setCell ⟨b, 13, none⟩ (.int .u32 u.num)).alloc (.cells #[.int .i64 u.kind, .int .u32 u.code, .int .u32 u.ses, .int .u32 u.num, .int .i64 u.flags, .slice dp u.data.length dc] 63)) w.heap.size 63 [.int .i64 u.kind, .int .u32 u.code, .int .u32 u.ses, .int .u32 u.num, .int .i64 u.flags, .slice dp u.data.length dc] by
    have := Has.new (w.setCell ⟨b, 13, none⟩ (.int .u32 u.num)) 63 [.int .i64 u.kind, .int .u32 u.code, .int .u32 u.ses, .int .u32 u.num, .int .i64 u.flags, .slice dp u.data.length dc]
    rwa [show (w.setCell ⟨b, 13, none⟩ (.int .u32 u.num)).heap.size = w.heap.size by simp] at this)
  have H3 := hid ((HH.out.set (y := { x with num := u.num }) 13 (.int .u32 u.num) rfl rfl rfl rfl rfl rfl rfl).nil ka)
  have K3 := hid (((KG.refl (G := G) (w := w)).set (i := 13) (v := .int .u32 u.num) HH.out.gb).trans (.nil ka))
  clear kb ka c13 z13 hlt KA UA
  generalize (w.setCell ⟨b, 13, none⟩ (.int .u32 u.num)).alloc (.cells #[.int .i64 u.kind, .int .u32 u.code, .int .u32 u.ses, .int .u32 u.num, .int .i64 u.flags, .slice dp u.data.length dc] 63) = w3 at U3 K3 H3 ⊢
  generalize w.heap.size = R at U3 ⊢
  refine (alive_call (opn_bare (HG.out.kg K3.out) U3.out.lt) (H3.out.bare U3.out)).mono ?_
  rintro e w4 ⟨rfl, k4, h4⟩
  have H4 := hid (h4.mono (G' := G) (fun i _ hi => hi.1) HH.out.nm HH.out.nmb)
  have U4 := hid (k4.has U3.out (fun e => e.2 rfl))
  have K4 := hid (K3.out.trans (kg_bare k4))
  clear k4 h4
  go_wp2_with fail
  refine (trip_call 80 (by decide) (by decide) (HG.out.kg K4.out) H4.out).mono ?_
  rintro e w5 ⟨rfl, k5, h5⟩
  have K5 := hid (K4.out.trans k5)
  have H5 := hid h5
  have c4 := H5.out.top.cell 4 (v := .int .u32 x.p.count) rfl
  have c14 := H5.out.top.cell 14 (v := .int .u32 x.sent) rfl
  have z14 := H5.out.top.free 14
  clear k5 h5
  go_wp2_with fail
  have H6 := hid (H5.out.set (y := x.last u) 14 (.int .u32 x.p.count) rfl rfl rfl rfl rfl rfl rfl)
  have K6 := hid (K5.out.set (i := 14) (v := .int .u32 x.p.count) HH.out.gb)
  clear c4 c14 z14
  generalize w5.setCell ⟨b, 14, none⟩ (.int .u32 x.p.count) = w6 at H6 K6 ⊢
  refine (reply_call 21 x.p.count [] (.slice none 0 0) (by decide) (law21 (x := x.last u) HX.out.p (HX.out.live (.inr (.inr Xh4.out))) (by have := HX.out.p.count; omega)) H6.out (bytes_none _) (by intro z hz; cases hz)).mono ?_
  rintro e w7 ⟨f, rfl, k7, m7⟩
  have K7 := hid (K6.out.trans (.nil k7))
  have H7 := hid (H6.out.nil k7)
  have F7 := hid (Made.after K6.out.size m7)
  have c9 := H7.out.top.cell 9 (v := .pointer (some ⟨v, 0, none⟩)) rfl
  clear k7 m7
  obtain ⟨p7, n7, rfl⟩ := F7.out.shape
  go_wp2_with fail
  refine (ValveC.run_call v g o _ false _ H7.out.val).mono ?_
  rintro e w8 ⟨rfl, k8, h8⟩
  have H8 := hid (H7.out.one k8 h8)
  have K8 := hid (K7.out.trans (.one k8 HH.out.gv))
  have F8 := hid (F7.out.kept k8 (fun i hi => by obtain ⟨_, hv⟩ := (hasV H7.out.val).1; simpa using Made.ne F7.out hi hv (by decide)))
  have c11 := H8.out.top.cell 11 (v := .int .i64 x.state) rfl
  have z11 := H8.out.top.free 11
  clear k8 h8 c9
  go_wp2_with fail
  go_ret2
  have hb : ∀ i, (Value.slice p7 (frame ((x.last u).reply 21 x.p.count [])).length n7).ownBlock = some i → i ∉ [b] := fun i hi => by simpa using Made.ne F8.out hi H8.out.top (by decide)
  exact ⟨_, rfl, kgM (K8.out.set (i := 11) (v := .int .i64 5) HH.out.gb), (H8.out.set (y := { x.last u with v := (x.last u).v.run false, state := 5 }) 11 (.int .i64 5) rfl rfl rfl rfl rfl rfl rfl).dev, F8.out.kept ((Kept.refl [b] w8).set ⟨b, 11, none⟩ (.int .i64 5) (by simp)) hb⟩
end DevC
end Go.Proofs.YtinaliblnihpbaaGreat
