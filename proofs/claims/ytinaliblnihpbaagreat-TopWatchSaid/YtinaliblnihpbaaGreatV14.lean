/- The walks and the plain laws of DevM. -/
import Derived.Test.YtinaliblnihpbaaGreatV13
set_option linter.unusedVariables false
set_option linter.unusedSimpArgs false
open Go.Lib (hid)
namespace Go.Proofs.YtinaliblnihpbaaGreat
namespace DevC
open Go Go.RowKit Gf SlC CrcW SlM Hp Sl Ow DiagC ValveC DogC Kx TM MemC CellC HostC EncW ParW UnW UEnc NumW UDecW
variable {G : Nat → Prop} {w w' w'' : World} {b d v g o lg k c m mb : Nat} {s : Value} {x y : D}
set_option maxRecDepth 100000 in
set_option maxHeartbeats 1600000 in
theorem take4n (hx : DOk x) (hG : Opn G w) (h : DAt G w b d v g o lg k c m mb s x) (u : U) (vd : Value) (hd : Bytes w vd u.data) (hb : By u.data) (h1 : u.kind = 4) (h2 : ¬ x.next u) :
    Calls Tryz.prog 134 #[.pointer (some ⟨b, 0, none⟩), uval u vd] w fun e w' => Rep G w w' b m mb e (x.odds 130) := by
  obtain ⟨dp, dc, rfl, hdc⟩ := sl_shape hd
  have HH := hid h
  have HX := hid hx
  have HG := hid hG
  have HD := hid hd
  have HB := hid hb
  have hlt := h.top.lt
  have KA := hid ((Kept.refl [] w).alloc (.cells #[.int .i64 u.kind, .int .u32 u.code, .int .u32 u.ses, .int .u32 u.num, .int .i64 u.flags, .slice dp u.data.length dc] 63))
  have UA := hid (Has.new w 63 [.int .i64 u.kind, .int .u32 u.code, .int .u32 u.ses, .int .u32 u.num, .int .i64 u.flags, .slice dp u.data.length dc])
  have Xh1 := hid h1
  have Xh2 := hid h2
  have e0 : (u.kind == 1) = false := by simp [h1]
  have e1 : (u.kind == 2) = false := by simp [h1]
  have e2 : (u.kind == 3) = false := by simp [h1]
  have e3 : (u.kind == 4) = true := by simp [h1]
  clear h hx hG hd hb h1 h2
  unfold uval
  go_enter Tryz.func134, Tryz.ntmps134
  go_wp2_with fail
  have HA := hid (HH.out.nil KA.out)
  have DA := hid (HD.out.kept KA.out (by simp))
  generalize w.alloc (.cells #[.int .i64 u.kind, .int .u32 u.code, .int .u32 u.ses, .int .u32 u.num, .int .i64 u.flags, .slice dp u.data.length dc] 63) = wa at KA UA HA DA ⊢
  obtain ⟨R, hR⟩ : ∃ R, R = w.heap.size := ⟨_, rfl⟩
  rw [← hR] at UA ⊢
  have RR := hid (Nat.le_of_eq hR.symm)
  clear hR hlt
  have FK := hid (fkT HA UA)
  have k0 := Kept.refl [] wa
  have NC := hid (next_call HX.out (HG.out.kg (KG.nil (G := G) KA.out.drew)) (HA.out.nil ((Kept.refl [] wa).drew)) u (.slice dp u.data.length dc) (DA.out.kept ((Kept.refl [] wa).drew) (by simp)) HB.out)
  rw [show decide (x.next u) = false by simpa using Xh2.out] at NC
  unfold uval at NC
  have dd := FK.out _ ((Kept.refl [] wa).drew)
  clear k0
  refine wp_region_held_drew (S := fun w' => w'.cell? ⟨b, 1, none⟩ = some (.int .i64 x.p.out) ∧ w'.cell? ⟨b, 4, none⟩ = some (.int .u32 x.p.count) ∧ w'.cell? ⟨b, 11, none⟩ = some (.int .i64 x.state) ∧ w'.cell? ⟨b, 12, none⟩ = some (.int .u32 x.ses) ∧ w'.cell? ⟨b, 13, none⟩ = some (.int .u32 x.num) ∧ w'.cell? ⟨R, 0, none⟩ = some (.int .i64 u.kind) ∧ w'.cell? ⟨R, 1, none⟩ = some (.int .u32 u.code) ∧ w'.cell? ⟨R, 2, none⟩ = some (.int .u32 u.ses) ∧ w'.cell? ⟨R, 3, none⟩ = some (.int .u32 u.num) ∧ w'.cell? ⟨R, 4, none⟩ = some (.int .i64 u.flags) ∧ w'.cell? ⟨R, 5, none⟩ = some (.slice dp u.data.length dc)) (by kernel_rfl) dd (fun hHeld => ?_)
  refine wpAnyH_take (i := 0) (oi := ⟨some 86, .move (.tmp 0), 88, "device.go:182", #[], none⟩) (v := ?_) rfl (by kernel_rfl) (by kernel_rfl) (by kernel_rfl) (fun _ _ _ h => h) (Or.inl ⟨by rfl, ?_⟩) dd ?_
  rotate_left 1
  focus (intro w hSw; (try dsimp only at hSw); go_simp; try with_reducible rfl)
  try simp only [Act.put, List.setIfInBounds_toArray, List.set_cons_zero, List.set_cons_succ]
  refine wpAnyH_take (i := 1) (oi := ⟨some 87, .load 63 (.tmp 3), 63, "device.go:182", #[], none⟩) (v := ?_) rfl (by kernel_rfl) (by kernel_rfl) (by kernel_rfl) (fun _ _ _ h => h) (Or.inl ⟨by rfl, ?_⟩) dd ?_
  rotate_left 1
  focus (intro w hSw; (try dsimp only at hSw); go_simp; try with_reducible rfl)
  try simp only [Act.put, List.setIfInBounds_toArray, List.set_cons_zero, List.set_cons_succ]
  refine wpAnyH_ready (rs := [2]) (by kernel_rfl) (by simp) ?_
  refine AllReadyH.cons (o := ⟨some 88, .call { callee := .value (.func 165), args := #[.tmp 86, .tmp 87], argTypes := #[88, 63] }, 4, "device.go:182", #[⟨0, .data⟩, ⟨1, .data⟩], none⟩) rfl (fun K hK => ?_) AllReadyH.nil
  go_simp
  go_at_call 165
  refine NC.out.mono ?_
  rintro e wq1 ⟨rfl, kn⟩
  have k1 := ((Kept.refl [] wa).drew).trans kn
  have dd2 := FK.out _ k1
  clear kn
  refine hK.out _ _ dd2 (fun _ => ?_)
  clear hK K
  try simp only [Act.put, List.setIfInBounds_toArray, List.set_cons_zero, List.set_cons_succ]
  refine wpAnyH_take (i := 3) (oi := ⟨some 89, .move (.tmp 88), 4, "device.go:182", #[⟨2, .data⟩, ⟨2, .chain⟩], none⟩) (v := ?_) rfl (by kernel_rfl) (by kernel_rfl) (by kernel_rfl) (fun _ _ _ h => h) (Or.inl ⟨by rfl, ?_⟩) dd2 ?_
  rotate_left 1
  focus (intro w hSw; (try dsimp only at hSw); go_simp; try with_reducible rfl)
  try simp only [Act.put, List.setIfInBounds_toArray, List.set_cons_zero, List.set_cons_succ]
  refine wpAnyH_take (i := 4) (oi := ⟨some 90, .fieldAddr 63 (.tmp 3) 5, 0, "device.go:182", #[⟨3, .guard⟩], some (3, true)⟩) (v := undef) rfl (by kernel_rfl) (by kernel_rfl) (by kernel_rfl) (fun _ _ _ h => h) (Or.inr ⟨by rfl, rfl⟩) dd2 ?_
  try simp only [Act.put, List.setIfInBounds_toArray, List.set_cons_zero, List.set_cons_succ]
  refine wpAnyH_take (i := 5) (oi := ⟨some 91, .load 36 (.tmp 90), 36, "device.go:182", #[⟨4, .data⟩, ⟨3, .guard⟩], some (3, true)⟩) (v := undef) rfl (by kernel_rfl) (by kernel_rfl) (by kernel_rfl) (fun _ _ _ h => h) (Or.inr ⟨by rfl, rfl⟩) dd2 ?_
  try simp only [Act.put, List.setIfInBounds_toArray, List.set_cons_zero, List.set_cons_succ]
  refine wpAnyH_take (i := 6) (oi := ⟨some 92, .call { callee := .builtin .len, args := #[.tmp 91], argTypes := #[36] }, 3, "device.go:182", #[⟨5, .data⟩, ⟨3, .guard⟩], some (3, true)⟩) (v := undef) rfl (by kernel_rfl) (by kernel_rfl) (by kernel_rfl) (fun _ _ _ h => h) (Or.inr ⟨by rfl, rfl⟩) dd2 ?_
  try simp only [Act.put, List.setIfInBounds_toArray, List.set_cons_zero, List.set_cons_succ]
  refine wpAnyH_take (i := 7) (oi := ⟨some 93, .move (.tmp 0), 88, "device.go:182", #[⟨3, .guard⟩], some (3, true)⟩) (v := undef) rfl (by kernel_rfl) (by kernel_rfl) (by kernel_rfl) (fun _ _ _ h => h) (Or.inr ⟨by rfl, rfl⟩) dd2 ?_
  try simp only [Act.put, List.setIfInBounds_toArray, List.set_cons_zero, List.set_cons_succ]
  refine wpAnyH_take (i := 8) (oi := ⟨some 94, .nilCheck (.tmp 93), 0, "device.go:182", #[⟨7, .data⟩, ⟨3, .guard⟩], some (3, true)⟩) (v := undef) rfl (by kernel_rfl) (by kernel_rfl) (by kernel_rfl) (fun _ _ _ h => h) (Or.inr ⟨by rfl, rfl⟩) dd2 ?_
  try simp only [Act.put, List.setIfInBounds_toArray, List.set_cons_zero, List.set_cons_succ]
  refine wpAnyH_take (i := 9) (oi := ⟨some 95, .fieldAddr 142 (.tmp 94) 0, 0, "device.go:182", #[⟨8, .data⟩, ⟨3, .guard⟩], some (3, true)⟩) (v := undef) rfl (by kernel_rfl) (by kernel_rfl) (by kernel_rfl) (fun _ _ _ h => h) (Or.inr ⟨by rfl, rfl⟩) dd2 ?_
  try simp only [Act.put, List.setIfInBounds_toArray, List.set_cons_zero, List.set_cons_succ]
  refine wpAnyH_take (i := 10) (oi := ⟨some 96, .fieldAddr 50 (.tmp 95) 1, 0, "device.go:182", #[⟨9, .data⟩, ⟨3, .guard⟩], some (3, true)⟩) (v := undef) rfl (by kernel_rfl) (by kernel_rfl) (by kernel_rfl) (fun _ _ _ h => h) (Or.inr ⟨by rfl, rfl⟩) dd2 ?_
  try simp only [Act.put, List.setIfInBounds_toArray, List.set_cons_zero, List.set_cons_succ]
  refine wpAnyH_take (i := 11) (oi := ⟨some 97, .load 3 (.tmp 96), 3, "device.go:182", #[⟨10, .data⟩, ⟨3, .guard⟩], some (3, true)⟩) (v := undef) rfl (by kernel_rfl) (by kernel_rfl) (by kernel_rfl) (fun _ _ _ h => h) (Or.inr ⟨by rfl, rfl⟩) dd2 ?_
  try simp only [Act.put, List.setIfInBounds_toArray, List.set_cons_zero, List.set_cons_succ]
  refine wpAnyH_take (i := 12) (oi := ⟨some 98, .binOp .eql 3 (.tmp 92) (.tmp 97) 3, 4, "device.go:182", #[⟨6, .data⟩, ⟨11, .data⟩, ⟨3, .guard⟩], some (3, true)⟩) (v := undef) rfl (by kernel_rfl) (by kernel_rfl) (by kernel_rfl) (fun _ _ _ h => h) (Or.inr ⟨by rfl, rfl⟩) dd2 ?_
  try simp only [Act.put, List.setIfInBounds_toArray, List.set_cons_zero, List.set_cons_succ]
  refine wpAnyH_take (i := 13) (oi := ⟨some 99, .pick (.tmp 89) (.tmp 98) (.const (.bool false)), 4, "device.go:182", #[⟨3, .data⟩, ⟨12, .data⟩], none⟩) (v := ?_) rfl (by kernel_rfl) (by kernel_rfl) (by kernel_rfl) (fun _ _ _ h => h) (Or.inl ⟨by rfl, ?_⟩) dd2 ?_
  rotate_left 1
  focus (intro w hSw; (try dsimp only at hSw); go_simp; try with_reducible rfl)
  try simp only [Act.put, List.setIfInBounds_toArray, List.set_cons_zero, List.set_cons_succ]
  refine wpAnyH_take (i := 14) (oi := ⟨some 100, .move (.tmp 99), 4, "device.go:182", #[⟨13, .data⟩, ⟨3, .chain⟩], none⟩) (v := ?_) rfl (by kernel_rfl) (by kernel_rfl) (by kernel_rfl) (fun _ _ _ h => h) (Or.inl ⟨by rfl, ?_⟩) dd2 ?_
  rotate_left 1
  focus (intro w hSw; (try dsimp only at hSw); go_simp; try with_reducible rfl)
  try simp only [Act.put, List.setIfInBounds_toArray, List.set_cons_zero, List.set_cons_succ]
  refine wpAnyH_take (i := 15) (oi := ⟨some 101, .fieldAddr 63 (.tmp 3) 3, 0, "device.go:182", #[⟨14, .guard⟩], some (14, true)⟩) (v := undef) rfl (by kernel_rfl) (by kernel_rfl) (by kernel_rfl) (fun _ _ _ h => h) (Or.inr ⟨by rfl, rfl⟩) dd2 ?_
  try simp only [Act.put, List.setIfInBounds_toArray, List.set_cons_zero, List.set_cons_succ]
  refine wpAnyH_take (i := 16) (oi := ⟨some 102, .load 24 (.tmp 101), 24, "device.go:182", #[⟨15, .data⟩, ⟨14, .guard⟩], some (14, true)⟩) (v := undef) rfl (by kernel_rfl) (by kernel_rfl) (by kernel_rfl) (fun _ _ _ h => h) (Or.inr ⟨by rfl, rfl⟩) dd2 ?_
  try simp only [Act.put, List.setIfInBounds_toArray, List.set_cons_zero, List.set_cons_succ]
  refine wpAnyH_take (i := 17) (oi := ⟨some 103, .move (.tmp 0), 88, "device.go:182", #[⟨14, .guard⟩], some (14, true)⟩) (v := undef) rfl (by kernel_rfl) (by kernel_rfl) (by kernel_rfl) (fun _ _ _ h => h) (Or.inr ⟨by rfl, rfl⟩) dd2 ?_
  try simp only [Act.put, List.setIfInBounds_toArray, List.set_cons_zero, List.set_cons_succ]
  refine wpAnyH_take (i := 18) (oi := ⟨some 104, .nilCheck (.tmp 103), 0, "device.go:182", #[⟨17, .data⟩, ⟨14, .guard⟩], some (14, true)⟩) (v := undef) rfl (by kernel_rfl) (by kernel_rfl) (by kernel_rfl) (fun _ _ _ h => h) (Or.inr ⟨by rfl, rfl⟩) dd2 ?_
  try simp only [Act.put, List.setIfInBounds_toArray, List.set_cons_zero, List.set_cons_succ]
  refine wpAnyH_take (i := 19) (oi := ⟨some 105, .fieldAddr 142 (.tmp 104) 0, 0, "device.go:182", #[⟨18, .data⟩, ⟨14, .guard⟩], some (14, true)⟩) (v := undef) rfl (by kernel_rfl) (by kernel_rfl) (by kernel_rfl) (fun _ _ _ h => h) (Or.inr ⟨by rfl, rfl⟩) dd2 ?_
  try simp only [Act.put, List.setIfInBounds_toArray, List.set_cons_zero, List.set_cons_succ]
  refine wpAnyH_take (i := 20) (oi := ⟨some 106, .fieldAddr 50 (.tmp 105) 4, 0, "device.go:182", #[⟨19, .data⟩, ⟨14, .guard⟩], some (14, true)⟩) (v := undef) rfl (by kernel_rfl) (by kernel_rfl) (by kernel_rfl) (fun _ _ _ h => h) (Or.inr ⟨by rfl, rfl⟩) dd2 ?_
  try simp only [Act.put, List.setIfInBounds_toArray, List.set_cons_zero, List.set_cons_succ]
  refine wpAnyH_take (i := 21) (oi := ⟨some 107, .load 24 (.tmp 106), 24, "device.go:182", #[⟨20, .data⟩, ⟨14, .guard⟩], some (14, true)⟩) (v := undef) rfl (by kernel_rfl) (by kernel_rfl) (by kernel_rfl) (fun _ _ _ h => h) (Or.inr ⟨by rfl, rfl⟩) dd2 ?_
  try simp only [Act.put, List.setIfInBounds_toArray, List.set_cons_zero, List.set_cons_succ]
  refine wpAnyH_take (i := 22) (oi := ⟨some 108, .binOp .lss 24 (.tmp 102) (.tmp 107) 24, 4, "device.go:182", #[⟨16, .data⟩, ⟨21, .data⟩, ⟨14, .guard⟩], some (14, true)⟩) (v := undef) rfl (by kernel_rfl) (by kernel_rfl) (by kernel_rfl) (fun _ _ _ h => h) (Or.inr ⟨by rfl, rfl⟩) dd2 ?_
  try simp only [Act.put, List.setIfInBounds_toArray, List.set_cons_zero, List.set_cons_succ]
  refine wpAnyH_take (i := 23) (oi := ⟨some 109, .pick (.tmp 100) (.tmp 108) (.const (.bool false)), 4, "device.go:182", #[⟨14, .data⟩, ⟨22, .data⟩], none⟩) (v := ?_) rfl (by kernel_rfl) (by kernel_rfl) (by kernel_rfl) (fun _ _ _ h => h) (Or.inl ⟨by rfl, ?_⟩) dd2 ?_
  rotate_left 1
  focus (intro w hSw; (try dsimp only at hSw); go_simp; try with_reducible rfl)
  try simp only [Act.put, List.setIfInBounds_toArray, List.set_cons_zero, List.set_cons_succ]
  refine wpAnyH_done (by kernel_rfl) ?_ _
  clear dd dd2
  obtain ⟨f1, f4, f11, f12, f13, y0, y1, y2, y3, y4, y5⟩ := FK.out _ k1
  go_wp2_with fail
  clear f1 f4 f11 f12 f13 y0 y1 y2 y3 y4 y5
  have KM := hid k1
  have HM := hid (HA.out.nil k1)
  have UM := hid (k1.has UA.out (by simp))
  have DM := hid (DA.out.kept k1 (by simp))
  have KQ := hid (KG.nil (G := G) (KA.out.trans k1))
  have HGM := hid (HG.out.kg KQ.out)
  clear k1
  refine (odds_call HX.out 130 HGM.out HM.out).mono ?_
  rintro e w5 ⟨f, rfl, k5, h5, f5⟩
  have K5 := hid (kgM (m := m) (mb := mb) (KQ.out.trans k5))
  have H5 := hid h5.dev
  have F5 := hid (FrameOf.after KQ.out.size f5)
  clear k5 h5 f5
  obtain ⟨p5, l5, n5, rfl⟩ := DevC.FrameOf.shape F5.out
  go_wp2_with fail
  go_ret2
  exact ⟨_, rfl, K5.out, H5.out, F5.out⟩
set_option maxRecDepth 100000 in
set_option maxHeartbeats 1600000 in
theorem take4l (hx : DOk x) (hG : Opn G w) (h : DAt G w b d v g o lg k c m mb s x) (u : U) (vd : Value) (hd : Bytes w vd u.data) (hb : By u.data) (h1 : u.kind = 4) (h2 : x.next u) (h3 : (u.data.length : Int) ≠ x.p.out) :
    Calls Tryz.prog 134 #[.pointer (some ⟨b, 0, none⟩), uval u vd] w fun e w' => Rep G w w' b m mb e (x.odds 130) := by
  obtain ⟨dp, dc, rfl, hdc⟩ := sl_shape hd
  have HH := hid h
  have HX := hid hx
  have HG := hid hG
  have HD := hid hd
  have HB := hid hb
  have hlt := h.top.lt
  have KA := hid ((Kept.refl [] w).alloc (.cells #[.int .i64 u.kind, .int .u32 u.code, .int .u32 u.ses, .int .u32 u.num, .int .i64 u.flags, .slice dp u.data.length dc] 63))
  have UA := hid (Has.new w 63 [.int .i64 u.kind, .int .u32 u.code, .int .u32 u.ses, .int .u32 u.num, .int .i64 u.flags, .slice dp u.data.length dc])
  have Xh1 := hid h1
  have Xh2 := hid h2
  have Xh3 := hid h3
  have e0 : (u.kind == 1) = false := by simp [h1]
  have e1 : (u.kind == 2) = false := by simp [h1]
  have e2 : (u.kind == 3) = false := by simp [h1]
  have e3 : (u.kind == 4) = true := by simp [h1]
  have e4 : ((u.data.length : Int) == x.p.out) = false := by simp [h3]
  clear h hx hG hd hb h1 h2 h3
  unfold uval
  go_enter Tryz.func134, Tryz.ntmps134
  go_wp2_with fail
  have HA := hid (HH.out.nil KA.out)
  have DA := hid (HD.out.kept KA.out (by simp))
  generalize w.alloc (.cells #[.int .i64 u.kind, .int .u32 u.code, .int .u32 u.ses, .int .u32 u.num, .int .i64 u.flags, .slice dp u.data.length dc] 63) = wa at KA UA HA DA ⊢
  obtain ⟨R, hR⟩ : ∃ R, R = w.heap.size := ⟨_, rfl⟩
  rw [← hR] at UA ⊢
  have RR := hid (Nat.le_of_eq hR.symm)
  clear hR hlt
  have FK := hid (fkT HA UA)
  have k0 := Kept.refl [] wa
  have NC := hid (next_call HX.out (HG.out.kg (KG.nil (G := G) KA.out.drew)) (HA.out.nil ((Kept.refl [] wa).drew)) u (.slice dp u.data.length dc) (DA.out.kept ((Kept.refl [] wa).drew) (by simp)) HB.out)
  rw [show decide (x.next u) = true by simpa using Xh2.out] at NC
  unfold uval at NC
  have dd := FK.out _ ((Kept.refl [] wa).drew)
  clear k0
  refine wp_region_held_drew (S := fun w' => w'.cell? ⟨b, 1, none⟩ = some (.int .i64 x.p.out) ∧ w'.cell? ⟨b, 4, none⟩ = some (.int .u32 x.p.count) ∧ w'.cell? ⟨b, 11, none⟩ = some (.int .i64 x.state) ∧ w'.cell? ⟨b, 12, none⟩ = some (.int .u32 x.ses) ∧ w'.cell? ⟨b, 13, none⟩ = some (.int .u32 x.num) ∧ w'.cell? ⟨R, 0, none⟩ = some (.int .i64 u.kind) ∧ w'.cell? ⟨R, 1, none⟩ = some (.int .u32 u.code) ∧ w'.cell? ⟨R, 2, none⟩ = some (.int .u32 u.ses) ∧ w'.cell? ⟨R, 3, none⟩ = some (.int .u32 u.num) ∧ w'.cell? ⟨R, 4, none⟩ = some (.int .i64 u.flags) ∧ w'.cell? ⟨R, 5, none⟩ = some (.slice dp u.data.length dc)) (by kernel_rfl) dd (fun hHeld => ?_)
  refine wpAnyH_take (i := 0) (oi := ⟨some 86, .move (.tmp 0), 88, "device.go:182", #[], none⟩) (v := ?_) rfl (by kernel_rfl) (by kernel_rfl) (by kernel_rfl) (fun _ _ _ h => h) (Or.inl ⟨by rfl, ?_⟩) dd ?_
  rotate_left 1
  focus (intro w hSw; (try dsimp only at hSw); go_simp; try with_reducible rfl)
  try simp only [Act.put, List.setIfInBounds_toArray, List.set_cons_zero, List.set_cons_succ]
  refine wpAnyH_take (i := 1) (oi := ⟨some 87, .load 63 (.tmp 3), 63, "device.go:182", #[], none⟩) (v := ?_) rfl (by kernel_rfl) (by kernel_rfl) (by kernel_rfl) (fun _ _ _ h => h) (Or.inl ⟨by rfl, ?_⟩) dd ?_
  rotate_left 1
  focus (intro w hSw; (try dsimp only at hSw); go_simp; try with_reducible rfl)
  try simp only [Act.put, List.setIfInBounds_toArray, List.set_cons_zero, List.set_cons_succ]
  refine wpAnyH_ready (rs := [2]) (by kernel_rfl) (by simp) ?_
  refine AllReadyH.cons (o := ⟨some 88, .call { callee := .value (.func 165), args := #[.tmp 86, .tmp 87], argTypes := #[88, 63] }, 4, "device.go:182", #[⟨0, .data⟩, ⟨1, .data⟩], none⟩) rfl (fun K hK => ?_) AllReadyH.nil
  go_simp
  go_at_call 165
  refine NC.out.mono ?_
  rintro e wq1 ⟨rfl, kn⟩
  have k1 := ((Kept.refl [] wa).drew).trans kn
  have dd2 := FK.out _ k1
  clear kn
  refine hK.out _ _ dd2 (fun _ => ?_)
  clear hK K
  try simp only [Act.put, List.setIfInBounds_toArray, List.set_cons_zero, List.set_cons_succ]
  refine wpAnyH_take (i := 3) (oi := ⟨some 89, .move (.tmp 88), 4, "device.go:182", #[⟨2, .data⟩, ⟨2, .chain⟩], none⟩) (v := ?_) rfl (by kernel_rfl) (by kernel_rfl) (by kernel_rfl) (fun _ _ _ h => h) (Or.inl ⟨by rfl, ?_⟩) dd2 ?_
  rotate_left 1
  focus (intro w hSw; (try dsimp only at hSw); go_simp; try with_reducible rfl)
  try simp only [Act.put, List.setIfInBounds_toArray, List.set_cons_zero, List.set_cons_succ]
  refine wpAnyH_take (i := 4) (oi := ⟨some 90, .fieldAddr 63 (.tmp 3) 5, 0, "device.go:182", #[⟨3, .guard⟩], some (3, true)⟩) (v := ?_) rfl (by kernel_rfl) (by kernel_rfl) (by kernel_rfl) (fun _ _ _ h => h) (Or.inl ⟨by rfl, ?_⟩) dd2 ?_
  rotate_left 1
  focus (intro w hSw; (try dsimp only at hSw); go_simp; try with_reducible rfl)
  try simp only [Act.put, List.setIfInBounds_toArray, List.set_cons_zero, List.set_cons_succ]
  refine wpAnyH_take (i := 5) (oi := ⟨some 91, .load 36 (.tmp 90), 36, "device.go:182", #[⟨4, .data⟩, ⟨3, .guard⟩], some (3, true)⟩) (v := ?_) rfl (by kernel_rfl) (by kernel_rfl) (by kernel_rfl) (fun _ _ _ h => h) (Or.inl ⟨by rfl, ?_⟩) dd2 ?_
  rotate_left 1
  focus (intro w hSw; (try dsimp only at hSw); go_simp; try with_reducible rfl)
  try simp only [Act.put, List.setIfInBounds_toArray, List.set_cons_zero, List.set_cons_succ]
  refine wpAnyH_take (i := 6) (oi := ⟨some 92, .call { callee := .builtin .len, args := #[.tmp 91], argTypes := #[36] }, 3, "device.go:182", #[⟨5, .data⟩, ⟨3, .guard⟩], some (3, true)⟩) (v := ?_) rfl (by kernel_rfl) (by kernel_rfl) (by kernel_rfl) (fun _ _ _ h => h) (Or.inl ⟨by rfl, ?_⟩) dd2 ?_
  rotate_left 1
  focus (intro w hSw; (try dsimp only at hSw); go_simp; try with_reducible rfl)
  try simp only [Act.put, List.setIfInBounds_toArray, List.set_cons_zero, List.set_cons_succ]
  refine wpAnyH_take (i := 7) (oi := ⟨some 93, .move (.tmp 0), 88, "device.go:182", #[⟨3, .guard⟩], some (3, true)⟩) (v := ?_) rfl (by kernel_rfl) (by kernel_rfl) (by kernel_rfl) (fun _ _ _ h => h) (Or.inl ⟨by rfl, ?_⟩) dd2 ?_
  rotate_left 1
  focus (intro w hSw; (try dsimp only at hSw); go_simp; try with_reducible rfl)
  try simp only [Act.put, List.setIfInBounds_toArray, List.set_cons_zero, List.set_cons_succ]
  refine wpAnyH_take (i := 8) (oi := ⟨some 94, .nilCheck (.tmp 93), 0, "device.go:182", #[⟨7, .data⟩, ⟨3, .guard⟩], some (3, true)⟩) (v := ?_) rfl (by kernel_rfl) (by kernel_rfl) (by kernel_rfl) (fun _ _ _ h => h) (Or.inl ⟨by rfl, ?_⟩) dd2 ?_
  rotate_left 1
  focus (intro w hSw; (try dsimp only at hSw); go_simp; try with_reducible rfl)
  try simp only [Act.put, List.setIfInBounds_toArray, List.set_cons_zero, List.set_cons_succ]
  refine wpAnyH_take (i := 9) (oi := ⟨some 95, .fieldAddr 142 (.tmp 94) 0, 0, "device.go:182", #[⟨8, .data⟩, ⟨3, .guard⟩], some (3, true)⟩) (v := ?_) rfl (by kernel_rfl) (by kernel_rfl) (by kernel_rfl) (fun _ _ _ h => h) (Or.inl ⟨by rfl, ?_⟩) dd2 ?_
  rotate_left 1
  focus (intro w hSw; (try dsimp only at hSw); go_simp; try with_reducible rfl)
  try simp only [Act.put, List.setIfInBounds_toArray, List.set_cons_zero, List.set_cons_succ]
  refine wpAnyH_take (i := 10) (oi := ⟨some 96, .fieldAddr 50 (.tmp 95) 1, 0, "device.go:182", #[⟨9, .data⟩, ⟨3, .guard⟩], some (3, true)⟩) (v := ?_) rfl (by kernel_rfl) (by kernel_rfl) (by kernel_rfl) (fun _ _ _ h => h) (Or.inl ⟨by rfl, ?_⟩) dd2 ?_
  rotate_left 1
  focus (intro w hSw; (try dsimp only at hSw); go_simp; try with_reducible rfl)
  try simp only [Act.put, List.setIfInBounds_toArray, List.set_cons_zero, List.set_cons_succ]
  refine wpAnyH_take (i := 11) (oi := ⟨some 97, .load 3 (.tmp 96), 3, "device.go:182", #[⟨10, .data⟩, ⟨3, .guard⟩], some (3, true)⟩) (v := ?_) rfl (by kernel_rfl) (by kernel_rfl) (by kernel_rfl) (fun _ _ _ h => h) (Or.inl ⟨by rfl, ?_⟩) dd2 ?_
  rotate_left 1
  focus (intro w hSw; (try dsimp only at hSw); go_simp; try with_reducible rfl)
  try simp only [Act.put, List.setIfInBounds_toArray, List.set_cons_zero, List.set_cons_succ]
  refine wpAnyH_take (i := 12) (oi := ⟨some 98, .binOp .eql 3 (.tmp 92) (.tmp 97) 3, 4, "device.go:182", #[⟨6, .data⟩, ⟨11, .data⟩, ⟨3, .guard⟩], some (3, true)⟩) (v := ?_) rfl (by kernel_rfl) (by kernel_rfl) (by kernel_rfl) (fun _ _ _ h => h) (Or.inl ⟨by rfl, ?_⟩) dd2 ?_
  rotate_left 1
  focus (intro w hSw; (try dsimp only at hSw); go_simp; try with_reducible rfl)
  try simp only [Act.put, List.setIfInBounds_toArray, List.set_cons_zero, List.set_cons_succ]
  refine wpAnyH_take (i := 13) (oi := ⟨some 99, .pick (.tmp 89) (.tmp 98) (.const (.bool false)), 4, "device.go:182", #[⟨3, .data⟩, ⟨12, .data⟩], none⟩) (v := ?_) rfl (by kernel_rfl) (by kernel_rfl) (by kernel_rfl) (fun _ _ _ h => h) (Or.inl ⟨by rfl, ?_⟩) dd2 ?_
  rotate_left 1
  focus (intro w hSw; (try dsimp only at hSw); go_simp; try with_reducible rfl)
  try simp only [Act.put, List.setIfInBounds_toArray, List.set_cons_zero, List.set_cons_succ]
  refine wpAnyH_take (i := 14) (oi := ⟨some 100, .move (.tmp 99), 4, "device.go:182", #[⟨13, .data⟩, ⟨3, .chain⟩], none⟩) (v := ?_) rfl (by kernel_rfl) (by kernel_rfl) (by kernel_rfl) (fun _ _ _ h => h) (Or.inl ⟨by rfl, ?_⟩) dd2 ?_
  rotate_left 1
  focus (intro w hSw; (try dsimp only at hSw); go_simp; try with_reducible rfl)
  try simp only [Act.put, List.setIfInBounds_toArray, List.set_cons_zero, List.set_cons_succ]
  refine wpAnyH_take (i := 15) (oi := ⟨some 101, .fieldAddr 63 (.tmp 3) 3, 0, "device.go:182", #[⟨14, .guard⟩], some (14, true)⟩) (v := undef) rfl (by kernel_rfl) (by kernel_rfl) (by kernel_rfl) (fun _ _ _ h => h) (Or.inr ⟨by rfl, rfl⟩) dd2 ?_
  try simp only [Act.put, List.setIfInBounds_toArray, List.set_cons_zero, List.set_cons_succ]
  refine wpAnyH_take (i := 16) (oi := ⟨some 102, .load 24 (.tmp 101), 24, "device.go:182", #[⟨15, .data⟩, ⟨14, .guard⟩], some (14, true)⟩) (v := undef) rfl (by kernel_rfl) (by kernel_rfl) (by kernel_rfl) (fun _ _ _ h => h) (Or.inr ⟨by rfl, rfl⟩) dd2 ?_
  try simp only [Act.put, List.setIfInBounds_toArray, List.set_cons_zero, List.set_cons_succ]
  refine wpAnyH_take (i := 17) (oi := ⟨some 103, .move (.tmp 0), 88, "device.go:182", #[⟨14, .guard⟩], some (14, true)⟩) (v := undef) rfl (by kernel_rfl) (by kernel_rfl) (by kernel_rfl) (fun _ _ _ h => h) (Or.inr ⟨by rfl, rfl⟩) dd2 ?_
  try simp only [Act.put, List.setIfInBounds_toArray, List.set_cons_zero, List.set_cons_succ]
  refine wpAnyH_take (i := 18) (oi := ⟨some 104, .nilCheck (.tmp 103), 0, "device.go:182", #[⟨17, .data⟩, ⟨14, .guard⟩], some (14, true)⟩) (v := undef) rfl (by kernel_rfl) (by kernel_rfl) (by kernel_rfl) (fun _ _ _ h => h) (Or.inr ⟨by rfl, rfl⟩) dd2 ?_
  try simp only [Act.put, List.setIfInBounds_toArray, List.set_cons_zero, List.set_cons_succ]
  refine wpAnyH_take (i := 19) (oi := ⟨some 105, .fieldAddr 142 (.tmp 104) 0, 0, "device.go:182", #[⟨18, .data⟩, ⟨14, .guard⟩], some (14, true)⟩) (v := undef) rfl (by kernel_rfl) (by kernel_rfl) (by kernel_rfl) (fun _ _ _ h => h) (Or.inr ⟨by rfl, rfl⟩) dd2 ?_
  try simp only [Act.put, List.setIfInBounds_toArray, List.set_cons_zero, List.set_cons_succ]
  refine wpAnyH_take (i := 20) (oi := ⟨some 106, .fieldAddr 50 (.tmp 105) 4, 0, "device.go:182", #[⟨19, .data⟩, ⟨14, .guard⟩], some (14, true)⟩) (v := undef) rfl (by kernel_rfl) (by kernel_rfl) (by kernel_rfl) (fun _ _ _ h => h) (Or.inr ⟨by rfl, rfl⟩) dd2 ?_
  try simp only [Act.put, List.setIfInBounds_toArray, List.set_cons_zero, List.set_cons_succ]
  refine wpAnyH_take (i := 21) (oi := ⟨some 107, .load 24 (.tmp 106), 24, "device.go:182", #[⟨20, .data⟩, ⟨14, .guard⟩], some (14, true)⟩) (v := undef) rfl (by kernel_rfl) (by kernel_rfl) (by kernel_rfl) (fun _ _ _ h => h) (Or.inr ⟨by rfl, rfl⟩) dd2 ?_
  try simp only [Act.put, List.setIfInBounds_toArray, List.set_cons_zero, List.set_cons_succ]
  refine wpAnyH_take (i := 22) (oi := ⟨some 108, .binOp .lss 24 (.tmp 102) (.tmp 107) 24, 4, "device.go:182", #[⟨16, .data⟩, ⟨21, .data⟩, ⟨14, .guard⟩], some (14, true)⟩) (v := undef) rfl (by kernel_rfl) (by kernel_rfl) (by kernel_rfl) (fun _ _ _ h => h) (Or.inr ⟨by rfl, rfl⟩) dd2 ?_
  try simp only [Act.put, List.setIfInBounds_toArray, List.set_cons_zero, List.set_cons_succ]
  refine wpAnyH_take (i := 23) (oi := ⟨some 109, .pick (.tmp 100) (.tmp 108) (.const (.bool false)), 4, "device.go:182", #[⟨14, .data⟩, ⟨22, .data⟩], none⟩) (v := ?_) rfl (by kernel_rfl) (by kernel_rfl) (by kernel_rfl) (fun _ _ _ h => h) (Or.inl ⟨by rfl, ?_⟩) dd2 ?_
  rotate_left 1
  focus (intro w hSw; (try dsimp only at hSw); go_simp; try with_reducible rfl)
  try simp only [Act.put, List.setIfInBounds_toArray, List.set_cons_zero, List.set_cons_succ]
  refine wpAnyH_done (by kernel_rfl) ?_ _
  clear dd dd2
  obtain ⟨f1, f4, f11, f12, f13, y0, y1, y2, y3, y4, y5⟩ := FK.out _ k1
  go_wp2_with fail
  clear f1 f4 f11 f12 f13 y0 y1 y2 y3 y4 y5
  have KM := hid k1
  have HM := hid (HA.out.nil k1)
  have UM := hid (k1.has UA.out (by simp))
  have DM := hid (DA.out.kept k1 (by simp))
  have KQ := hid (KG.nil (G := G) (KA.out.trans k1))
  have HGM := hid (HG.out.kg KQ.out)
  clear k1
  refine (odds_call HX.out 130 HGM.out HM.out).mono ?_
  rintro e w5 ⟨f, rfl, k5, h5, f5⟩
  have K5 := hid (kgM (m := m) (mb := mb) (KQ.out.trans k5))
  have H5 := hid h5.dev
  have F5 := hid (FrameOf.after KQ.out.size f5)
  clear k5 h5 f5
  obtain ⟨p5, l5, n5, rfl⟩ := DevC.FrameOf.shape F5.out
  go_wp2_with fail
  go_ret2
  exact ⟨_, rfl, K5.out, H5.out, F5.out⟩
set_option maxRecDepth 100000 in
set_option maxHeartbeats 1600000 in
theorem take4c (hx : DOk x) (hG : Opn G w) (h : DAt G w b d v g o lg k c m mb s x) (u : U) (vd : Value) (hd : Bytes w vd u.data) (hb : By u.data) (h1 : u.kind = 4) (h2 : x.next u) (h3 : (u.data.length : Int) = x.p.out) (h4 : ¬ u.num < x.p.count) :
    Calls Tryz.prog 134 #[.pointer (some ⟨b, 0, none⟩), uval u vd] w fun e w' => Rep G w w' b m mb e (x.odds 130) := by
  obtain ⟨dp, dc, rfl, hdc⟩ := sl_shape hd
  have HH := hid h
  have HX := hid hx
  have HG := hid hG
  have HD := hid hd
  have HB := hid hb
  have hlt := h.top.lt
  have KA := hid ((Kept.refl [] w).alloc (.cells #[.int .i64 u.kind, .int .u32 u.code, .int .u32 u.ses, .int .u32 u.num, .int .i64 u.flags, .slice dp u.data.length dc] 63))
  have UA := hid (Has.new w 63 [.int .i64 u.kind, .int .u32 u.code, .int .u32 u.ses, .int .u32 u.num, .int .i64 u.flags, .slice dp u.data.length dc])
  have Xh1 := hid h1
  have Xh2 := hid h2
  have Xh3 := hid h3
  have Xh4 := hid h4
  have e0 : (u.kind == 1) = false := by simp [h1]
  have e1 : (u.kind == 2) = false := by simp [h1]
  have e2 : (u.kind == 3) = false := by simp [h1]
  have e3 : (u.kind == 4) = true := by simp [h1]
  have e4 : ((u.data.length : Int) == x.p.out) = true := by simp [h3]
  have e5 : decide (u.num < x.p.count) = false := by simp; omega
  clear h hx hG hd hb h1 h2 h3 h4
  unfold uval
  go_enter Tryz.func134, Tryz.ntmps134
  go_wp2_with fail
  have HA := hid (HH.out.nil KA.out)
  have DA := hid (HD.out.kept KA.out (by simp))
  generalize w.alloc (.cells #[.int .i64 u.kind, .int .u32 u.code, .int .u32 u.ses, .int .u32 u.num, .int .i64 u.flags, .slice dp u.data.length dc] 63) = wa at KA UA HA DA ⊢
  obtain ⟨R, hR⟩ : ∃ R, R = w.heap.size := ⟨_, rfl⟩
  rw [← hR] at UA ⊢
  have RR := hid (Nat.le_of_eq hR.symm)
  clear hR hlt
  have FK := hid (fkT HA UA)
  have k0 := Kept.refl [] wa
  have NC := hid (next_call HX.out (HG.out.kg (KG.nil (G := G) KA.out.drew)) (HA.out.nil ((Kept.refl [] wa).drew)) u (.slice dp u.data.length dc) (DA.out.kept ((Kept.refl [] wa).drew) (by simp)) HB.out)
  rw [show decide (x.next u) = true by simpa using Xh2.out] at NC
  unfold uval at NC
  have dd := FK.out _ ((Kept.refl [] wa).drew)
  clear k0
  go_region_held3 (fun w' => w'.cell? ⟨b, 1, none⟩ = some (.int .i64 x.p.out) ∧ w'.cell? ⟨b, 4, none⟩ = some (.int .u32 x.p.count) ∧ w'.cell? ⟨b, 11, none⟩ = some (.int .i64 x.state) ∧ w'.cell? ⟨b, 12, none⟩ = some (.int .u32 x.ses) ∧ w'.cell? ⟨b, 13, none⟩ = some (.int .u32 x.num) ∧ w'.cell? ⟨R, 0, none⟩ = some (.int .i64 u.kind) ∧ w'.cell? ⟨R, 1, none⟩ = some (.int .u32 u.code) ∧ w'.cell? ⟨R, 2, none⟩ = some (.int .u32 u.ses) ∧ w'.cell? ⟨R, 3, none⟩ = some (.int .u32 u.num) ∧ w'.cell? ⟨R, 4, none⟩ = some (.int .i64 u.flags) ∧ w'.cell? ⟨R, 5, none⟩ = some (.slice dp u.data.length dc)) (with_reducible assumption) ((go_at_call 165; with_reducible refine NC.out.mono ?_; rintro e wq1 ⟨rfl, kn⟩; have k1 := ((Kept.refl [] wa).drew).trans kn; have dd2 := FK.out _ k1; clear kn))
  clear dd dd2
  obtain ⟨f1, f4, f11, f12, f13, y0, y1, y2, y3, y4, y5⟩ := FK.out _ k1
  go_wp2_with fail
  clear f1 f4 f11 f12 f13 y0 y1 y2 y3 y4 y5
  have KM := hid k1
  have HM := hid (HA.out.nil k1)
  have UM := hid (k1.has UA.out (by simp))
  have DM := hid (DA.out.kept k1 (by simp))
  have KQ := hid (KG.nil (G := G) (KA.out.trans k1))
  have HGM := hid (HG.out.kg KQ.out)
  clear k1
  refine (odds_call HX.out 130 HGM.out HM.out).mono ?_
  rintro e w5 ⟨f, rfl, k5, h5, f5⟩
  have K5 := hid (kgM (m := m) (mb := mb) (KQ.out.trans k5))
  have H5 := hid h5.dev
  have F5 := hid (FrameOf.after KQ.out.size f5)
  clear k5 h5 f5
  obtain ⟨p5, l5, n5, rfl⟩ := DevC.FrameOf.shape F5.out
  go_wp2_with fail
  go_ret2
  exact ⟨_, rfl, K5.out, H5.out, F5.out⟩
set_option maxRecDepth 100000 in
set_option maxHeartbeats 1600000 in
theorem take4y (hx : DOk x) (hG : Opn G w) (h : DAt G w b d v g o lg k c m mb s x) (u : U) (vd : Value) (hd : Bytes w vd u.data) (hb : By u.data) (h1 : u.kind = 4) (h2 : x.next u) (h3 : (u.data.length : Int) = x.p.out) (h4 : u.num < x.p.count) (hfl : 0 ≤ u.flags ∧ u.flags ≤ 15) (hnd : ∀ b' off n c, vd = .slice (some ⟨b', off, none⟩) n c → u.data ≠ [] → ¬ G b') :
    Calls Tryz.prog 134 #[.pointer (some ⟨b, 0, none⟩), uval u vd] w fun e w' => Rep G w w' b m mb e (x.fed u) := by
  obtain ⟨dp, dc, rfl, hdc⟩ := sl_shape hd
  have HH := hid h
  have HX := hid hx
  have HG := hid hG
  have HD := hid hd
  have HB := hid hb
  have hlt := h.top.lt
  have KA := hid ((Kept.refl [] w).alloc (.cells #[.int .i64 u.kind, .int .u32 u.code, .int .u32 u.ses, .int .u32 u.num, .int .i64 u.flags, .slice dp u.data.length dc] 63))
  have UA := hid (Has.new w 63 [.int .i64 u.kind, .int .u32 u.code, .int .u32 u.ses, .int .u32 u.num, .int .i64 u.flags, .slice dp u.data.length dc])
  have Xh1 := hid h1
  have Xh2 := hid h2
  have Xh3 := hid h3
  have Xh4 := hid h4
  have Xhfl := hid hfl
  have Xhnd := hid hnd
  have e0 : (u.kind == 1) = false := by simp [h1]
  have e1 : (u.kind == 2) = false := by simp [h1]
  have e2 : (u.kind == 3) = false := by simp [h1]
  have e3 : (u.kind == 4) = true := by simp [h1]
  have e4 : ((u.data.length : Int) == x.p.out) = true := by simp [h3]
  have e5 : decide (u.num < x.p.count) = true := by simp; omega
  clear h hx hG hd hb h1 h2 h3 h4 hfl hnd
  unfold uval
  go_enter Tryz.func134, Tryz.ntmps134
  go_wp2_with fail
  have HA := hid (HH.out.nil KA.out)
  have DA := hid (HD.out.kept KA.out (by simp))
  generalize w.alloc (.cells #[.int .i64 u.kind, .int .u32 u.code, .int .u32 u.ses, .int .u32 u.num, .int .i64 u.flags, .slice dp u.data.length dc] 63) = wa at KA UA HA DA ⊢
  obtain ⟨R, hR⟩ : ∃ R, R = w.heap.size := ⟨_, rfl⟩
  rw [← hR] at UA ⊢
  have RR := hid (Nat.le_of_eq hR.symm)
  clear hR hlt
  have FK := hid (fkT HA UA)
  have k0 := Kept.refl [] wa
  have NC := hid (next_call HX.out (HG.out.kg (KG.nil (G := G) KA.out.drew)) (HA.out.nil ((Kept.refl [] wa).drew)) u (.slice dp u.data.length dc) (DA.out.kept ((Kept.refl [] wa).drew) (by simp)) HB.out)
  rw [show decide (x.next u) = true by simpa using Xh2.out] at NC
  unfold uval at NC
  have dd := FK.out _ ((Kept.refl [] wa).drew)
  clear k0
  go_region_held3 (fun w' => w'.cell? ⟨b, 1, none⟩ = some (.int .i64 x.p.out) ∧ w'.cell? ⟨b, 4, none⟩ = some (.int .u32 x.p.count) ∧ w'.cell? ⟨b, 11, none⟩ = some (.int .i64 x.state) ∧ w'.cell? ⟨b, 12, none⟩ = some (.int .u32 x.ses) ∧ w'.cell? ⟨b, 13, none⟩ = some (.int .u32 x.num) ∧ w'.cell? ⟨R, 0, none⟩ = some (.int .i64 u.kind) ∧ w'.cell? ⟨R, 1, none⟩ = some (.int .u32 u.code) ∧ w'.cell? ⟨R, 2, none⟩ = some (.int .u32 u.ses) ∧ w'.cell? ⟨R, 3, none⟩ = some (.int .u32 u.num) ∧ w'.cell? ⟨R, 4, none⟩ = some (.int .i64 u.flags) ∧ w'.cell? ⟨R, 5, none⟩ = some (.slice dp u.data.length dc)) (with_reducible assumption) ((go_at_call 165; with_reducible refine NC.out.mono ?_; rintro e wq1 ⟨rfl, kn⟩; have k1 := ((Kept.refl [] wa).drew).trans kn; have dd2 := FK.out _ k1; clear kn))
  clear dd dd2
  obtain ⟨f1, f4, f11, f12, f13, y0, y1, y2, y3, y4, y5⟩ := FK.out _ k1
  go_wp2_with fail
  clear f1 f4 f11 f12 f13 y0 y1 y2 y3 y4 y5
  have KM := hid k1
  have HM := hid (HA.out.nil k1)
  have UM := hid (k1.has UA.out (by simp))
  have DM := hid (DA.out.kept k1 (by simp))
  have KQ := hid (KG.nil (G := G) (KA.out.trans k1))
  have HGM := hid (HG.out.kg KQ.out)
  clear k1
  have AC := hid (fed_call HX.out HGM.out HM.out u (.slice dp u.data.length dc) DM.out HB.out Xhfl.out Xhnd.out Xh2.out.1 Xh3.out Xh2.out.2.2 Xh4.out)
  unfold uval at AC
  refine AC.out.mono ?_
  rintro e w5 ⟨f, rfl, k5, h5, f5⟩
  have K5 := hid (KG.trans (kgM (m := m) (mb := mb) KQ.out) k5)
  have H5 := hid h5
  have F5 := hid (FrameOf.after KQ.out.size f5)
  clear k5 h5 f5
  obtain ⟨p5, l5, n5, rfl⟩ := DevC.FrameOf.shape F5.out
  go_wp2_with fail
  go_ret2
  exact ⟨_, rfl, K5.out, H5.out, F5.out⟩
set_option maxRecDepth 100000 in
set_option maxHeartbeats 1600000 in
theorem take5n (hx : DOk x) (hG : Opn G w) (h : DAt G w b d v g o lg k c m mb s x) (u : U) (vd : Value) (hd : Bytes w vd u.data) (hb : By u.data) (h1 : u.kind = 5) (h2 : ¬ x.next u) :
    Calls Tryz.prog 134 #[.pointer (some ⟨b, 0, none⟩), uval u vd] w fun e w' => Rep G w w' b m mb e (x.odds 130) := by
  obtain ⟨dp, dc, rfl, hdc⟩ := sl_shape hd
  have HH := hid h
  have HX := hid hx
  have HG := hid hG
  have HD := hid hd
  have HB := hid hb
  have hlt := h.top.lt
  have KA := hid ((Kept.refl [] w).alloc (.cells #[.int .i64 u.kind, .int .u32 u.code, .int .u32 u.ses, .int .u32 u.num, .int .i64 u.flags, .slice dp u.data.length dc] 63))
  have UA := hid (Has.new w 63 [.int .i64 u.kind, .int .u32 u.code, .int .u32 u.ses, .int .u32 u.num, .int .i64 u.flags, .slice dp u.data.length dc])
  have Xh1 := hid h1
  have Xh2 := hid h2
  have e0 : (u.kind == 1) = false := by simp [h1]
  have e1 : (u.kind == 2) = false := by simp [h1]
  have e2 : (u.kind == 3) = false := by simp [h1]
  have e3 : (u.kind == 4) = false := by simp [h1]
  have e4 : (u.kind == 5) = true := by simp [h1]
  clear h hx hG hd hb h1 h2
  unfold uval
  go_enter Tryz.func134, Tryz.ntmps134
  go_wp2_with fail
  have HA := hid (HH.out.nil KA.out)
  have DA := hid (HD.out.kept KA.out (by simp))
  generalize w.alloc (.cells #[.int .i64 u.kind, .int .u32 u.code, .int .u32 u.ses, .int .u32 u.num, .int .i64 u.flags, .slice dp u.data.length dc] 63) = wa at KA UA HA DA ⊢
  obtain ⟨R, hR⟩ : ∃ R, R = w.heap.size := ⟨_, rfl⟩
  rw [← hR] at UA ⊢
  have RR := hid (Nat.le_of_eq hR.symm)
  clear hR hlt
  have FK := hid (fkT HA UA)
  have k0 := Kept.refl [] wa
  have NC := hid (next_call HX.out (HG.out.kg (KG.nil (G := G) KA.out.drew)) (HA.out.nil ((Kept.refl [] wa).drew)) u (.slice dp u.data.length dc) (DA.out.kept ((Kept.refl [] wa).drew) (by simp)) HB.out)
  rw [show decide (x.next u) = false by simpa using Xh2.out] at NC
  unfold uval at NC
  have dd := FK.out _ ((Kept.refl [] wa).drew)
  clear k0
  refine wp_region_held_drew (S := fun w' => w'.cell? ⟨b, 1, none⟩ = some (.int .i64 x.p.out) ∧ w'.cell? ⟨b, 4, none⟩ = some (.int .u32 x.p.count) ∧ w'.cell? ⟨b, 11, none⟩ = some (.int .i64 x.state) ∧ w'.cell? ⟨b, 12, none⟩ = some (.int .u32 x.ses) ∧ w'.cell? ⟨b, 13, none⟩ = some (.int .u32 x.num) ∧ w'.cell? ⟨R, 0, none⟩ = some (.int .i64 u.kind) ∧ w'.cell? ⟨R, 1, none⟩ = some (.int .u32 u.code) ∧ w'.cell? ⟨R, 2, none⟩ = some (.int .u32 u.ses) ∧ w'.cell? ⟨R, 3, none⟩ = some (.int .u32 u.num) ∧ w'.cell? ⟨R, 4, none⟩ = some (.int .i64 u.flags) ∧ w'.cell? ⟨R, 5, none⟩ = some (.slice dp u.data.length dc)) (by kernel_rfl) dd (fun hHeld => ?_)
  refine wpAnyH_take (i := 0) (oi := ⟨some 117, .move (.tmp 0), 88, "device.go:186", #[], none⟩) (v := ?_) rfl (by kernel_rfl) (by kernel_rfl) (by kernel_rfl) (fun _ _ _ h => h) (Or.inl ⟨by rfl, ?_⟩) dd ?_
  rotate_left 1
  focus (intro w hSw; (try dsimp only at hSw); go_simp; try with_reducible rfl)
  try simp only [Act.put, List.setIfInBounds_toArray, List.set_cons_zero, List.set_cons_succ]
  refine wpAnyH_take (i := 1) (oi := ⟨some 118, .load 63 (.tmp 3), 63, "device.go:186", #[], none⟩) (v := ?_) rfl (by kernel_rfl) (by kernel_rfl) (by kernel_rfl) (fun _ _ _ h => h) (Or.inl ⟨by rfl, ?_⟩) dd ?_
  rotate_left 1
  focus (intro w hSw; (try dsimp only at hSw); go_simp; try with_reducible rfl)
  try simp only [Act.put, List.setIfInBounds_toArray, List.set_cons_zero, List.set_cons_succ]
  refine wpAnyH_ready (rs := [2]) (by kernel_rfl) (by simp) ?_
  refine AllReadyH.cons (o := ⟨some 119, .call { callee := .value (.func 165), args := #[.tmp 117, .tmp 118], argTypes := #[88, 63] }, 4, "device.go:186", #[⟨0, .data⟩, ⟨1, .data⟩], none⟩) rfl (fun K hK => ?_) AllReadyH.nil
  go_simp
  go_at_call 165
  refine NC.out.mono ?_
  rintro e wq1 ⟨rfl, kn⟩
  have k1 := ((Kept.refl [] wa).drew).trans kn
  have dd2 := FK.out _ k1
  clear kn
  refine hK.out _ _ dd2 (fun _ => ?_)
  clear hK K
  try simp only [Act.put, List.setIfInBounds_toArray, List.set_cons_zero, List.set_cons_succ]
  refine wpAnyH_take (i := 3) (oi := ⟨some 120, .move (.tmp 119), 4, "device.go:186", #[⟨2, .data⟩, ⟨2, .chain⟩], none⟩) (v := ?_) rfl (by kernel_rfl) (by kernel_rfl) (by kernel_rfl) (fun _ _ _ h => h) (Or.inl ⟨by rfl, ?_⟩) dd2 ?_
  rotate_left 1
  focus (intro w hSw; (try dsimp only at hSw); go_simp; try with_reducible rfl)
  try simp only [Act.put, List.setIfInBounds_toArray, List.set_cons_zero, List.set_cons_succ]
  refine wpAnyH_take (i := 4) (oi := ⟨some 121, .fieldAddr 63 (.tmp 3) 3, 0, "device.go:186", #[⟨3, .guard⟩], some (3, true)⟩) (v := undef) rfl (by kernel_rfl) (by kernel_rfl) (by kernel_rfl) (fun _ _ _ h => h) (Or.inr ⟨by rfl, rfl⟩) dd2 ?_
  try simp only [Act.put, List.setIfInBounds_toArray, List.set_cons_zero, List.set_cons_succ]
  refine wpAnyH_take (i := 5) (oi := ⟨some 122, .load 24 (.tmp 121), 24, "device.go:186", #[⟨4, .data⟩, ⟨3, .guard⟩], some (3, true)⟩) (v := undef) rfl (by kernel_rfl) (by kernel_rfl) (by kernel_rfl) (fun _ _ _ h => h) (Or.inr ⟨by rfl, rfl⟩) dd2 ?_
  try simp only [Act.put, List.setIfInBounds_toArray, List.set_cons_zero, List.set_cons_succ]
  refine wpAnyH_take (i := 6) (oi := ⟨some 123, .move (.tmp 0), 88, "device.go:186", #[⟨3, .guard⟩], some (3, true)⟩) (v := undef) rfl (by kernel_rfl) (by kernel_rfl) (by kernel_rfl) (fun _ _ _ h => h) (Or.inr ⟨by rfl, rfl⟩) dd2 ?_
  try simp only [Act.put, List.setIfInBounds_toArray, List.set_cons_zero, List.set_cons_succ]
  refine wpAnyH_take (i := 7) (oi := ⟨some 124, .nilCheck (.tmp 123), 0, "device.go:186", #[⟨6, .data⟩, ⟨3, .guard⟩], some (3, true)⟩) (v := undef) rfl (by kernel_rfl) (by kernel_rfl) (by kernel_rfl) (fun _ _ _ h => h) (Or.inr ⟨by rfl, rfl⟩) dd2 ?_
  try simp only [Act.put, List.setIfInBounds_toArray, List.set_cons_zero, List.set_cons_succ]
  refine wpAnyH_take (i := 8) (oi := ⟨some 125, .fieldAddr 142 (.tmp 124) 0, 0, "device.go:186", #[⟨7, .data⟩, ⟨3, .guard⟩], some (3, true)⟩) (v := undef) rfl (by kernel_rfl) (by kernel_rfl) (by kernel_rfl) (fun _ _ _ h => h) (Or.inr ⟨by rfl, rfl⟩) dd2 ?_
  try simp only [Act.put, List.setIfInBounds_toArray, List.set_cons_zero, List.set_cons_succ]
  refine wpAnyH_take (i := 9) (oi := ⟨some 126, .fieldAddr 50 (.tmp 125) 4, 0, "device.go:186", #[⟨8, .data⟩, ⟨3, .guard⟩], some (3, true)⟩) (v := undef) rfl (by kernel_rfl) (by kernel_rfl) (by kernel_rfl) (fun _ _ _ h => h) (Or.inr ⟨by rfl, rfl⟩) dd2 ?_
  try simp only [Act.put, List.setIfInBounds_toArray, List.set_cons_zero, List.set_cons_succ]
  refine wpAnyH_take (i := 10) (oi := ⟨some 127, .load 24 (.tmp 126), 24, "device.go:186", #[⟨9, .data⟩, ⟨3, .guard⟩], some (3, true)⟩) (v := undef) rfl (by kernel_rfl) (by kernel_rfl) (by kernel_rfl) (fun _ _ _ h => h) (Or.inr ⟨by rfl, rfl⟩) dd2 ?_
  try simp only [Act.put, List.setIfInBounds_toArray, List.set_cons_zero, List.set_cons_succ]
  refine wpAnyH_take (i := 11) (oi := ⟨some 128, .binOp .eql 24 (.tmp 122) (.tmp 127) 24, 4, "device.go:186", #[⟨5, .data⟩, ⟨10, .data⟩, ⟨3, .guard⟩], some (3, true)⟩) (v := undef) rfl (by kernel_rfl) (by kernel_rfl) (by kernel_rfl) (fun _ _ _ h => h) (Or.inr ⟨by rfl, rfl⟩) dd2 ?_
  try simp only [Act.put, List.setIfInBounds_toArray, List.set_cons_zero, List.set_cons_succ]
  refine wpAnyH_take (i := 12) (oi := ⟨some 129, .pick (.tmp 120) (.tmp 128) (.const (.bool false)), 4, "device.go:186", #[⟨3, .data⟩, ⟨11, .data⟩], none⟩) (v := ?_) rfl (by kernel_rfl) (by kernel_rfl) (by kernel_rfl) (fun _ _ _ h => h) (Or.inl ⟨by rfl, ?_⟩) dd2 ?_
  rotate_left 1
  focus (intro w hSw; (try dsimp only at hSw); go_simp; try with_reducible rfl)
  try simp only [Act.put, List.setIfInBounds_toArray, List.set_cons_zero, List.set_cons_succ]
  refine wpAnyH_done (by kernel_rfl) ?_ _
  clear dd dd2
  obtain ⟨f1, f4, f11, f12, f13, y0, y1, y2, y3, y4, y5⟩ := FK.out _ k1
  go_wp2_with fail
  clear f1 f4 f11 f12 f13 y0 y1 y2 y3 y4 y5
  have KM := hid k1
  have HM := hid (HA.out.nil k1)
  have UM := hid (k1.has UA.out (by simp))
  have DM := hid (DA.out.kept k1 (by simp))
  have KQ := hid (KG.nil (G := G) (KA.out.trans k1))
  have HGM := hid (HG.out.kg KQ.out)
  clear k1
  refine (odds_call HX.out 130 HGM.out HM.out).mono ?_
  rintro e w5 ⟨f, rfl, k5, h5, f5⟩
  have K5 := hid (kgM (m := m) (mb := mb) (KQ.out.trans k5))
  have H5 := hid h5.dev
  have F5 := hid (FrameOf.after KQ.out.size f5)
  clear k5 h5 f5
  obtain ⟨p5, l5, n5, rfl⟩ := DevC.FrameOf.shape F5.out
  go_wp2_with fail
  go_ret2
  exact ⟨_, rfl, K5.out, H5.out, F5.out⟩
set_option maxRecDepth 100000 in
set_option maxHeartbeats 1600000 in
theorem take5c (hx : DOk x) (hG : Opn G w) (h : DAt G w b d v g o lg k c m mb s x) (u : U) (vd : Value) (hd : Bytes w vd u.data) (hb : By u.data) (h1 : u.kind = 5) (h2 : x.next u) (h3 : u.num ≠ x.p.count) :
    Calls Tryz.prog 134 #[.pointer (some ⟨b, 0, none⟩), uval u vd] w fun e w' => Rep G w w' b m mb e (x.odds 130) := by
  obtain ⟨dp, dc, rfl, hdc⟩ := sl_shape hd
  have HH := hid h
  have HX := hid hx
  have HG := hid hG
  have HD := hid hd
  have HB := hid hb
  have hlt := h.top.lt
  have KA := hid ((Kept.refl [] w).alloc (.cells #[.int .i64 u.kind, .int .u32 u.code, .int .u32 u.ses, .int .u32 u.num, .int .i64 u.flags, .slice dp u.data.length dc] 63))
  have UA := hid (Has.new w 63 [.int .i64 u.kind, .int .u32 u.code, .int .u32 u.ses, .int .u32 u.num, .int .i64 u.flags, .slice dp u.data.length dc])
  have Xh1 := hid h1
  have Xh2 := hid h2
  have Xh3 := hid h3
  have e0 : (u.kind == 1) = false := by simp [h1]
  have e1 : (u.kind == 2) = false := by simp [h1]
  have e2 : (u.kind == 3) = false := by simp [h1]
  have e3 : (u.kind == 4) = false := by simp [h1]
  have e4 : (u.kind == 5) = true := by simp [h1]
  have e5 : (u.num == x.p.count) = false := by simp [h3]
  clear h hx hG hd hb h1 h2 h3
  unfold uval
  go_enter Tryz.func134, Tryz.ntmps134
  go_wp2_with fail
  have HA := hid (HH.out.nil KA.out)
  have DA := hid (HD.out.kept KA.out (by simp))
  generalize w.alloc (.cells #[.int .i64 u.kind, .int .u32 u.code, .int .u32 u.ses, .int .u32 u.num, .int .i64 u.flags, .slice dp u.data.length dc] 63) = wa at KA UA HA DA ⊢
  obtain ⟨R, hR⟩ : ∃ R, R = w.heap.size := ⟨_, rfl⟩
  rw [← hR] at UA ⊢
  have RR := hid (Nat.le_of_eq hR.symm)
  clear hR hlt
  have FK := hid (fkT HA UA)
  have k0 := Kept.refl [] wa
  have NC := hid (next_call HX.out (HG.out.kg (KG.nil (G := G) KA.out.drew)) (HA.out.nil ((Kept.refl [] wa).drew)) u (.slice dp u.data.length dc) (DA.out.kept ((Kept.refl [] wa).drew) (by simp)) HB.out)
  rw [show decide (x.next u) = true by simpa using Xh2.out] at NC
  unfold uval at NC
  have dd := FK.out _ ((Kept.refl [] wa).drew)
  clear k0
  go_region_held3 (fun w' => w'.cell? ⟨b, 1, none⟩ = some (.int .i64 x.p.out) ∧ w'.cell? ⟨b, 4, none⟩ = some (.int .u32 x.p.count) ∧ w'.cell? ⟨b, 11, none⟩ = some (.int .i64 x.state) ∧ w'.cell? ⟨b, 12, none⟩ = some (.int .u32 x.ses) ∧ w'.cell? ⟨b, 13, none⟩ = some (.int .u32 x.num) ∧ w'.cell? ⟨R, 0, none⟩ = some (.int .i64 u.kind) ∧ w'.cell? ⟨R, 1, none⟩ = some (.int .u32 u.code) ∧ w'.cell? ⟨R, 2, none⟩ = some (.int .u32 u.ses) ∧ w'.cell? ⟨R, 3, none⟩ = some (.int .u32 u.num) ∧ w'.cell? ⟨R, 4, none⟩ = some (.int .i64 u.flags) ∧ w'.cell? ⟨R, 5, none⟩ = some (.slice dp u.data.length dc)) (with_reducible assumption) ((go_at_call 165; with_reducible refine NC.out.mono ?_; rintro e wq1 ⟨rfl, kn⟩; have k1 := ((Kept.refl [] wa).drew).trans kn; have dd2 := FK.out _ k1; clear kn))
  clear dd dd2
  obtain ⟨f1, f4, f11, f12, f13, y0, y1, y2, y3, y4, y5⟩ := FK.out _ k1
  go_wp2_with fail
  clear f1 f4 f11 f12 f13 y0 y1 y2 y3 y4 y5
  have KM := hid k1
  have HM := hid (HA.out.nil k1)
  have UM := hid (k1.has UA.out (by simp))
  have DM := hid (DA.out.kept k1 (by simp))
  have KQ := hid (KG.nil (G := G) (KA.out.trans k1))
  have HGM := hid (HG.out.kg KQ.out)
  clear k1
  refine (odds_call HX.out 130 HGM.out HM.out).mono ?_
  rintro e w5 ⟨f, rfl, k5, h5, f5⟩
  have K5 := hid (kgM (m := m) (mb := mb) (KQ.out.trans k5))
  have H5 := hid h5.dev
  have F5 := hid (FrameOf.after KQ.out.size f5)
  clear k5 h5 f5
  obtain ⟨p5, l5, n5, rfl⟩ := DevC.FrameOf.shape F5.out
  go_wp2_with fail
  go_ret2
  exact ⟨_, rfl, K5.out, H5.out, F5.out⟩
set_option maxRecDepth 100000 in
set_option maxHeartbeats 1600000 in
theorem take5y (hx : DOk x) (hG : Opn G w) (h : DAt G w b d v g o lg k c m mb s x) (u : U) (vd : Value) (hd : Bytes w vd u.data) (hb : By u.data) (h1 : u.kind = 5) (h2 : x.next u) (h3 : u.num = x.p.count) :
    Calls Tryz.prog 134 #[.pointer (some ⟨b, 0, none⟩), uval u vd] w fun e w' => Rep G w w' b m mb e (x.ended u) := by
  obtain ⟨dp, dc, rfl, hdc⟩ := sl_shape hd
  have HH := hid h
  have HX := hid hx
  have HG := hid hG
  have HD := hid hd
  have HB := hid hb
  have hlt := h.top.lt
  have KA := hid ((Kept.refl [] w).alloc (.cells #[.int .i64 u.kind, .int .u32 u.code, .int .u32 u.ses, .int .u32 u.num, .int .i64 u.flags, .slice dp u.data.length dc] 63))
  have UA := hid (Has.new w 63 [.int .i64 u.kind, .int .u32 u.code, .int .u32 u.ses, .int .u32 u.num, .int .i64 u.flags, .slice dp u.data.length dc])
  have Xh1 := hid h1
  have Xh2 := hid h2
  have Xh3 := hid h3
  have e0 : (u.kind == 1) = false := by simp [h1]
  have e1 : (u.kind == 2) = false := by simp [h1]
  have e2 : (u.kind == 3) = false := by simp [h1]
  have e3 : (u.kind == 4) = false := by simp [h1]
  have e4 : (u.kind == 5) = true := by simp [h1]
  have e5 : (u.num == x.p.count) = true := by simp [h3]
  clear h hx hG hd hb h1 h2 h3
  unfold uval
  go_enter Tryz.func134, Tryz.ntmps134
  go_wp2_with fail
  have HA := hid (HH.out.nil KA.out)
  have DA := hid (HD.out.kept KA.out (by simp))
  generalize w.alloc (.cells #[.int .i64 u.kind, .int .u32 u.code, .int .u32 u.ses, .int .u32 u.num, .int .i64 u.flags, .slice dp u.data.length dc] 63) = wa at KA UA HA DA ⊢
  obtain ⟨R, hR⟩ : ∃ R, R = w.heap.size := ⟨_, rfl⟩
  rw [← hR] at UA ⊢
  have RR := hid (Nat.le_of_eq hR.symm)
  clear hR hlt
  have FK := hid (fkT HA UA)
  have k0 := Kept.refl [] wa
  have NC := hid (next_call HX.out (HG.out.kg (KG.nil (G := G) KA.out.drew)) (HA.out.nil ((Kept.refl [] wa).drew)) u (.slice dp u.data.length dc) (DA.out.kept ((Kept.refl [] wa).drew) (by simp)) HB.out)
  rw [show decide (x.next u) = true by simpa using Xh2.out] at NC
  unfold uval at NC
  have dd := FK.out _ ((Kept.refl [] wa).drew)
  clear k0
  go_region_held3 (fun w' => w'.cell? ⟨b, 1, none⟩ = some (.int .i64 x.p.out) ∧ w'.cell? ⟨b, 4, none⟩ = some (.int .u32 x.p.count) ∧ w'.cell? ⟨b, 11, none⟩ = some (.int .i64 x.state) ∧ w'.cell? ⟨b, 12, none⟩ = some (.int .u32 x.ses) ∧ w'.cell? ⟨b, 13, none⟩ = some (.int .u32 x.num) ∧ w'.cell? ⟨R, 0, none⟩ = some (.int .i64 u.kind) ∧ w'.cell? ⟨R, 1, none⟩ = some (.int .u32 u.code) ∧ w'.cell? ⟨R, 2, none⟩ = some (.int .u32 u.ses) ∧ w'.cell? ⟨R, 3, none⟩ = some (.int .u32 u.num) ∧ w'.cell? ⟨R, 4, none⟩ = some (.int .i64 u.flags) ∧ w'.cell? ⟨R, 5, none⟩ = some (.slice dp u.data.length dc)) (with_reducible assumption) ((go_at_call 165; with_reducible refine NC.out.mono ?_; rintro e wq1 ⟨rfl, kn⟩; have k1 := ((Kept.refl [] wa).drew).trans kn; have dd2 := FK.out _ k1; clear kn))
  clear dd dd2
  obtain ⟨f1, f4, f11, f12, f13, y0, y1, y2, y3, y4, y5⟩ := FK.out _ k1
  go_wp2_with fail
  clear f1 f4 f11 f12 f13 y0 y1 y2 y3 y4 y5
  have KM := hid k1
  have HM := hid (HA.out.nil k1)
  have UM := hid (k1.has UA.out (by simp))
  have DM := hid (DA.out.kept k1 (by simp))
  have KQ := hid (KG.nil (G := G) (KA.out.trans k1))
  have HGM := hid (HG.out.kg KQ.out)
  clear k1
  have AC := hid (ended_call HX.out HGM.out HM.out u (.slice dp u.data.length dc) DM.out HB.out Xh2.out.1 Xh2.out.2.2 Xh3.out)
  unfold uval at AC
  refine AC.out.mono ?_
  rintro e w5 ⟨f, rfl, k5, h5, f5⟩
  have K5 := hid (KG.trans (kgM (m := m) (mb := mb) KQ.out) k5)
  have H5 := hid h5
  have F5 := hid (FrameOf.after KQ.out.size f5)
  clear k5 h5 f5
  obtain ⟨p5, l5, n5, rfl⟩ := DevC.FrameOf.shape F5.out
  go_wp2_with fail
  go_ret2
  exact ⟨_, rfl, K5.out, H5.out, F5.out⟩
end DevC
end Go.Proofs.YtinaliblnihpbaaGreat
