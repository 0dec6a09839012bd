/- The walks and the plain laws of DevM. -/
import Derived.Test.YtinaliblnihpbaaGreatZ13
set_option linter.unusedVariables false
set_option linter.unusedSimpArgs false
namespace Go.Proofs.YtinaliblnihpbaaGreat.DevC
open Go Go.RowKit Gf SlC CrcW SlM Hp Sl Ow DiagC ValveC DogC Kx TM MemC CellC HostC EncW ParW UnW UEnc NumW UDecW
variable {G : Nat → Prop} {w w' w'' : World} {b d v g o lg k c m mb : Nat} {s : Value} {x y : D}
set_option maxRecDepth 100000 in
set_option maxHeartbeats 1600000 in
theorem take4n (hx : DOk x) (hG : Opn G w) (h : DAt G w b d v g o lg k c m mb s x) (u : U) (vd : Value) (hd : Bytes w vd u.data) (hb : By u.data) (h1 : u.kind = 4) (h2 : ¬ x.next u) :
    Calls Tryz.prog 134 #[.pointer (some ⟨b, 0, none⟩), uval u vd] w fun e w' => Rep G w w' b m mb e (x.odds 130) := by
  obtain ⟨dp, dc, rfl, hdc⟩ := sl_shape hd
  have HH := Lib.hid h
  have HX := Lib.hid hx
  have HG := Lib.hid hG
  have HD := Lib.hid hd
  have HB := Lib.hid hb
  have hlt := h.top.lt
  have KA := Lib.hid ((Kept.refl [] w).alloc (.cells #[.int .i64 u.kind, .int .u32 u.code, .int .u32 u.ses, .int .u32 u.num, .int .i64 u.flags, .slice dp u.data.length dc] 63))
  have UA := Lib.hid (Has.new w 63 [.int .i64 u.kind, .int .u32 u.code, .int .u32 u.ses, .int .u32 u.num, .int .i64 u.flags, .slice dp u.data.length dc])
  have Xh1 := Lib.hid h1
  have Xh2 := Lib.hid h2
  have e0 : (u.kind == 1) = false := by simp [h1]
  have e1 : (u.kind == 2) = false := by simp [h1]
  have e2 : (u.kind == 3) = false := by simp [h1]
  have e3 : (u.kind == 4) = true := by simp [h1]
  clear h hx hG hd hb h1 h2
  unfold uval
  go_enter Tryz.func134, Tryz.ntmps134
  go_wp2_with fail
  have HA := Lib.hid (HH.out.nil KA.out)
  have DA := Lib.hid (HD.out.kept KA.out (by simp))
  generalize w.alloc (.cells #[.int .i64 u.kind, .int .u32 u.code, .int .u32 u.ses, .int .u32 u.num, .int .i64 u.flags, .slice dp u.data.length dc] 63) = wa at KA UA HA DA ⊢
  obtain ⟨R, hR⟩ : ∃ R, R = w.heap.size := ⟨_, rfl⟩
  rw [← hR] at UA ⊢
  have RR := Lib.hid (Nat.le_of_eq hR.symm)
  clear hR hlt
  have FK := Lib.hid (show ∀ w', Kept [] wa w' → (w'.cell? ⟨b, 1, none⟩ = some (.int .i64 x.p.out) ∧ w'.cell? ⟨b, 4, none⟩ = some (.int .u32 x.p.count) ∧ w'.cell? ⟨b, 11, none⟩ = some (.int .i64 x.state) ∧ w'.cell? ⟨b, 12, none⟩ = some (.int .u32 x.ses) ∧ w'.cell? ⟨b, 13, none⟩ = some (.int .u32 x.num) ∧ w'.cell? ⟨R, 0, none⟩ = some (.int .i64 u.kind) ∧ w'.cell? ⟨R, 1, none⟩ = some (.int .u32 u.code) ∧ w'.cell? ⟨R, 2, none⟩ = some (.int .u32 u.ses) ∧ w'.cell? ⟨R, 3, none⟩ = some (.int .u32 u.num) ∧ w'.cell? ⟨R, 4, none⟩ = some (.int .i64 u.flags) ∧ w'.cell? ⟨R, 5, none⟩ = some (.slice dp u.data.length dc)) from fun w' q => ⟨(q.has HA.out.top (by simp)).cell 1 rfl, (q.has HA.out.top (by simp)).cell 4 rfl, (q.has HA.out.top (by simp)).cell 11 rfl, (q.has HA.out.top (by simp)).cell 12 rfl, (q.has HA.out.top (by simp)).cell 13 rfl, (q.has UA.out (by simp)).cell 0 rfl, (q.has UA.out (by simp)).cell 1 rfl, (q.has UA.out (by simp)).cell 2 rfl, (q.has UA.out (by simp)).cell 3 rfl, (q.has UA.out (by simp)).cell 4 rfl, (q.has UA.out (by simp)).cell 5 rfl⟩)
  have k0 := Kept.refl [] wa
  have NC := Lib.hid (next_call HX.out (HG.out.kg (KG.nil (G := G) KA.out.drew)) (HA.out.nil ((Kept.refl [] wa).drew)) u (.slice dp u.data.length dc) (DA.out.kept ((Kept.refl [] wa).drew) (by simp)) HB.out)
  rw [show decide (x.next u) = false by simpa using Xh2.out] at NC
  unfold uval at NC
  have dd := FK.out _ ((Kept.refl [] wa).drew)
  clear k0
  refine wp_region_held_drew (S := fun w' => w'.cell? ⟨b, 1, none⟩ = some (.int .i64 x.p.out) ∧ w'.cell? ⟨b, 4, none⟩ = some (.int .u32 x.p.count) ∧ w'.cell? ⟨b, 11, none⟩ = some (.int .i64 x.state) ∧ w'.cell? ⟨b, 12, none⟩ = some (.int .u32 x.ses) ∧ w'.cell? ⟨b, 13, none⟩ = some (.int .u32 x.num) ∧ w'.cell? ⟨R, 0, none⟩ = some (.int .i64 u.kind) ∧ w'.cell? ⟨R, 1, none⟩ = some (.int .u32 u.code) ∧ w'.cell? ⟨R, 2, none⟩ = some (.int .u32 u.ses) ∧ w'.cell? ⟨R, 3, none⟩ = some (.int .u32 u.num) ∧ w'.cell? ⟨R, 4, none⟩ = some (.int .i64 u.flags) ∧ w'.cell? ⟨R, 5, none⟩ = some (.slice dp u.data.length dc)) (by kernel_rfl) dd (fun hHeld => ?_)
  refine wpAnyH_take (i := 0) (oi := { dst := Option.some 86, op := Go.Op.move (Go.Operand.tmp 0), type := 88, pos := "device.go:182", after := #[], guard := Option.none }) (v := ?_) rfl (by kernel_rfl) (by kernel_rfl) (by kernel_rfl) (fun _ _ _ h => h) (Or.inl ⟨by rfl, ?_⟩) dd ?_
  rotate_left 1
  focus (intro w hSw; (try dsimp only at hSw); go_simp; try with_reducible rfl)
  try simp only [Act.put, List.setIfInBounds_toArray, List.set_cons_zero, List.set_cons_succ]
  refine wpAnyH_take (i := 1) (oi := { dst := Option.some 87, op := Go.Op.load 63 (Go.Operand.tmp 3), type := 63, pos := "device.go:182", after := #[], guard := Option.none }) (v := ?_) rfl (by kernel_rfl) (by kernel_rfl) (by kernel_rfl) (fun _ _ _ h => h) (Or.inl ⟨by rfl, ?_⟩) dd ?_
  rotate_left 1
  focus (intro w hSw; (try dsimp only at hSw); go_simp; try with_reducible rfl)
  try simp only [Act.put, List.setIfInBounds_toArray, List.set_cons_zero, List.set_cons_succ]
  refine wpAnyH_ready (rs := [2]) (by kernel_rfl) (by simp) ?_
  refine AllReadyH.cons (o := { dst := Option.some 88, op := Go.Op.call { callee := Go.Callee.value (Go.Operand.func 165), args := #[Go.Operand.tmp 86, Go.Operand.tmp 87], argTypes := #[88, 63] }, type := 4, pos := "device.go:182", after := #[{ on := 0, ground := Go.Ground.data }, { on := 1, ground := Go.Ground.data }], guard := Option.none }) rfl (fun K hK => ?_) AllReadyH.nil
  go_simp
  go_at_call 165
  refine NC.out.mono ?_
  rintro e wq1 ⟨rfl, kn⟩
  have k1 := ((Kept.refl [] wa).drew).trans kn
  have dd2 := FK.out _ k1
  clear kn
  refine hK.out _ _ dd2 (fun _ => ?_)
  clear hK K
  try simp only [Act.put, List.setIfInBounds_toArray, List.set_cons_zero, List.set_cons_succ]
  refine wpAnyH_take (i := 3) (oi := { dst := Option.some 89, op := Go.Op.move (Go.Operand.tmp 88), type := 4, pos := "device.go:182", after := #[{ on := 2, ground := Go.Ground.data }, { on := 2, ground := Go.Ground.chain }], guard := Option.none }) (v := ?_) rfl (by kernel_rfl) (by kernel_rfl) (by kernel_rfl) (fun _ _ _ h => h) (Or.inl ⟨by rfl, ?_⟩) dd2 ?_
  rotate_left 1
  focus (intro w hSw; (try dsimp only at hSw); go_simp; try with_reducible rfl)
  try simp only [Act.put, List.setIfInBounds_toArray, List.set_cons_zero, List.set_cons_succ]
  refine wpAnyH_take (i := 4) (oi := { dst := Option.some 90, op := Go.Op.fieldAddr 63 (Go.Operand.tmp 3) 5, type := 0, pos := "device.go:182", after := #[{ on := 3, ground := Go.Ground.guard }], guard := Option.some (3, Bool.true) }) (v := undef) rfl (by kernel_rfl) (by kernel_rfl) (by kernel_rfl) (fun _ _ _ h => h) (Or.inr ⟨by rfl, rfl⟩) dd2 ?_
  try simp only [Act.put, List.setIfInBounds_toArray, List.set_cons_zero, List.set_cons_succ]
  refine wpAnyH_take (i := 5) (oi := { dst := Option.some 91, op := Go.Op.load 36 (Go.Operand.tmp 90), type := 36, pos := "device.go:182", after := #[{ on := 4, ground := Go.Ground.data }, { on := 3, ground := Go.Ground.guard }], guard := Option.some (3, Bool.true) }) (v := undef) rfl (by kernel_rfl) (by kernel_rfl) (by kernel_rfl) (fun _ _ _ h => h) (Or.inr ⟨by rfl, rfl⟩) dd2 ?_
  try simp only [Act.put, List.setIfInBounds_toArray, List.set_cons_zero, List.set_cons_succ]
  refine wpAnyH_take (i := 6) (oi := { dst := Option.some 92, op := Go.Op.call { callee := Go.Callee.builtin Go.Builtin.len, args := #[Go.Operand.tmp 91], argTypes := #[36] }, type := 3, pos := "device.go:182", after := #[{ on := 5, ground := Go.Ground.data }, { on := 3, ground := Go.Ground.guard }], guard := Option.some (3, Bool.true) }) (v := undef) rfl (by kernel_rfl) (by kernel_rfl) (by kernel_rfl) (fun _ _ _ h => h) (Or.inr ⟨by rfl, rfl⟩) dd2 ?_
  try simp only [Act.put, List.setIfInBounds_toArray, List.set_cons_zero, List.set_cons_succ]
  refine wpAnyH_take (i := 7) (oi := { dst := Option.some 93, op := Go.Op.move (Go.Operand.tmp 0), type := 88, pos := "device.go:182", after := #[{ on := 3, ground := Go.Ground.guard }], guard := Option.some (3, Bool.true) }) (v := undef) rfl (by kernel_rfl) (by kernel_rfl) (by kernel_rfl) (fun _ _ _ h => h) (Or.inr ⟨by rfl, rfl⟩) dd2 ?_
  try simp only [Act.put, List.setIfInBounds_toArray, List.set_cons_zero, List.set_cons_succ]
  refine wpAnyH_take (i := 8) (oi := { dst := Option.some 94, op := Go.Op.nilCheck (Go.Operand.tmp 93), type := 0, pos := "device.go:182", after := #[{ on := 7, ground := Go.Ground.data }, { on := 3, ground := Go.Ground.guard }], guard := Option.some (3, Bool.true) }) (v := undef) rfl (by kernel_rfl) (by kernel_rfl) (by kernel_rfl) (fun _ _ _ h => h) (Or.inr ⟨by rfl, rfl⟩) dd2 ?_
  try simp only [Act.put, List.setIfInBounds_toArray, List.set_cons_zero, List.set_cons_succ]
  refine wpAnyH_take (i := 9) (oi := { dst := Option.some 95, op := Go.Op.fieldAddr 142 (Go.Operand.tmp 94) 0, type := 0, pos := "device.go:182", after := #[{ on := 8, ground := Go.Ground.data }, { on := 3, ground := Go.Ground.guard }], guard := Option.some (3, Bool.true) }) (v := undef) rfl (by kernel_rfl) (by kernel_rfl) (by kernel_rfl) (fun _ _ _ h => h) (Or.inr ⟨by rfl, rfl⟩) dd2 ?_
  try simp only [Act.put, List.setIfInBounds_toArray, List.set_cons_zero, List.set_cons_succ]
  refine wpAnyH_take (i := 10) (oi := { dst := Option.some 96, op := Go.Op.fieldAddr 50 (Go.Operand.tmp 95) 1, type := 0, pos := "device.go:182", after := #[{ on := 9, ground := Go.Ground.data }, { on := 3, ground := Go.Ground.guard }], guard := Option.some (3, Bool.true) }) (v := undef) rfl (by kernel_rfl) (by kernel_rfl) (by kernel_rfl) (fun _ _ _ h => h) (Or.inr ⟨by rfl, rfl⟩) dd2 ?_
  try simp only [Act.put, List.setIfInBounds_toArray, List.set_cons_zero, List.set_cons_succ]
  refine wpAnyH_take (i := 11) (oi := { dst := Option.some 97, op := Go.Op.load 3 (Go.Operand.tmp 96), type := 3, pos := "device.go:182", after := #[{ on := 10, ground := Go.Ground.data }, { on := 3, ground := Go.Ground.guard }], guard := Option.some (3, Bool.true) }) (v := undef) rfl (by kernel_rfl) (by kernel_rfl) (by kernel_rfl) (fun _ _ _ h => h) (Or.inr ⟨by rfl, rfl⟩) dd2 ?_
  try simp only [Act.put, List.setIfInBounds_toArray, List.set_cons_zero, List.set_cons_succ]
  refine wpAnyH_take (i := 12) (oi := { dst := Option.some 98, op := Go.Op.binOp Go.BinOp.eql 3 (Go.Operand.tmp 92) (Go.Operand.tmp 97) 3, type := 4, pos := "device.go:182", after := #[{ on := 6, ground := Go.Ground.data }, { on := 11, ground := Go.Ground.data }, { on := 3, ground := Go.Ground.guard }], guard := Option.some (3, Bool.true) }) (v := undef) rfl (by kernel_rfl) (by kernel_rfl) (by kernel_rfl) (fun _ _ _ h => h) (Or.inr ⟨by rfl, rfl⟩) dd2 ?_
  try simp only [Act.put, List.setIfInBounds_toArray, List.set_cons_zero, List.set_cons_succ]
  refine wpAnyH_take (i := 13) (oi := { dst := Option.some 99, op := Go.Op.pick (Go.Operand.tmp 89) (Go.Operand.tmp 98) (Go.Operand.const (Go.Value.bool Bool.false)), type := 4, pos := "device.go:182", after := #[{ on := 3, ground := Go.Ground.data }, { on := 12, ground := Go.Ground.data }], guard := Option.none }) (v := ?_) rfl (by kernel_rfl) (by kernel_rfl) (by kernel_rfl) (fun _ _ _ h => h) (Or.inl ⟨by rfl, ?_⟩) dd2 ?_
  rotate_left 1
  focus (intro w hSw; (try dsimp only at hSw); go_simp; try with_reducible rfl)
  try simp only [Act.put, List.setIfInBounds_toArray, List.set_cons_zero, List.set_cons_succ]
  refine wpAnyH_take (i := 14) (oi := { dst := Option.some 100, op := Go.Op.move (Go.Operand.tmp 99), type := 4, pos := "device.go:182", after := #[{ on := 13, ground := Go.Ground.data }, { on := 3, ground := Go.Ground.chain }], guard := Option.none }) (v := ?_) rfl (by kernel_rfl) (by kernel_rfl) (by kernel_rfl) (fun _ _ _ h => h) (Or.inl ⟨by rfl, ?_⟩) dd2 ?_
  rotate_left 1
  focus (intro w hSw; (try dsimp only at hSw); go_simp; try with_reducible rfl)
  try simp only [Act.put, List.setIfInBounds_toArray, List.set_cons_zero, List.set_cons_succ]
  refine wpAnyH_take (i := 15) (oi := { dst := Option.some 101, op := Go.Op.fieldAddr 63 (Go.Operand.tmp 3) 3, type := 0, pos := "device.go:182", after := #[{ on := 14, ground := Go.Ground.guard }], guard := Option.some (14, Bool.true) }) (v := undef) rfl (by kernel_rfl) (by kernel_rfl) (by kernel_rfl) (fun _ _ _ h => h) (Or.inr ⟨by rfl, rfl⟩) dd2 ?_
  try simp only [Act.put, List.setIfInBounds_toArray, List.set_cons_zero, List.set_cons_succ]
  refine wpAnyH_take (i := 16) (oi := { dst := Option.some 102, op := Go.Op.load 24 (Go.Operand.tmp 101), type := 24, pos := "device.go:182", after := #[{ on := 15, ground := Go.Ground.data }, { on := 14, ground := Go.Ground.guard }], guard := Option.some (14, Bool.true) }) (v := undef) rfl (by kernel_rfl) (by kernel_rfl) (by kernel_rfl) (fun _ _ _ h => h) (Or.inr ⟨by rfl, rfl⟩) dd2 ?_
  try simp only [Act.put, List.setIfInBounds_toArray, List.set_cons_zero, List.set_cons_succ]
  refine wpAnyH_take (i := 17) (oi := { dst := Option.some 103, op := Go.Op.move (Go.Operand.tmp 0), type := 88, pos := "device.go:182", after := #[{ on := 14, ground := Go.Ground.guard }], guard := Option.some (14, Bool.true) }) (v := undef) rfl (by kernel_rfl) (by kernel_rfl) (by kernel_rfl) (fun _ _ _ h => h) (Or.inr ⟨by rfl, rfl⟩) dd2 ?_
  try simp only [Act.put, List.setIfInBounds_toArray, List.set_cons_zero, List.set_cons_succ]
  refine wpAnyH_take (i := 18) (oi := { dst := Option.some 104, op := Go.Op.nilCheck (Go.Operand.tmp 103), type := 0, pos := "device.go:182", after := #[{ on := 17, ground := Go.Ground.data }, { on := 14, ground := Go.Ground.guard }], guard := Option.some (14, Bool.true) }) (v := undef) rfl (by kernel_rfl) (by kernel_rfl) (by kernel_rfl) (fun _ _ _ h => h) (Or.inr ⟨by rfl, rfl⟩) dd2 ?_
  try simp only [Act.put, List.setIfInBounds_toArray, List.set_cons_zero, List.set_cons_succ]
  refine wpAnyH_take (i := 19) (oi := { dst := Option.some 105, op := Go.Op.fieldAddr 142 (Go.Operand.tmp 104) 0, type := 0, pos := "device.go:182", after := #[{ on := 18, ground := Go.Ground.data }, { on := 14, ground := Go.Ground.guard }], guard := Option.some (14, Bool.true) }) (v := undef) rfl (by kernel_rfl) (by kernel_rfl) (by kernel_rfl) (fun _ _ _ h => h) (Or.inr ⟨by rfl, rfl⟩) dd2 ?_
  try simp only [Act.put, List.setIfInBounds_toArray, List.set_cons_zero, List.set_cons_succ]
  refine wpAnyH_take (i := 20) (oi := { dst := Option.some 106, op := Go.Op.fieldAddr 50 (Go.Operand.tmp 105) 4, type := 0, pos := "device.go:182", after := #[{ on := 19, ground := Go.Ground.data }, { on := 14, ground := Go.Ground.guard }], guard := Option.some (14, Bool.true) }) (v := undef) rfl (by kernel_rfl) (by kernel_rfl) (by kernel_rfl) (fun _ _ _ h => h) (Or.inr ⟨by rfl, rfl⟩) dd2 ?_
  try simp only [Act.put, List.setIfInBounds_toArray, List.set_cons_zero, List.set_cons_succ]
  refine wpAnyH_take (i := 21) (oi := { dst := Option.some 107, op := Go.Op.load 24 (Go.Operand.tmp 106), type := 24, pos := "device.go:182", after := #[{ on := 20, ground := Go.Ground.data }, { on := 14, ground := Go.Ground.guard }], guard := Option.some (14, Bool.true) }) (v := undef) rfl (by kernel_rfl) (by kernel_rfl) (by kernel_rfl) (fun _ _ _ h => h) (Or.inr ⟨by rfl, rfl⟩) dd2 ?_
  try simp only [Act.put, List.setIfInBounds_toArray, List.set_cons_zero, List.set_cons_succ]
  refine wpAnyH_take (i := 22) (oi := { dst := Option.some 108, op := Go.Op.binOp Go.BinOp.lss 24 (Go.Operand.tmp 102) (Go.Operand.tmp 107) 24, type := 4, pos := "device.go:182", after := #[{ on := 16, ground := Go.Ground.data }, { on := 21, ground := Go.Ground.data }, { on := 14, ground := Go.Ground.guard }], guard := Option.some (14, Bool.true) }) (v := undef) rfl (by kernel_rfl) (by kernel_rfl) (by kernel_rfl) (fun _ _ _ h => h) (Or.inr ⟨by rfl, rfl⟩) dd2 ?_
  try simp only [Act.put, List.setIfInBounds_toArray, List.set_cons_zero, List.set_cons_succ]
  refine wpAnyH_take (i := 23) (oi := { dst := Option.some 109, op := Go.Op.pick (Go.Operand.tmp 100) (Go.Operand.tmp 108) (Go.Operand.const (Go.Value.bool Bool.false)), type := 4, pos := "device.go:182", after := #[{ on := 14, ground := Go.Ground.data }, { on := 22, ground := Go.Ground.data }], guard := Option.none }) (v := ?_) rfl (by kernel_rfl) (by kernel_rfl) (by kernel_rfl) (fun _ _ _ h => h) (Or.inl ⟨by rfl, ?_⟩) dd2 ?_
  rotate_left 1
  focus (intro w hSw; (try dsimp only at hSw); go_simp; try with_reducible rfl)
  try simp only [Act.put, List.setIfInBounds_toArray, List.set_cons_zero, List.set_cons_succ]
  refine wpAnyH_done (by kernel_rfl) ?_ _
  clear dd dd2
  obtain ⟨f1, f4, f11, f12, f13, y0, y1, y2, y3, y4, y5⟩ := FK.out _ k1
  go_wp2_with fail
  clear f1 f4 f11 f12 f13 y0 y1 y2 y3 y4 y5
  have KM := Lib.hid k1
  have HM := Lib.hid (HA.out.nil k1)
  have UM := Lib.hid (k1.has UA.out (by simp))
  have DM := Lib.hid (DA.out.kept k1 (by simp))
  have KQ := Lib.hid (KG.nil (G := G) (KA.out.trans k1))
  have HGM := Lib.hid (HG.out.kg KQ.out)
  clear k1
  refine (odds_call HX.out 130 HGM.out HM.out).mono ?_
  rintro e w5 ⟨f, rfl, k5, h5, f5⟩
  have K5 := Lib.hid (kgM (m := m) (mb := mb) (KQ.out.trans k5))
  have H5 := Lib.hid h5.dev
  have F5 := Lib.hid (FrameOf.after KQ.out.size f5)
  clear k5 h5 f5
  obtain ⟨p5, l5, n5, rfl⟩ := DevC.FrameOf.shape F5.out
  go_wp2_with fail
  go_ret2
  exact ⟨_, rfl, K5.out, H5.out, F5.out⟩
set_option maxRecDepth 100000 in
set_option maxHeartbeats 1600000 in
theorem take4l (hx : DOk x) (hG : Opn G w) (h : DAt G w b d v g o lg k c m mb s x) (u : U) (vd : Value) (hd : Bytes w vd u.data) (hb : By u.data) (h1 : u.kind = 4) (h2 : x.next u) (h3 : (u.data.length : Int) ≠ x.p.out) :
    Calls Tryz.prog 134 #[.pointer (some ⟨b, 0, none⟩), uval u vd] w fun e w' => Rep G w w' b m mb e (x.odds 130) := by
  obtain ⟨dp, dc, rfl, hdc⟩ := sl_shape hd
  have HH := Lib.hid h
  have HX := Lib.hid hx
  have HG := Lib.hid hG
  have HD := Lib.hid hd
  have HB := Lib.hid hb
  have hlt := h.top.lt
  have KA := Lib.hid ((Kept.refl [] w).alloc (.cells #[.int .i64 u.kind, .int .u32 u.code, .int .u32 u.ses, .int .u32 u.num, .int .i64 u.flags, .slice dp u.data.length dc] 63))
  have UA := Lib.hid (Has.new w 63 [.int .i64 u.kind, .int .u32 u.code, .int .u32 u.ses, .int .u32 u.num, .int .i64 u.flags, .slice dp u.data.length dc])
  have Xh1 := Lib.hid h1
  have Xh2 := Lib.hid h2
  have Xh3 := Lib.hid h3
  have e0 : (u.kind == 1) = false := by simp [h1]
  have e1 : (u.kind == 2) = false := by simp [h1]
  have e2 : (u.kind == 3) = false := by simp [h1]
  have e3 : (u.kind == 4) = true := by simp [h1]
  have e4 : ((u.data.length : Int) == x.p.out) = false := by simp [h3]
  clear h hx hG hd hb h1 h2 h3
  unfold uval
  go_enter Tryz.func134, Tryz.ntmps134
  go_wp2_with fail
  have HA := Lib.hid (HH.out.nil KA.out)
  have DA := Lib.hid (HD.out.kept KA.out (by simp))
  generalize w.alloc (.cells #[.int .i64 u.kind, .int .u32 u.code, .int .u32 u.ses, .int .u32 u.num, .int .i64 u.flags, .slice dp u.data.length dc] 63) = wa at KA UA HA DA ⊢
  obtain ⟨R, hR⟩ : ∃ R, R = w.heap.size := ⟨_, rfl⟩
  rw [← hR] at UA ⊢
  have RR := Lib.hid (Nat.le_of_eq hR.symm)
  clear hR hlt
  have FK := Lib.hid (show ∀ w', Kept [] wa w' → (w'.cell? ⟨b, 1, none⟩ = some (.int .i64 x.p.out) ∧ w'.cell? ⟨b, 4, none⟩ = some (.int .u32 x.p.count) ∧ w'.cell? ⟨b, 11, none⟩ = some (.int .i64 x.state) ∧ w'.cell? ⟨b, 12, none⟩ = some (.int .u32 x.ses) ∧ w'.cell? ⟨b, 13, none⟩ = some (.int .u32 x.num) ∧ w'.cell? ⟨R, 0, none⟩ = some (.int .i64 u.kind) ∧ w'.cell? ⟨R, 1, none⟩ = some (.int .u32 u.code) ∧ w'.cell? ⟨R, 2, none⟩ = some (.int .u32 u.ses) ∧ w'.cell? ⟨R, 3, none⟩ = some (.int .u32 u.num) ∧ w'.cell? ⟨R, 4, none⟩ = some (.int .i64 u.flags) ∧ w'.cell? ⟨R, 5, none⟩ = some (.slice dp u.data.length dc)) from fun w' q => ⟨(q.has HA.out.top (by simp)).cell 1 rfl, (q.has HA.out.top (by simp)).cell 4 rfl, (q.has HA.out.top (by simp)).cell 11 rfl, (q.has HA.out.top (by simp)).cell 12 rfl, (q.has HA.out.top (by simp)).cell 13 rfl, (q.has UA.out (by simp)).cell 0 rfl, (q.has UA.out (by simp)).cell 1 rfl, (q.has UA.out (by simp)).cell 2 rfl, (q.has UA.out (by simp)).cell 3 rfl, (q.has UA.out (by simp)).cell 4 rfl, (q.has UA.out (by simp)).cell 5 rfl⟩)
  have k0 := Kept.refl [] wa
  have NC := Lib.hid (next_call HX.out (HG.out.kg (KG.nil (G := G) KA.out.drew)) (HA.out.nil ((Kept.refl [] wa).drew)) u (.slice dp u.data.length dc) (DA.out.kept ((Kept.refl [] wa).drew) (by simp)) HB.out)
  rw [show decide (x.next u) = true by simpa using Xh2.out] at NC
  unfold uval at NC
  have dd := FK.out _ ((Kept.refl [] wa).drew)
  clear k0
  refine wp_region_held_drew (S := fun w' => w'.cell? ⟨b, 1, none⟩ = some (.int .i64 x.p.out) ∧ w'.cell? ⟨b, 4, none⟩ = some (.int .u32 x.p.count) ∧ w'.cell? ⟨b, 11, none⟩ = some (.int .i64 x.state) ∧ w'.cell? ⟨b, 12, none⟩ = some (.int .u32 x.ses) ∧ w'.cell? ⟨b, 13, none⟩ = some (.int .u32 x.num) ∧ w'.cell? ⟨R, 0, none⟩ = some (.int .i64 u.kind) ∧ w'.cell? ⟨R, 1, none⟩ = some (.int .u32 u.code) ∧ w'.cell? ⟨R, 2, none⟩ = some (.int .u32 u.ses) ∧ w'.cell? ⟨R, 3, none⟩ = some (.int .u32 u.num) ∧ w'.cell? ⟨R, 4, none⟩ = some (.int .i64 u.flags) ∧ w'.cell? ⟨R, 5, none⟩ = some (.slice dp u.data.length dc)) (by kernel_rfl) dd (fun hHeld => ?_)
  refine wpAnyH_take (i := 0) (oi := { dst := Option.some 86, op := Go.Op.move (Go.Operand.tmp 0), type := 88, pos := "device.go:182", after := #[], guard := Option.none }) (v := ?_) rfl (by kernel_rfl) (by kernel_rfl) (by kernel_rfl) (fun _ _ _ h => h) (Or.inl ⟨by rfl, ?_⟩) dd ?_
  rotate_left 1
  focus (intro w hSw; (try dsimp only at hSw); go_simp; try with_reducible rfl)
  try simp only [Act.put, List.setIfInBounds_toArray, List.set_cons_zero, List.set_cons_succ]
  refine wpAnyH_take (i := 1) (oi := { dst := Option.some 87, op := Go.Op.load 63 (Go.Operand.tmp 3), type := 63, pos := "device.go:182", after := #[], guard := Option.none }) (v := ?_) rfl (by kernel_rfl) (by kernel_rfl) (by kernel_rfl) (fun _ _ _ h => h) (Or.inl ⟨by rfl, ?_⟩) dd ?_
  rotate_left 1
  focus (intro w hSw; (try dsimp only at hSw); go_simp; try with_reducible rfl)
  try simp only [Act.put, List.setIfInBounds_toArray, List.set_cons_zero, List.set_cons_succ]
  refine wpAnyH_ready (rs := [2]) (by kernel_rfl) (by simp) ?_
  refine AllReadyH.cons (o := { dst := Option.some 88, op := Go.Op.call { callee := Go.Callee.value (Go.Operand.func 165), args := #[Go.Operand.tmp 86, Go.Operand.tmp 87], argTypes := #[88, 63] }, type := 4, pos := "device.go:182", after := #[{ on := 0, ground := Go.Ground.data }, { on := 1, ground := Go.Ground.data }], guard := Option.none }) rfl (fun K hK => ?_) AllReadyH.nil
  go_simp
  go_at_call 165
  refine NC.out.mono ?_
  rintro e wq1 ⟨rfl, kn⟩
  have k1 := ((Kept.refl [] wa).drew).trans kn
  have dd2 := FK.out _ k1
  clear kn
  refine hK.out _ _ dd2 (fun _ => ?_)
  clear hK K
  try simp only [Act.put, List.setIfInBounds_toArray, List.set_cons_zero, List.set_cons_succ]
  refine wpAnyH_take (i := 3) (oi := { dst := Option.some 89, op := Go.Op.move (Go.Operand.tmp 88), type := 4, pos := "device.go:182", after := #[{ on := 2, ground := Go.Ground.data }, { on := 2, ground := Go.Ground.chain }], guard := Option.none }) (v := ?_) rfl (by kernel_rfl) (by kernel_rfl) (by kernel_rfl) (fun _ _ _ h => h) (Or.inl ⟨by rfl, ?_⟩) dd2 ?_
  rotate_left 1
  focus (intro w hSw; (try dsimp only at hSw); go_simp; try with_reducible rfl)
  try simp only [Act.put, List.setIfInBounds_toArray, List.set_cons_zero, List.set_cons_succ]
  refine wpAnyH_take (i := 4) (oi := { dst := Option.some 90, op := Go.Op.fieldAddr 63 (Go.Operand.tmp 3) 5, type := 0, pos := "device.go:182", after := #[{ on := 3, ground := Go.Ground.guard }], guard := Option.some (3, Bool.true) }) (v := ?_) rfl (by kernel_rfl) (by kernel_rfl) (by kernel_rfl) (fun _ _ _ h => h) (Or.inl ⟨by rfl, ?_⟩) dd2 ?_
  rotate_left 1
  focus (intro w hSw; (try dsimp only at hSw); go_simp; try with_reducible rfl)
  try simp only [Act.put, List.setIfInBounds_toArray, List.set_cons_zero, List.set_cons_succ]
  refine wpAnyH_take (i := 5) (oi := { dst := Option.some 91, op := Go.Op.load 36 (Go.Operand.tmp 90), type := 36, pos := "device.go:182", after := #[{ on := 4, ground := Go.Ground.data }, { on := 3, ground := Go.Ground.guard }], guard := Option.some (3, Bool.true) }) (v := ?_) rfl (by kernel_rfl) (by kernel_rfl) (by kernel_rfl) (fun _ _ _ h => h) (Or.inl ⟨by rfl, ?_⟩) dd2 ?_
  rotate_left 1
  focus (intro w hSw; (try dsimp only at hSw); go_simp; try with_reducible rfl)
  try simp only [Act.put, List.setIfInBounds_toArray, List.set_cons_zero, List.set_cons_succ]
  refine wpAnyH_take (i := 6) (oi := { dst := Option.some 92, op := Go.Op.call { callee := Go.Callee.builtin Go.Builtin.len, args := #[Go.Operand.tmp 91], argTypes := #[36] }, type := 3, pos := "device.go:182", after := #[{ on := 5, ground := Go.Ground.data }, { on := 3, ground := Go.Ground.guard }], guard := Option.some (3, Bool.true) }) (v := ?_) rfl (by kernel_rfl) (by kernel_rfl) (by kernel_rfl) (fun _ _ _ h => h) (Or.inl ⟨by rfl, ?_⟩) dd2 ?_
  rotate_left 1
  focus (intro w hSw; (try dsimp only at hSw); go_simp; try with_reducible rfl)
  try simp only [Act.put, List.setIfInBounds_toArray, List.set_cons_zero, List.set_cons_succ]
  refine wpAnyH_take (i := 7) (oi := { dst := Option.some 93, op := Go.Op.move (Go.Operand.tmp 0), type := 88, pos := "device.go:182", after := #[{ on := 3, ground := Go.Ground.guard }], guard := Option.some (3, Bool.true) }) (v := ?_) rfl (by kernel_rfl) (by kernel_rfl) (by kernel_rfl) (fun _ _ _ h => h) (Or.inl ⟨by rfl, ?_⟩) dd2 ?_
  rotate_left 1
  focus (intro w hSw; (try dsimp only at hSw); go_simp; try with_reducible rfl)
  try simp only [Act.put, List.setIfInBounds_toArray, List.set_cons_zero, List.set_cons_succ]
  refine wpAnyH_take (i := 8) (oi := { dst := Option.some 94, op := Go.Op.nilCheck (Go.Operand.tmp 93), type := 0, pos := "device.go:182", after := #[{ on := 7, ground := Go.Ground.data }, { on := 3, ground := Go.Ground.guard }], guard := Option.some (3, Bool.true) }) (v := ?_) rfl (by kernel_rfl) (by kernel_rfl) (by kernel_rfl) (fun _ _ _ h => h) (Or.inl ⟨by rfl, ?_⟩) dd2 ?_
  rotate_left 1
  focus (intro w hSw; (try dsimp only at hSw); go_simp; try with_reducible rfl)
  try simp only [Act.put, List.setIfInBounds_toArray, List.set_cons_zero, List.set_cons_succ]
  refine wpAnyH_take (i := 9) (oi := { dst := Option.some 95, op := Go.Op.fieldAddr 142 (Go.Operand.tmp 94) 0, type := 0, pos := "device.go:182", after := #[{ on := 8, ground := Go.Ground.data }, { on := 3, ground := Go.Ground.guard }], guard := Option.some (3, Bool.true) }) (v := ?_) rfl (by kernel_rfl) (by kernel_rfl) (by kernel_rfl) (fun _ _ _ h => h) (Or.inl ⟨by rfl, ?_⟩) dd2 ?_
  rotate_left 1
  focus (intro w hSw; (try dsimp only at hSw); go_simp; try with_reducible rfl)
  try simp only [Act.put, List.setIfInBounds_toArray, List.set_cons_zero, List.set_cons_succ]
  refine wpAnyH_take (i := 10) (oi := { dst := Option.some 96, op := Go.Op.fieldAddr 50 (Go.Operand.tmp 95) 1, type := 0, pos := "device.go:182", after := #[{ on := 9, ground := Go.Ground.data }, { on := 3, ground := Go.Ground.guard }], guard := Option.some (3, Bool.true) }) (v := ?_) rfl (by kernel_rfl) (by kernel_rfl) (by kernel_rfl) (fun _ _ _ h => h) (Or.inl ⟨by rfl, ?_⟩) dd2 ?_
  rotate_left 1
  focus (intro w hSw; (try dsimp only at hSw); go_simp; try with_reducible rfl)
  try simp only [Act.put, List.setIfInBounds_toArray, List.set_cons_zero, List.set_cons_succ]
  refine wpAnyH_take (i := 11) (oi := { dst := Option.some 97, op := Go.Op.load 3 (Go.Operand.tmp 96), type := 3, pos := "device.go:182", after := #[{ on := 10, ground := Go.Ground.data }, { on := 3, ground := Go.Ground.guard }], guard := Option.some (3, Bool.true) }) (v := ?_) rfl (by kernel_rfl) (by kernel_rfl) (by kernel_rfl) (fun _ _ _ h => h) (Or.inl ⟨by rfl, ?_⟩) dd2 ?_
  rotate_left 1
  focus (intro w hSw; (try dsimp only at hSw); go_simp; try with_reducible rfl)
  try simp only [Act.put, List.setIfInBounds_toArray, List.set_cons_zero, List.set_cons_succ]
  refine wpAnyH_take (i := 12) (oi := { dst := Option.some 98, op := Go.Op.binOp Go.BinOp.eql 3 (Go.Operand.tmp 92) (Go.Operand.tmp 97) 3, type := 4, pos := "device.go:182", after := #[{ on := 6, ground := Go.Ground.data }, { on := 11, ground := Go.Ground.data }, { on := 3, ground := Go.Ground.guard }], guard := Option.some (3, Bool.true) }) (v := ?_) rfl (by kernel_rfl) (by kernel_rfl) (by kernel_rfl) (fun _ _ _ h => h) (Or.inl ⟨by rfl, ?_⟩) dd2 ?_
  rotate_left 1
  focus (intro w hSw; (try dsimp only at hSw); go_simp; try with_reducible rfl)
  try simp only [Act.put, List.setIfInBounds_toArray, List.set_cons_zero, List.set_cons_succ]
  refine wpAnyH_take (i := 13) (oi := { dst := Option.some 99, op := Go.Op.pick (Go.Operand.tmp 89) (Go.Operand.tmp 98) (Go.Operand.const (Go.Value.bool Bool.false)), type := 4, pos := "device.go:182", after := #[{ on := 3, ground := Go.Ground.data }, { on := 12, ground := Go.Ground.data }], guard := Option.none }) (v := ?_) rfl (by kernel_rfl) (by kernel_rfl) (by kernel_rfl) (fun _ _ _ h => h) (Or.inl ⟨by rfl, ?_⟩) dd2 ?_
  rotate_left 1
  focus (intro w hSw; (try dsimp only at hSw); go_simp; try with_reducible rfl)
  try simp only [Act.put, List.setIfInBounds_toArray, List.set_cons_zero, List.set_cons_succ]
  refine wpAnyH_take (i := 14) (oi := { dst := Option.some 100, op := Go.Op.move (Go.Operand.tmp 99), type := 4, pos := "device.go:182", after := #[{ on := 13, ground := Go.Ground.data }, { on := 3, ground := Go.Ground.chain }], guard := Option.none }) (v := ?_) rfl (by kernel_rfl) (by kernel_rfl) (by kernel_rfl) (fun _ _ _ h => h) (Or.inl ⟨by rfl, ?_⟩) dd2 ?_
  rotate_left 1
  focus (intro w hSw; (try dsimp only at hSw); go_simp; try with_reducible rfl)
  try simp only [Act.put, List.setIfInBounds_toArray, List.set_cons_zero, List.set_cons_succ]
  refine wpAnyH_take (i := 15) (oi := { dst := Option.some 101, op := Go.Op.fieldAddr 63 (Go.Operand.tmp 3) 3, type := 0, pos := "device.go:182", after := #[{ on := 14, ground := Go.Ground.guard }], guard := Option.some (14, Bool.true) }) (v := undef) rfl (by kernel_rfl) (by kernel_rfl) (by kernel_rfl) (fun _ _ _ h => h) (Or.inr ⟨by rfl, rfl⟩) dd2 ?_
  try simp only [Act.put, List.setIfInBounds_toArray, List.set_cons_zero, List.set_cons_succ]
  refine wpAnyH_take (i := 16) (oi := { dst := Option.some 102, op := Go.Op.load 24 (Go.Operand.tmp 101), type := 24, pos := "device.go:182", after := #[{ on := 15, ground := Go.Ground.data }, { on := 14, ground := Go.Ground.guard }], guard := Option.some (14, Bool.true) }) (v := undef) rfl (by kernel_rfl) (by kernel_rfl) (by kernel_rfl) (fun _ _ _ h => h) (Or.inr ⟨by rfl, rfl⟩) dd2 ?_
  try simp only [Act.put, List.setIfInBounds_toArray, List.set_cons_zero, List.set_cons_succ]
  refine wpAnyH_take (i := 17) (oi := { dst := Option.some 103, op := Go.Op.move (Go.Operand.tmp 0), type := 88, pos := "device.go:182", after := #[{ on := 14, ground := Go.Ground.guard }], guard := Option.some (14, Bool.true) }) (v := undef) rfl (by kernel_rfl) (by kernel_rfl) (by kernel_rfl) (fun _ _ _ h => h) (Or.inr ⟨by rfl, rfl⟩) dd2 ?_
  try simp only [Act.put, List.setIfInBounds_toArray, List.set_cons_zero, List.set_cons_succ]
  refine wpAnyH_take (i := 18) (oi := { dst := Option.some 104, op := Go.Op.nilCheck (Go.Operand.tmp 103), type := 0, pos := "device.go:182", after := #[{ on := 17, ground := Go.Ground.data }, { on := 14, ground := Go.Ground.guard }], guard := Option.some (14, Bool.true) }) (v := undef) rfl (by kernel_rfl) (by kernel_rfl) (by kernel_rfl) (fun _ _ _ h => h) (Or.inr ⟨by rfl, rfl⟩) dd2 ?_
  try simp only [Act.put, List.setIfInBounds_toArray, List.set_cons_zero, List.set_cons_succ]
  refine wpAnyH_take (i := 19) (oi := { dst := Option.some 105, op := Go.Op.fieldAddr 142 (Go.Operand.tmp 104) 0, type := 0, pos := "device.go:182", after := #[{ on := 18, ground := Go.Ground.data }, { on := 14, ground := Go.Ground.guard }], guard := Option.some (14, Bool.true) }) (v := undef) rfl (by kernel_rfl) (by kernel_rfl) (by kernel_rfl) (fun _ _ _ h => h) (Or.inr ⟨by rfl, rfl⟩) dd2 ?_
  try simp only [Act.put, List.setIfInBounds_toArray, List.set_cons_zero, List.set_cons_succ]
  refine wpAnyH_take (i := 20) (oi := { dst := Option.some 106, op := Go.Op.fieldAddr 50 (Go.Operand.tmp 105) 4, type := 0, pos := "device.go:182", after := #[{ on := 19, ground := Go.Ground.data }, { on := 14, ground := Go.Ground.guard }], guard := Option.some (14, Bool.true) }) (v := undef) rfl (by kernel_rfl) (by kernel_rfl) (by kernel_rfl) (fun _ _ _ h => h) (Or.inr ⟨by rfl, rfl⟩) dd2 ?_
  try simp only [Act.put, List.setIfInBounds_toArray, List.set_cons_zero, List.set_cons_succ]
  refine wpAnyH_take (i := 21) (oi := { dst := Option.some 107, op := Go.Op.load 24 (Go.Operand.tmp 106), type := 24, pos := "device.go:182", after := #[{ on := 20, ground := Go.Ground.data }, { on := 14, ground := Go.Ground.guard }], guard := Option.some (14, Bool.true) }) (v := undef) rfl (by kernel_rfl) (by kernel_rfl) (by kernel_rfl) (fun _ _ _ h => h) (Or.inr ⟨by rfl, rfl⟩) dd2 ?_
  try simp only [Act.put, List.setIfInBounds_toArray, List.set_cons_zero, List.set_cons_succ]
  refine wpAnyH_take (i := 22) (oi := { dst := Option.some 108, op := Go.Op.binOp Go.BinOp.lss 24 (Go.Operand.tmp 102) (Go.Operand.tmp 107) 24, type := 4, pos := "device.go:182", after := #[{ on := 16, ground := Go.Ground.data }, { on := 21, ground := Go.Ground.data }, { on := 14, ground := Go.Ground.guard }], guard := Option.some (14, Bool.true) }) (v := undef) rfl (by kernel_rfl) (by kernel_rfl) (by kernel_rfl) (fun _ _ _ h => h) (Or.inr ⟨by rfl, rfl⟩) dd2 ?_
  try simp only [Act.put, List.setIfInBounds_toArray, List.set_cons_zero, List.set_cons_succ]
  refine wpAnyH_take (i := 23) (oi := { dst := Option.some 109, op := Go.Op.pick (Go.Operand.tmp 100) (Go.Operand.tmp 108) (Go.Operand.const (Go.Value.bool Bool.false)), type := 4, pos := "device.go:182", after := #[{ on := 14, ground := Go.Ground.data }, { on := 22, ground := Go.Ground.data }], guard := Option.none }) (v := ?_) rfl (by kernel_rfl) (by kernel_rfl) (by kernel_rfl) (fun _ _ _ h => h) (Or.inl ⟨by rfl, ?_⟩) dd2 ?_
  rotate_left 1
  focus (intro w hSw; (try dsimp only at hSw); go_simp; try with_reducible rfl)
  try simp only [Act.put, List.setIfInBounds_toArray, List.set_cons_zero, List.set_cons_succ]
  refine wpAnyH_done (by kernel_rfl) ?_ _
  clear dd dd2
  obtain ⟨f1, f4, f11, f12, f13, y0, y1, y2, y3, y4, y5⟩ := FK.out _ k1
  go_wp2_with fail
  clear f1 f4 f11 f12 f13 y0 y1 y2 y3 y4 y5
  have KM := Lib.hid k1
  have HM := Lib.hid (HA.out.nil k1)
  have UM := Lib.hid (k1.has UA.out (by simp))
  have DM := Lib.hid (DA.out.kept k1 (by simp))
  have KQ := Lib.hid (KG.nil (G := G) (KA.out.trans k1))
  have HGM := Lib.hid (HG.out.kg KQ.out)
  clear k1
  refine (odds_call HX.out 130 HGM.out HM.out).mono ?_
  rintro e w5 ⟨f, rfl, k5, h5, f5⟩
  have K5 := Lib.hid (kgM (m := m) (mb := mb) (KQ.out.trans k5))
  have H5 := Lib.hid h5.dev
  have F5 := Lib.hid (FrameOf.after KQ.out.size f5)
  clear k5 h5 f5
  obtain ⟨p5, l5, n5, rfl⟩ := DevC.FrameOf.shape F5.out
  go_wp2_with fail
  go_ret2
  exact ⟨_, rfl, K5.out, H5.out, F5.out⟩
set_option maxRecDepth 100000 in
set_option maxHeartbeats 1600000 in
theorem take4c (hx : DOk x) (hG : Opn G w) (h : DAt G w b d v g o lg k c m mb s x) (u : U) (vd : Value) (hd : Bytes w vd u.data) (hb : By u.data) (h1 : u.kind = 4) (h2 : x.next u) (h3 : (u.data.length : Int) = x.p.out) (h4 : ¬ u.num < x.p.count) :
    Calls Tryz.prog 134 #[.pointer (some ⟨b, 0, none⟩), uval u vd] w fun e w' => Rep G w w' b m mb e (x.odds 130) := by
  obtain ⟨dp, dc, rfl, hdc⟩ := sl_shape hd
  have HH := Lib.hid h
  have HX := Lib.hid hx
  have HG := Lib.hid hG
  have HD := Lib.hid hd
  have HB := Lib.hid hb
  have hlt := h.top.lt
  have KA := Lib.hid ((Kept.refl [] w).alloc (.cells #[.int .i64 u.kind, .int .u32 u.code, .int .u32 u.ses, .int .u32 u.num, .int .i64 u.flags, .slice dp u.data.length dc] 63))
  have UA := Lib.hid (Has.new w 63 [.int .i64 u.kind, .int .u32 u.code, .int .u32 u.ses, .int .u32 u.num, .int .i64 u.flags, .slice dp u.data.length dc])
  have Xh1 := Lib.hid h1
  have Xh2 := Lib.hid h2
  have Xh3 := Lib.hid h3
  have Xh4 := Lib.hid h4
  have e0 : (u.kind == 1) = false := by simp [h1]
  have e1 : (u.kind == 2) = false := by simp [h1]
  have e2 : (u.kind == 3) = false := by simp [h1]
  have e3 : (u.kind == 4) = true := by simp [h1]
  have e4 : ((u.data.length : Int) == x.p.out) = true := by simp [h3]
  have e5 : decide (u.num < x.p.count) = false := by simp; omega
  clear h hx hG hd hb h1 h2 h3 h4
  unfold uval
  go_enter Tryz.func134, Tryz.ntmps134
  go_wp2_with fail
  have HA := Lib.hid (HH.out.nil KA.out)
  have DA := Lib.hid (HD.out.kept KA.out (by simp))
  generalize w.alloc (.cells #[.int .i64 u.kind, .int .u32 u.code, .int .u32 u.ses, .int .u32 u.num, .int .i64 u.flags, .slice dp u.data.length dc] 63) = wa at KA UA HA DA ⊢
  obtain ⟨R, hR⟩ : ∃ R, R = w.heap.size := ⟨_, rfl⟩
  rw [← hR] at UA ⊢
  have RR := Lib.hid (Nat.le_of_eq hR.symm)
  clear hR hlt
  have FK := Lib.hid (show ∀ w', Kept [] wa w' → (w'.cell? ⟨b, 1, none⟩ = some (.int .i64 x.p.out) ∧ w'.cell? ⟨b, 4, none⟩ = some (.int .u32 x.p.count) ∧ w'.cell? ⟨b, 11, none⟩ = some (.int .i64 x.state) ∧ w'.cell? ⟨b, 12, none⟩ = some (.int .u32 x.ses) ∧ w'.cell? ⟨b, 13, none⟩ = some (.int .u32 x.num) ∧ w'.cell? ⟨R, 0, none⟩ = some (.int .i64 u.kind) ∧ w'.cell? ⟨R, 1, none⟩ = some (.int .u32 u.code) ∧ w'.cell? ⟨R, 2, none⟩ = some (.int .u32 u.ses) ∧ w'.cell? ⟨R, 3, none⟩ = some (.int .u32 u.num) ∧ w'.cell? ⟨R, 4, none⟩ = some (.int .i64 u.flags) ∧ w'.cell? ⟨R, 5, none⟩ = some (.slice dp u.data.length dc)) from fun w' q => ⟨(q.has HA.out.top (by simp)).cell 1 rfl, (q.has HA.out.top (by simp)).cell 4 rfl, (q.has HA.out.top (by simp)).cell 11 rfl, (q.has HA.out.top (by simp)).cell 12 rfl, (q.has HA.out.top (by simp)).cell 13 rfl, (q.has UA.out (by simp)).cell 0 rfl, (q.has UA.out (by simp)).cell 1 rfl, (q.has UA.out (by simp)).cell 2 rfl, (q.has UA.out (by simp)).cell 3 rfl, (q.has UA.out (by simp)).cell 4 rfl, (q.has UA.out (by simp)).cell 5 rfl⟩)
  have k0 := Kept.refl [] wa
  have NC := Lib.hid (next_call HX.out (HG.out.kg (KG.nil (G := G) KA.out.drew)) (HA.out.nil ((Kept.refl [] wa).drew)) u (.slice dp u.data.length dc) (DA.out.kept ((Kept.refl [] wa).drew) (by simp)) HB.out)
  rw [show decide (x.next u) = true by simpa using Xh2.out] at NC
  unfold uval at NC
  have dd := FK.out _ ((Kept.refl [] wa).drew)
  clear k0
  go_region_held3 (fun w' => w'.cell? ⟨b, 1, none⟩ = some (.int .i64 x.p.out) ∧ w'.cell? ⟨b, 4, none⟩ = some (.int .u32 x.p.count) ∧ w'.cell? ⟨b, 11, none⟩ = some (.int .i64 x.state) ∧ w'.cell? ⟨b, 12, none⟩ = some (.int .u32 x.ses) ∧ w'.cell? ⟨b, 13, none⟩ = some (.int .u32 x.num) ∧ w'.cell? ⟨R, 0, none⟩ = some (.int .i64 u.kind) ∧ w'.cell? ⟨R, 1, none⟩ = some (.int .u32 u.code) ∧ w'.cell? ⟨R, 2, none⟩ = some (.int .u32 u.ses) ∧ w'.cell? ⟨R, 3, none⟩ = some (.int .u32 u.num) ∧ w'.cell? ⟨R, 4, none⟩ = some (.int .i64 u.flags) ∧ w'.cell? ⟨R, 5, none⟩ = some (.slice dp u.data.length dc)) (with_reducible assumption) ((go_at_call 165; with_reducible refine NC.out.mono ?_; rintro e wq1 ⟨rfl, kn⟩; have k1 := ((Kept.refl [] wa).drew).trans kn; have dd2 := FK.out _ k1; clear kn))
  clear dd dd2
  obtain ⟨f1, f4, f11, f12, f13, y0, y1, y2, y3, y4, y5⟩ := FK.out _ k1
  go_wp2_with fail
  clear f1 f4 f11 f12 f13 y0 y1 y2 y3 y4 y5
  have KM := Lib.hid k1
  have HM := Lib.hid (HA.out.nil k1)
  have UM := Lib.hid (k1.has UA.out (by simp))
  have DM := Lib.hid (DA.out.kept k1 (by simp))
  have KQ := Lib.hid (KG.nil (G := G) (KA.out.trans k1))
  have HGM := Lib.hid (HG.out.kg KQ.out)
  clear k1
  refine (odds_call HX.out 130 HGM.out HM.out).mono ?_
  rintro e w5 ⟨f, rfl, k5, h5, f5⟩
  have K5 := Lib.hid (kgM (m := m) (mb := mb) (KQ.out.trans k5))
  have H5 := Lib.hid h5.dev
  have F5 := Lib.hid (FrameOf.after KQ.out.size f5)
  clear k5 h5 f5
  obtain ⟨p5, l5, n5, rfl⟩ := DevC.FrameOf.shape F5.out
  go_wp2_with fail
  go_ret2
  exact ⟨_, rfl, K5.out, H5.out, F5.out⟩
set_option maxRecDepth 100000 in
set_option maxHeartbeats 1600000 in
theorem take4y (hx : DOk x) (hG : Opn G w) (h : DAt G w b d v g o lg k c m mb s x) (u : U) (vd : Value) (hd : Bytes w vd u.data) (hb : By u.data) (h1 : u.kind = 4) (h2 : x.next u) (h3 : (u.data.length : Int) = x.p.out) (h4 : u.num < x.p.count) (hfl : 0 ≤ u.flags ∧ u.flags ≤ 15) (hnd : ∀ b' off n c, vd = .slice (some ⟨b', off, none⟩) n c → u.data ≠ [] → ¬ G b') :
    Calls Tryz.prog 134 #[.pointer (some ⟨b, 0, none⟩), uval u vd] w fun e w' => Rep G w w' b m mb e (x.fed u) := by
  obtain ⟨dp, dc, rfl, hdc⟩ := sl_shape hd
  have HH := Lib.hid h
  have HX := Lib.hid hx
  have HG := Lib.hid hG
  have HD := Lib.hid hd
  have HB := Lib.hid hb
  have hlt := h.top.lt
  have KA := Lib.hid ((Kept.refl [] w).alloc (.cells #[.int .i64 u.kind, .int .u32 u.code, .int .u32 u.ses, .int .u32 u.num, .int .i64 u.flags, .slice dp u.data.length dc] 63))
  have UA := Lib.hid (Has.new w 63 [.int .i64 u.kind, .int .u32 u.code, .int .u32 u.ses, .int .u32 u.num, .int .i64 u.flags, .slice dp u.data.length dc])
  have Xh1 := Lib.hid h1
  have Xh2 := Lib.hid h2
  have Xh3 := Lib.hid h3
  have Xh4 := Lib.hid h4
  have Xhfl := Lib.hid hfl
  have Xhnd := Lib.hid hnd
  have e0 : (u.kind == 1) = false := by simp [h1]
  have e1 : (u.kind == 2) = false := by simp [h1]
  have e2 : (u.kind == 3) = false := by simp [h1]
  have e3 : (u.kind == 4) = true := by simp [h1]
  have e4 : ((u.data.length : Int) == x.p.out) = true := by simp [h3]
  have e5 : decide (u.num < x.p.count) = true := by simp; omega
  clear h hx hG hd hb h1 h2 h3 h4 hfl hnd
  unfold uval
  go_enter Tryz.func134, Tryz.ntmps134
  go_wp2_with fail
  have HA := Lib.hid (HH.out.nil KA.out)
  have DA := Lib.hid (HD.out.kept KA.out (by simp))
  generalize w.alloc (.cells #[.int .i64 u.kind, .int .u32 u.code, .int .u32 u.ses, .int .u32 u.num, .int .i64 u.flags, .slice dp u.data.length dc] 63) = wa at KA UA HA DA ⊢
  obtain ⟨R, hR⟩ : ∃ R, R = w.heap.size := ⟨_, rfl⟩
  rw [← hR] at UA ⊢
  have RR := Lib.hid (Nat.le_of_eq hR.symm)
  clear hR hlt
  have FK := Lib.hid (show ∀ w', Kept [] wa w' → (w'.cell? ⟨b, 1, none⟩ = some (.int .i64 x.p.out) ∧ w'.cell? ⟨b, 4, none⟩ = some (.int .u32 x.p.count) ∧ w'.cell? ⟨b, 11, none⟩ = some (.int .i64 x.state) ∧ w'.cell? ⟨b, 12, none⟩ = some (.int .u32 x.ses) ∧ w'.cell? ⟨b, 13, none⟩ = some (.int .u32 x.num) ∧ w'.cell? ⟨R, 0, none⟩ = some (.int .i64 u.kind) ∧ w'.cell? ⟨R, 1, none⟩ = some (.int .u32 u.code) ∧ w'.cell? ⟨R, 2, none⟩ = some (.int .u32 u.ses) ∧ w'.cell? ⟨R, 3, none⟩ = some (.int .u32 u.num) ∧ w'.cell? ⟨R, 4, none⟩ = some (.int .i64 u.flags) ∧ w'.cell? ⟨R, 5, none⟩ = some (.slice dp u.data.length dc)) from fun w' q => ⟨(q.has HA.out.top (by simp)).cell 1 rfl, (q.has HA.out.top (by simp)).cell 4 rfl, (q.has HA.out.top (by simp)).cell 11 rfl, (q.has HA.out.top (by simp)).cell 12 rfl, (q.has HA.out.top (by simp)).cell 13 rfl, (q.has UA.out (by simp)).cell 0 rfl, (q.has UA.out (by simp)).cell 1 rfl, (q.has UA.out (by simp)).cell 2 rfl, (q.has UA.out (by simp)).cell 3 rfl, (q.has UA.out (by simp)).cell 4 rfl, (q.has UA.out (by simp)).cell 5 rfl⟩)
  have k0 := Kept.refl [] wa
  have NC := Lib.hid (next_call HX.out (HG.out.kg (KG.nil (G := G) KA.out.drew)) (HA.out.nil ((Kept.refl [] wa).drew)) u (.slice dp u.data.length dc) (DA.out.kept ((Kept.refl [] wa).drew) (by simp)) HB.out)
  rw [show decide (x.next u) = true by simpa using Xh2.out] at NC
  unfold uval at NC
  have dd := FK.out _ ((Kept.refl [] wa).drew)
  clear k0
  go_region_held3 (fun w' => w'.cell? ⟨b, 1, none⟩ = some (.int .i64 x.p.out) ∧ w'.cell? ⟨b, 4, none⟩ = some (.int .u32 x.p.count) ∧ w'.cell? ⟨b, 11, none⟩ = some (.int .i64 x.state) ∧ w'.cell? ⟨b, 12, none⟩ = some (.int .u32 x.ses) ∧ w'.cell? ⟨b, 13, none⟩ = some (.int .u32 x.num) ∧ w'.cell? ⟨R, 0, none⟩ = some (.int .i64 u.kind) ∧ w'.cell? ⟨R, 1, none⟩ = some (.int .u32 u.code) ∧ w'.cell? ⟨R, 2, none⟩ = some (.int .u32 u.ses) ∧ w'.cell? ⟨R, 3, none⟩ = some (.int .u32 u.num) ∧ w'.cell? ⟨R, 4, none⟩ = some (.int .i64 u.flags) ∧ w'.cell? ⟨R, 5, none⟩ = some (.slice dp u.data.length dc)) (with_reducible assumption) ((go_at_call 165; with_reducible refine NC.out.mono ?_; rintro e wq1 ⟨rfl, kn⟩; have k1 := ((Kept.refl [] wa).drew).trans kn; have dd2 := FK.out _ k1; clear kn))
  clear dd dd2
  obtain ⟨f1, f4, f11, f12, f13, y0, y1, y2, y3, y4, y5⟩ := FK.out _ k1
  go_wp2_with fail
  clear f1 f4 f11 f12 f13 y0 y1 y2 y3 y4 y5
  have KM := Lib.hid k1
  have HM := Lib.hid (HA.out.nil k1)
  have UM := Lib.hid (k1.has UA.out (by simp))
  have DM := Lib.hid (DA.out.kept k1 (by simp))
  have KQ := Lib.hid (KG.nil (G := G) (KA.out.trans k1))
  have HGM := Lib.hid (HG.out.kg KQ.out)
  clear k1
  have AC := Lib.hid (fed_call HX.out HGM.out HM.out u (.slice dp u.data.length dc) DM.out HB.out Xhfl.out Xhnd.out Xh2.out.1 Xh3.out Xh2.out.2.2 Xh4.out)
  unfold uval at AC
  refine AC.out.mono ?_
  rintro e w5 ⟨f, rfl, k5, h5, f5⟩
  have K5 := Lib.hid (KG.trans (kgM (m := m) (mb := mb) KQ.out) k5)
  have H5 := Lib.hid h5
  have F5 := Lib.hid (FrameOf.after KQ.out.size f5)
  clear k5 h5 f5
  obtain ⟨p5, l5, n5, rfl⟩ := DevC.FrameOf.shape F5.out
  go_wp2_with fail
  go_ret2
  exact ⟨_, rfl, K5.out, H5.out, F5.out⟩
set_option maxRecDepth 100000 in
set_option maxHeartbeats 1600000 in
theorem take5n (hx : DOk x) (hG : Opn G w) (h : DAt G w b d v g o lg k c m mb s x) (u : U) (vd : Value) (hd : Bytes w vd u.data) (hb : By u.data) (h1 : u.kind = 5) (h2 : ¬ x.next u) :
    Calls Tryz.prog 134 #[.pointer (some ⟨b, 0, none⟩), uval u vd] w fun e w' => Rep G w w' b m mb e (x.odds 130) := by
  obtain ⟨dp, dc, rfl, hdc⟩ := sl_shape hd
  have HH := Lib.hid h
  have HX := Lib.hid hx
  have HG := Lib.hid hG
  have HD := Lib.hid hd
  have HB := Lib.hid hb
  have hlt := h.top.lt
  have KA := Lib.hid ((Kept.refl [] w).alloc (.cells #[.int .i64 u.kind, .int .u32 u.code, .int .u32 u.ses, .int .u32 u.num, .int .i64 u.flags, .slice dp u.data.length dc] 63))
  have UA := Lib.hid (Has.new w 63 [.int .i64 u.kind, .int .u32 u.code, .int .u32 u.ses, .int .u32 u.num, .int .i64 u.flags, .slice dp u.data.length dc])
  have Xh1 := Lib.hid h1
  have Xh2 := Lib.hid h2
  have e0 : (u.kind == 1) = false := by simp [h1]
  have e1 : (u.kind == 2) = false := by simp [h1]
  have e2 : (u.kind == 3) = false := by simp [h1]
  have e3 : (u.kind == 4) = false := by simp [h1]
  have e4 : (u.kind == 5) = true := by simp [h1]
  clear h hx hG hd hb h1 h2
  unfold uval
  go_enter Tryz.func134, Tryz.ntmps134
  go_wp2_with fail
  have HA := Lib.hid (HH.out.nil KA.out)
  have DA := Lib.hid (HD.out.kept KA.out (by simp))
  generalize w.alloc (.cells #[.int .i64 u.kind, .int .u32 u.code, .int .u32 u.ses, .int .u32 u.num, .int .i64 u.flags, .slice dp u.data.length dc] 63) = wa at KA UA HA DA ⊢
  obtain ⟨R, hR⟩ : ∃ R, R = w.heap.size := ⟨_, rfl⟩
  rw [← hR] at UA ⊢
  have RR := Lib.hid (Nat.le_of_eq hR.symm)
  clear hR hlt
  have FK := Lib.hid (show ∀ w', Kept [] wa w' → (w'.cell? ⟨b, 1, none⟩ = some (.int .i64 x.p.out) ∧ w'.cell? ⟨b, 4, none⟩ = some (.int .u32 x.p.count) ∧ w'.cell? ⟨b, 11, none⟩ = some (.int .i64 x.state) ∧ w'.cell? ⟨b, 12, none⟩ = some (.int .u32 x.ses) ∧ w'.cell? ⟨b, 13, none⟩ = some (.int .u32 x.num) ∧ w'.cell? ⟨R, 0, none⟩ = some (.int .i64 u.kind) ∧ w'.cell? ⟨R, 1, none⟩ = some (.int .u32 u.code) ∧ w'.cell? ⟨R, 2, none⟩ = some (.int .u32 u.ses) ∧ w'.cell? ⟨R, 3, none⟩ = some (.int .u32 u.num) ∧ w'.cell? ⟨R, 4, none⟩ = some (.int .i64 u.flags) ∧ w'.cell? ⟨R, 5, none⟩ = some (.slice dp u.data.length dc)) from fun w' q => ⟨(q.has HA.out.top (by simp)).cell 1 rfl, (q.has HA.out.top (by simp)).cell 4 rfl, (q.has HA.out.top (by simp)).cell 11 rfl, (q.has HA.out.top (by simp)).cell 12 rfl, (q.has HA.out.top (by simp)).cell 13 rfl, (q.has UA.out (by simp)).cell 0 rfl, (q.has UA.out (by simp)).cell 1 rfl, (q.has UA.out (by simp)).cell 2 rfl, (q.has UA.out (by simp)).cell 3 rfl, (q.has UA.out (by simp)).cell 4 rfl, (q.has UA.out (by simp)).cell 5 rfl⟩)
  have k0 := Kept.refl [] wa
  have NC := Lib.hid (next_call HX.out (HG.out.kg (KG.nil (G := G) KA.out.drew)) (HA.out.nil ((Kept.refl [] wa).drew)) u (.slice dp u.data.length dc) (DA.out.kept ((Kept.refl [] wa).drew) (by simp)) HB.out)
  rw [show decide (x.next u) = false by simpa using Xh2.out] at NC
  unfold uval at NC
  have dd := FK.out _ ((Kept.refl [] wa).drew)
  clear k0
  refine wp_region_held_drew (S := fun w' => w'.cell? ⟨b, 1, none⟩ = some (.int .i64 x.p.out) ∧ w'.cell? ⟨b, 4, none⟩ = some (.int .u32 x.p.count) ∧ w'.cell? ⟨b, 11, none⟩ = some (.int .i64 x.state) ∧ w'.cell? ⟨b, 12, none⟩ = some (.int .u32 x.ses) ∧ w'.cell? ⟨b, 13, none⟩ = some (.int .u32 x.num) ∧ w'.cell? ⟨R, 0, none⟩ = some (.int .i64 u.kind) ∧ w'.cell? ⟨R, 1, none⟩ = some (.int .u32 u.code) ∧ w'.cell? ⟨R, 2, none⟩ = some (.int .u32 u.ses) ∧ w'.cell? ⟨R, 3, none⟩ = some (.int .u32 u.num) ∧ w'.cell? ⟨R, 4, none⟩ = some (.int .i64 u.flags) ∧ w'.cell? ⟨R, 5, none⟩ = some (.slice dp u.data.length dc)) (by kernel_rfl) dd (fun hHeld => ?_)
  refine wpAnyH_take (i := 0) (oi := { dst := Option.some 117, op := Go.Op.move (Go.Operand.tmp 0), type := 88, pos := "device.go:186", after := #[], guard := Option.none }) (v := ?_) rfl (by kernel_rfl) (by kernel_rfl) (by kernel_rfl) (fun _ _ _ h => h) (Or.inl ⟨by rfl, ?_⟩) dd ?_
  rotate_left 1
  focus (intro w hSw; (try dsimp only at hSw); go_simp; try with_reducible rfl)
  try simp only [Act.put, List.setIfInBounds_toArray, List.set_cons_zero, List.set_cons_succ]
  refine wpAnyH_take (i := 1) (oi := { dst := Option.some 118, op := Go.Op.load 63 (Go.Operand.tmp 3), type := 63, pos := "device.go:186", after := #[], guard := Option.none }) (v := ?_) rfl (by kernel_rfl) (by kernel_rfl) (by kernel_rfl) (fun _ _ _ h => h) (Or.inl ⟨by rfl, ?_⟩) dd ?_
  rotate_left 1
  focus (intro w hSw; (try dsimp only at hSw); go_simp; try with_reducible rfl)
  try simp only [Act.put, List.setIfInBounds_toArray, List.set_cons_zero, List.set_cons_succ]
  refine wpAnyH_ready (rs := [2]) (by kernel_rfl) (by simp) ?_
  refine AllReadyH.cons (o := { dst := Option.some 119, op := Go.Op.call { callee := Go.Callee.value (Go.Operand.func 165), args := #[Go.Operand.tmp 117, Go.Operand.tmp 118], argTypes := #[88, 63] }, type := 4, pos := "device.go:186", after := #[{ on := 0, ground := Go.Ground.data }, { on := 1, ground := Go.Ground.data }], guard := Option.none }) rfl (fun K hK => ?_) AllReadyH.nil
  go_simp
  go_at_call 165
  refine NC.out.mono ?_
  rintro e wq1 ⟨rfl, kn⟩
  have k1 := ((Kept.refl [] wa).drew).trans kn
  have dd2 := FK.out _ k1
  clear kn
  refine hK.out _ _ dd2 (fun _ => ?_)
  clear hK K
  try simp only [Act.put, List.setIfInBounds_toArray, List.set_cons_zero, List.set_cons_succ]
  refine wpAnyH_take (i := 3) (oi := { dst := Option.some 120, op := Go.Op.move (Go.Operand.tmp 119), type := 4, pos := "device.go:186", after := #[{ on := 2, ground := Go.Ground.data }, { on := 2, ground := Go.Ground.chain }], guard := Option.none }) (v := ?_) rfl (by kernel_rfl) (by kernel_rfl) (by kernel_rfl) (fun _ _ _ h => h) (Or.inl ⟨by rfl, ?_⟩) dd2 ?_
  rotate_left 1
  focus (intro w hSw; (try dsimp only at hSw); go_simp; try with_reducible rfl)
  try simp only [Act.put, List.setIfInBounds_toArray, List.set_cons_zero, List.set_cons_succ]
  refine wpAnyH_take (i := 4) (oi := { dst := Option.some 121, op := Go.Op.fieldAddr 63 (Go.Operand.tmp 3) 3, type := 0, pos := "device.go:186", after := #[{ on := 3, ground := Go.Ground.guard }], guard := Option.some (3, Bool.true) }) (v := undef) rfl (by kernel_rfl) (by kernel_rfl) (by kernel_rfl) (fun _ _ _ h => h) (Or.inr ⟨by rfl, rfl⟩) dd2 ?_
  try simp only [Act.put, List.setIfInBounds_toArray, List.set_cons_zero, List.set_cons_succ]
  refine wpAnyH_take (i := 5) (oi := { dst := Option.some 122, op := Go.Op.load 24 (Go.Operand.tmp 121), type := 24, pos := "device.go:186", after := #[{ on := 4, ground := Go.Ground.data }, { on := 3, ground := Go.Ground.guard }], guard := Option.some (3, Bool.true) }) (v := undef) rfl (by kernel_rfl) (by kernel_rfl) (by kernel_rfl) (fun _ _ _ h => h) (Or.inr ⟨by rfl, rfl⟩) dd2 ?_
  try simp only [Act.put, List.setIfInBounds_toArray, List.set_cons_zero, List.set_cons_succ]
  refine wpAnyH_take (i := 6) (oi := { dst := Option.some 123, op := Go.Op.move (Go.Operand.tmp 0), type := 88, pos := "device.go:186", after := #[{ on := 3, ground := Go.Ground.guard }], guard := Option.some (3, Bool.true) }) (v := undef) rfl (by kernel_rfl) (by kernel_rfl) (by kernel_rfl) (fun _ _ _ h => h) (Or.inr ⟨by rfl, rfl⟩) dd2 ?_
  try simp only [Act.put, List.setIfInBounds_toArray, List.set_cons_zero, List.set_cons_succ]
  refine wpAnyH_take (i := 7) (oi := { dst := Option.some 124, op := Go.Op.nilCheck (Go.Operand.tmp 123), type := 0, pos := "device.go:186", after := #[{ on := 6, ground := Go.Ground.data }, { on := 3, ground := Go.Ground.guard }], guard := Option.some (3, Bool.true) }) (v := undef) rfl (by kernel_rfl) (by kernel_rfl) (by kernel_rfl) (fun _ _ _ h => h) (Or.inr ⟨by rfl, rfl⟩) dd2 ?_
  try simp only [Act.put, List.setIfInBounds_toArray, List.set_cons_zero, List.set_cons_succ]
  refine wpAnyH_take (i := 8) (oi := { dst := Option.some 125, op := Go.Op.fieldAddr 142 (Go.Operand.tmp 124) 0, type := 0, pos := "device.go:186", after := #[{ on := 7, ground := Go.Ground.data }, { on := 3, ground := Go.Ground.guard }], guard := Option.some (3, Bool.true) }) (v := undef) rfl (by kernel_rfl) (by kernel_rfl) (by kernel_rfl) (fun _ _ _ h => h) (Or.inr ⟨by rfl, rfl⟩) dd2 ?_
  try simp only [Act.put, List.setIfInBounds_toArray, List.set_cons_zero, List.set_cons_succ]
  refine wpAnyH_take (i := 9) (oi := { dst := Option.some 126, op := Go.Op.fieldAddr 50 (Go.Operand.tmp 125) 4, type := 0, pos := "device.go:186", after := #[{ on := 8, ground := Go.Ground.data }, { on := 3, ground := Go.Ground.guard }], guard := Option.some (3, Bool.true) }) (v := undef) rfl (by kernel_rfl) (by kernel_rfl) (by kernel_rfl) (fun _ _ _ h => h) (Or.inr ⟨by rfl, rfl⟩) dd2 ?_
  try simp only [Act.put, List.setIfInBounds_toArray, List.set_cons_zero, List.set_cons_succ]
  refine wpAnyH_take (i := 10) (oi := { dst := Option.some 127, op := Go.Op.load 24 (Go.Operand.tmp 126), type := 24, pos := "device.go:186", after := #[{ on := 9, ground := Go.Ground.data }, { on := 3, ground := Go.Ground.guard }], guard := Option.some (3, Bool.true) }) (v := undef) rfl (by kernel_rfl) (by kernel_rfl) (by kernel_rfl) (fun _ _ _ h => h) (Or.inr ⟨by rfl, rfl⟩) dd2 ?_
  try simp only [Act.put, List.setIfInBounds_toArray, List.set_cons_zero, List.set_cons_succ]
  refine wpAnyH_take (i := 11) (oi := { dst := Option.some 128, op := Go.Op.binOp Go.BinOp.eql 24 (Go.Operand.tmp 122) (Go.Operand.tmp 127) 24, type := 4, pos := "device.go:186", after := #[{ on := 5, ground := Go.Ground.data }, { on := 10, ground := Go.Ground.data }, { on := 3, ground := Go.Ground.guard }], guard := Option.some (3, Bool.true) }) (v := undef) rfl (by kernel_rfl) (by kernel_rfl) (by kernel_rfl) (fun _ _ _ h => h) (Or.inr ⟨by rfl, rfl⟩) dd2 ?_
  try simp only [Act.put, List.setIfInBounds_toArray, List.set_cons_zero, List.set_cons_succ]
  refine wpAnyH_take (i := 12) (oi := { dst := Option.some 129, op := Go.Op.pick (Go.Operand.tmp 120) (Go.Operand.tmp 128) (Go.Operand.const (Go.Value.bool Bool.false)), type := 4, pos := "device.go:186", after := #[{ on := 3, ground := Go.Ground.data }, { on := 11, ground := Go.Ground.data }], guard := Option.none }) (v := ?_) rfl (by kernel_rfl) (by kernel_rfl) (by kernel_rfl) (fun _ _ _ h => h) (Or.inl ⟨by rfl, ?_⟩) dd2 ?_
  rotate_left 1
  focus (intro w hSw; (try dsimp only at hSw); go_simp; try with_reducible rfl)
  try simp only [Act.put, List.setIfInBounds_toArray, List.set_cons_zero, List.set_cons_succ]
  refine wpAnyH_done (by kernel_rfl) ?_ _
  clear dd dd2
  obtain ⟨f1, f4, f11, f12, f13, y0, y1, y2, y3, y4, y5⟩ := FK.out _ k1
  go_wp2_with fail
  clear f1 f4 f11 f12 f13 y0 y1 y2 y3 y4 y5
  have KM := Lib.hid k1
  have HM := Lib.hid (HA.out.nil k1)
  have UM := Lib.hid (k1.has UA.out (by simp))
  have DM := Lib.hid (DA.out.kept k1 (by simp))
  have KQ := Lib.hid (KG.nil (G := G) (KA.out.trans k1))
  have HGM := Lib.hid (HG.out.kg KQ.out)
  clear k1
  refine (odds_call HX.out 130 HGM.out HM.out).mono ?_
  rintro e w5 ⟨f, rfl, k5, h5, f5⟩
  have K5 := Lib.hid (kgM (m := m) (mb := mb) (KQ.out.trans k5))
  have H5 := Lib.hid h5.dev
  have F5 := Lib.hid (FrameOf.after KQ.out.size f5)
  clear k5 h5 f5
  obtain ⟨p5, l5, n5, rfl⟩ := DevC.FrameOf.shape F5.out
  go_wp2_with fail
  go_ret2
  exact ⟨_, rfl, K5.out, H5.out, F5.out⟩
set_option maxRecDepth 100000 in
set_option maxHeartbeats 1600000 in
theorem take5c (hx : DOk x) (hG : Opn G w) (h : DAt G w b d v g o lg k c m mb s x) (u : U) (vd : Value) (hd : Bytes w vd u.data) (hb : By u.data) (h1 : u.kind = 5) (h2 : x.next u) (h3 : u.num ≠ x.p.count) :
    Calls Tryz.prog 134 #[.pointer (some ⟨b, 0, none⟩), uval u vd] w fun e w' => Rep G w w' b m mb e (x.odds 130) := by
  obtain ⟨dp, dc, rfl, hdc⟩ := sl_shape hd
  have HH := Lib.hid h
  have HX := Lib.hid hx
  have HG := Lib.hid hG
  have HD := Lib.hid hd
  have HB := Lib.hid hb
  have hlt := h.top.lt
  have KA := Lib.hid ((Kept.refl [] w).alloc (.cells #[.int .i64 u.kind, .int .u32 u.code, .int .u32 u.ses, .int .u32 u.num, .int .i64 u.flags, .slice dp u.data.length dc] 63))
  have UA := Lib.hid (Has.new w 63 [.int .i64 u.kind, .int .u32 u.code, .int .u32 u.ses, .int .u32 u.num, .int .i64 u.flags, .slice dp u.data.length dc])
  have Xh1 := Lib.hid h1
  have Xh2 := Lib.hid h2
  have Xh3 := Lib.hid h3
  have e0 : (u.kind == 1) = false := by simp [h1]
  have e1 : (u.kind == 2) = false := by simp [h1]
  have e2 : (u.kind == 3) = false := by simp [h1]
  have e3 : (u.kind == 4) = false := by simp [h1]
  have e4 : (u.kind == 5) = true := by simp [h1]
  have e5 : (u.num == x.p.count) = false := by simp [h3]
  clear h hx hG hd hb h1 h2 h3
  unfold uval
  go_enter Tryz.func134, Tryz.ntmps134
  go_wp2_with fail
  have HA := Lib.hid (HH.out.nil KA.out)
  have DA := Lib.hid (HD.out.kept KA.out (by simp))
  generalize w.alloc (.cells #[.int .i64 u.kind, .int .u32 u.code, .int .u32 u.ses, .int .u32 u.num, .int .i64 u.flags, .slice dp u.data.length dc] 63) = wa at KA UA HA DA ⊢
  obtain ⟨R, hR⟩ : ∃ R, R = w.heap.size := ⟨_, rfl⟩
  rw [← hR] at UA ⊢
  have RR := Lib.hid (Nat.le_of_eq hR.symm)
  clear hR hlt
  have FK := Lib.hid (show ∀ w', Kept [] wa w' → (w'.cell? ⟨b, 1, none⟩ = some (.int .i64 x.p.out) ∧ w'.cell? ⟨b, 4, none⟩ = some (.int .u32 x.p.count) ∧ w'.cell? ⟨b, 11, none⟩ = some (.int .i64 x.state) ∧ w'.cell? ⟨b, 12, none⟩ = some (.int .u32 x.ses) ∧ w'.cell? ⟨b, 13, none⟩ = some (.int .u32 x.num) ∧ w'.cell? ⟨R, 0, none⟩ = some (.int .i64 u.kind) ∧ w'.cell? ⟨R, 1, none⟩ = some (.int .u32 u.code) ∧ w'.cell? ⟨R, 2, none⟩ = some (.int .u32 u.ses) ∧ w'.cell? ⟨R, 3, none⟩ = some (.int .u32 u.num) ∧ w'.cell? ⟨R, 4, none⟩ = some (.int .i64 u.flags) ∧ w'.cell? ⟨R, 5, none⟩ = some (.slice dp u.data.length dc)) from fun w' q => ⟨(q.has HA.out.top (by simp)).cell 1 rfl, (q.has HA.out.top (by simp)).cell 4 rfl, (q.has HA.out.top (by simp)).cell 11 rfl, (q.has HA.out.top (by simp)).cell 12 rfl, (q.has HA.out.top (by simp)).cell 13 rfl, (q.has UA.out (by simp)).cell 0 rfl, (q.has UA.out (by simp)).cell 1 rfl, (q.has UA.out (by simp)).cell 2 rfl, (q.has UA.out (by simp)).cell 3 rfl, (q.has UA.out (by simp)).cell 4 rfl, (q.has UA.out (by simp)).cell 5 rfl⟩)
  have k0 := Kept.refl [] wa
  have NC := Lib.hid (next_call HX.out (HG.out.kg (KG.nil (G := G) KA.out.drew)) (HA.out.nil ((Kept.refl [] wa).drew)) u (.slice dp u.data.length dc) (DA.out.kept ((Kept.refl [] wa).drew) (by simp)) HB.out)
  rw [show decide (x.next u) = true by simpa using Xh2.out] at NC
  unfold uval at NC
  have dd := FK.out _ ((Kept.refl [] wa).drew)
  clear k0
  go_region_held3 (fun w' => w'.cell? ⟨b, 1, none⟩ = some (.int .i64 x.p.out) ∧ w'.cell? ⟨b, 4, none⟩ = some (.int .u32 x.p.count) ∧ w'.cell? ⟨b, 11, none⟩ = some (.int .i64 x.state) ∧ w'.cell? ⟨b, 12, none⟩ = some (.int .u32 x.ses) ∧ w'.cell? ⟨b, 13, none⟩ = some (.int .u32 x.num) ∧ w'.cell? ⟨R, 0, none⟩ = some (.int .i64 u.kind) ∧ w'.cell? ⟨R, 1, none⟩ = some (.int .u32 u.code) ∧ w'.cell? ⟨R, 2, none⟩ = some (.int .u32 u.ses) ∧ w'.cell? ⟨R, 3, none⟩ = some (.int .u32 u.num) ∧ w'.cell? ⟨R, 4, none⟩ = some (.int .i64 u.flags) ∧ w'.cell? ⟨R, 5, none⟩ = some (.slice dp u.data.length dc)) (with_reducible assumption) ((go_at_call 165; with_reducible refine NC.out.mono ?_; rintro e wq1 ⟨rfl, kn⟩; have k1 := ((Kept.refl [] wa).drew).trans kn; have dd2 := FK.out _ k1; clear kn))
  clear dd dd2
  obtain ⟨f1, f4, f11, f12, f13, y0, y1, y2, y3, y4, y5⟩ := FK.out _ k1
  go_wp2_with fail
  clear f1 f4 f11 f12 f13 y0 y1 y2 y3 y4 y5
  have KM := Lib.hid k1
  have HM := Lib.hid (HA.out.nil k1)
  have UM := Lib.hid (k1.has UA.out (by simp))
  have DM := Lib.hid (DA.out.kept k1 (by simp))
  have KQ := Lib.hid (KG.nil (G := G) (KA.out.trans k1))
  have HGM := Lib.hid (HG.out.kg KQ.out)
  clear k1
  refine (odds_call HX.out 130 HGM.out HM.out).mono ?_
  rintro e w5 ⟨f, rfl, k5, h5, f5⟩
  have K5 := Lib.hid (kgM (m := m) (mb := mb) (KQ.out.trans k5))
  have H5 := Lib.hid h5.dev
  have F5 := Lib.hid (FrameOf.after KQ.out.size f5)
  clear k5 h5 f5
  obtain ⟨p5, l5, n5, rfl⟩ := DevC.FrameOf.shape F5.out
  go_wp2_with fail
  go_ret2
  exact ⟨_, rfl, K5.out, H5.out, F5.out⟩
set_option maxRecDepth 100000 in
set_option maxHeartbeats 1600000 in
theorem take5y (hx : DOk x) (hG : Opn G w) (h : DAt G w b d v g o lg k c m mb s x) (u : U) (vd : Value) (hd : Bytes w vd u.data) (hb : By u.data) (h1 : u.kind = 5) (h2 : x.next u) (h3 : u.num = x.p.count) :
    Calls Tryz.prog 134 #[.pointer (some ⟨b, 0, none⟩), uval u vd] w fun e w' => Rep G w w' b m mb e (x.ended u) := by
  obtain ⟨dp, dc, rfl, hdc⟩ := sl_shape hd
  have HH := Lib.hid h
  have HX := Lib.hid hx
  have HG := Lib.hid hG
  have HD := Lib.hid hd
  have HB := Lib.hid hb
  have hlt := h.top.lt
  have KA := Lib.hid ((Kept.refl [] w).alloc (.cells #[.int .i64 u.kind, .int .u32 u.code, .int .u32 u.ses, .int .u32 u.num, .int .i64 u.flags, .slice dp u.data.length dc] 63))
  have UA := Lib.hid (Has.new w 63 [.int .i64 u.kind, .int .u32 u.code, .int .u32 u.ses, .int .u32 u.num, .int .i64 u.flags, .slice dp u.data.length dc])
  have Xh1 := Lib.hid h1
  have Xh2 := Lib.hid h2
  have Xh3 := Lib.hid h3
  have e0 : (u.kind == 1) = false := by simp [h1]
  have e1 : (u.kind == 2) = false := by simp [h1]
  have e2 : (u.kind == 3) = false := by simp [h1]
  have e3 : (u.kind == 4) = false := by simp [h1]
  have e4 : (u.kind == 5) = true := by simp [h1]
  have e5 : (u.num == x.p.count) = true := by simp [h3]
  clear h hx hG hd hb h1 h2 h3
  unfold uval
  go_enter Tryz.func134, Tryz.ntmps134
  go_wp2_with fail
  have HA := Lib.hid (HH.out.nil KA.out)
  have DA := Lib.hid (HD.out.kept KA.out (by simp))
  generalize w.alloc (.cells #[.int .i64 u.kind, .int .u32 u.code, .int .u32 u.ses, .int .u32 u.num, .int .i64 u.flags, .slice dp u.data.length dc] 63) = wa at KA UA HA DA ⊢
  obtain ⟨R, hR⟩ : ∃ R, R = w.heap.size := ⟨_, rfl⟩
  rw [← hR] at UA ⊢
  have RR := Lib.hid (Nat.le_of_eq hR.symm)
  clear hR hlt
  have FK := Lib.hid (show ∀ w', Kept [] wa w' → (w'.cell? ⟨b, 1, none⟩ = some (.int .i64 x.p.out) ∧ w'.cell? ⟨b, 4, none⟩ = some (.int .u32 x.p.count) ∧ w'.cell? ⟨b, 11, none⟩ = some (.int .i64 x.state) ∧ w'.cell? ⟨b, 12, none⟩ = some (.int .u32 x.ses) ∧ w'.cell? ⟨b, 13, none⟩ = some (.int .u32 x.num) ∧ w'.cell? ⟨R, 0, none⟩ = some (.int .i64 u.kind) ∧ w'.cell? ⟨R, 1, none⟩ = some (.int .u32 u.code) ∧ w'.cell? ⟨R, 2, none⟩ = some (.int .u32 u.ses) ∧ w'.cell? ⟨R, 3, none⟩ = some (.int .u32 u.num) ∧ w'.cell? ⟨R, 4, none⟩ = some (.int .i64 u.flags) ∧ w'.cell? ⟨R, 5, none⟩ = some (.slice dp u.data.length dc)) from fun w' q => ⟨(q.has HA.out.top (by simp)).cell 1 rfl, (q.has HA.out.top (by simp)).cell 4 rfl, (q.has HA.out.top (by simp)).cell 11 rfl, (q.has HA.out.top (by simp)).cell 12 rfl, (q.has HA.out.top (by simp)).cell 13 rfl, (q.has UA.out (by simp)).cell 0 rfl, (q.has UA.out (by simp)).cell 1 rfl, (q.has UA.out (by simp)).cell 2 rfl, (q.has UA.out (by simp)).cell 3 rfl, (q.has UA.out (by simp)).cell 4 rfl, (q.has UA.out (by simp)).cell 5 rfl⟩)
  have k0 := Kept.refl [] wa
  have NC := Lib.hid (next_call HX.out (HG.out.kg (KG.nil (G := G) KA.out.drew)) (HA.out.nil ((Kept.refl [] wa).drew)) u (.slice dp u.data.length dc) (DA.out.kept ((Kept.refl [] wa).drew) (by simp)) HB.out)
  rw [show decide (x.next u) = true by simpa using Xh2.out] at NC
  unfold uval at NC
  have dd := FK.out _ ((Kept.refl [] wa).drew)
  clear k0
  go_region_held3 (fun w' => w'.cell? ⟨b, 1, none⟩ = some (.int .i64 x.p.out) ∧ w'.cell? ⟨b, 4, none⟩ = some (.int .u32 x.p.count) ∧ w'.cell? ⟨b, 11, none⟩ = some (.int .i64 x.state) ∧ w'.cell? ⟨b, 12, none⟩ = some (.int .u32 x.ses) ∧ w'.cell? ⟨b, 13, none⟩ = some (.int .u32 x.num) ∧ w'.cell? ⟨R, 0, none⟩ = some (.int .i64 u.kind) ∧ w'.cell? ⟨R, 1, none⟩ = some (.int .u32 u.code) ∧ w'.cell? ⟨R, 2, none⟩ = some (.int .u32 u.ses) ∧ w'.cell? ⟨R, 3, none⟩ = some (.int .u32 u.num) ∧ w'.cell? ⟨R, 4, none⟩ = some (.int .i64 u.flags) ∧ w'.cell? ⟨R, 5, none⟩ = some (.slice dp u.data.length dc)) (with_reducible assumption) ((go_at_call 165; with_reducible refine NC.out.mono ?_; rintro e wq1 ⟨rfl, kn⟩; have k1 := ((Kept.refl [] wa).drew).trans kn; have dd2 := FK.out _ k1; clear kn))
  clear dd dd2
  obtain ⟨f1, f4, f11, f12, f13, y0, y1, y2, y3, y4, y5⟩ := FK.out _ k1
  go_wp2_with fail
  clear f1 f4 f11 f12 f13 y0 y1 y2 y3 y4 y5
  have KM := Lib.hid k1
  have HM := Lib.hid (HA.out.nil k1)
  have UM := Lib.hid (k1.has UA.out (by simp))
  have DM := Lib.hid (DA.out.kept k1 (by simp))
  have KQ := Lib.hid (KG.nil (G := G) (KA.out.trans k1))
  have HGM := Lib.hid (HG.out.kg KQ.out)
  clear k1
  have AC := Lib.hid (ended_call HX.out HGM.out HM.out u (.slice dp u.data.length dc) DM.out HB.out Xh2.out.1 Xh2.out.2.2 Xh3.out)
  unfold uval at AC
  refine AC.out.mono ?_
  rintro e w5 ⟨f, rfl, k5, h5, f5⟩
  have K5 := Lib.hid (KG.trans (kgM (m := m) (mb := mb) KQ.out) k5)
  have H5 := Lib.hid h5
  have F5 := Lib.hid (FrameOf.after KQ.out.size f5)
  clear k5 h5 f5
  obtain ⟨p5, l5, n5, rfl⟩ := DevC.FrameOf.shape F5.out
  go_wp2_with fail
  go_ret2
  exact ⟨_, rfl, K5.out, H5.out, F5.out⟩
end Go.Proofs.YtinaliblnihpbaaGreat.DevC
