/- The walks and the plain laws of HostO, HostQ, HostR, HostU, HostV. -/
import Derived.Test.YtinaliblnihpbaaGreatV08
set_option linter.unusedVariables false
set_option linter.unusedSimpArgs false
open Go.Lib (hid)
namespace Go.Proofs.YtinaliblnihpbaaGreat
namespace HostC
open Go Go.RowKit Gf SlC CrcW SlM Hp Sl Ow DiagC ValveC DogC Kx TM EncW ParW UnW UEnc NumW UDecW
variable {G : Nat → Prop} {w w' w'' : World} {b d v g o lg k : Nat} {s : Value} {x y : H}
set_option maxRecDepth 100000 in
theorem take2y (hx : HOk x) (hG : Opn G w) (h : HAt G w b d v g o lg k s x) (u : U) (hfl : 0 ≤ u.flags ∧ u.flags ≤ 15) (vd : Value) (hd : Bytes w vd u.data) (h1 : x.state = 2) (h2 : u.kind = 18) :
    Calls Tryz.prog 130 #[.pointer (some ⟨b, 0, none⟩), uval u vd] w fun e w' => e = .returned (.int .i64 (0)) ∧ KG G w w' ∧ HAt G w' b d v g o lg k s ({ x with state := 3 } : H).alive := by
  obtain ⟨dp, dc, rfl, hdc⟩ := sl_shape hd
  have HH := hid h
  have HX := hid hx
  have HG := hid hG
  have HD := hid hd
  have FL := hid hfl
  have q0 := (Kept.refl [] w).alloc (.cells #[.int .i64 u.kind, .int .u32 u.code, .int .u32 u.ses, .int .u32 u.num, .int .i64 u.flags, .slice dp u.data.length dc] 63)
  have U0 := hid (Has.new w 63 [.int .i64 u.kind, .int .u32 u.code, .int .u32 u.ses, .int .u32 u.num, .int .i64 u.flags, .slice dp u.data.length dc])
  have K0 := hid q0
  have e0 : (x.state == 2) = true := by (try simp only [h1, h2]); first | rfl | (simp; done) | (simp; omega) | omega
  have e1 : (x.state == 3) = false := by (try simp only [h1, h2]); first | rfl | (simp; done) | (simp; omega) | omega
  have e2 : (x.state == 4) = false := by (try simp only [h1, h2]); first | rfl | (simp; done) | (simp; omega) | omega
  have e3 : (u.kind == 18) = true := by (try simp only [h1, h2]); first | rfl | (simp; done) | (simp; omega) | omega
  have Hh1 := hid h1
  have Hh2 := hid h2
  have hlt := h.top.lt
  have za := h.top.free 8
  have cv := h.top.cell 6 (v := .pointer (some ⟨v, 0, none⟩)) rfl
  have ca := h.top.cell 8 (v := .int .i64 x.state) rfl
  have cb := h.top.cell 10 (v := .int .u32 x.num) rfl
  have cc := h.top.cell 4 (v := .int .u32 x.p.count) rfl
  have cd := h.top.cell 2 (v := .int .i64 x.p.inn) rfl
  clear h hx hG hd hfl q0 h1 h2
  unfold uval
  go_enter Tryz.func130, Tryz.ntmps130
  go_wp2_with fail
  have HW := hid (HH.out.nil K0.out)
  have D0 := hid (HD.out.kept K0.out (by simp))
  generalize w.alloc (.cells #[.int .i64 u.kind, .int .u32 u.code, .int .u32 u.ses, .int .u32 u.num, .int .i64 u.flags, .slice dp u.data.length dc] 63) = w0 at U0 K0 HW D0 ⊢
  generalize w.heap.size = R at U0 ⊢
  have FK := hid (fkT HW U0)
  have k0 := Kept.refl [] w0
  clear ca cb cc cd hlt za cv
  have KQ := hid (KG.nil (G := G) (K0.out.trans k0))
  have HQ := hid (HW.out.nil k0)
  have UQ := hid (k0.has U0.out (by simp))
  have DQ := hid (D0.out.kept k0 (by simp))
  have HGQ := hid (HG.out.kg KQ.out)
  clear k0
  generalize w0 = wq at *
  have H3 := (HH.out.set (y := { x with state := 3 }) 8 (.int .i64 3) rfl rfl rfl rfl rfl).nil ((Kept.refl [] _).alloc (.cells #[.int .i64 u.kind, .int .u32 u.code, .int .u32 u.ses, .int .u32 u.num, .int .i64 u.flags, .slice dp u.data.length dc] 63))
  have K3 := ((KG.refl (G := G) (w := w)).set (i := 8) (v := .int .i64 3) HH.out.gb).alloc (.cells #[.int .i64 u.kind, .int .u32 u.code, .int .u32 u.ses, .int .u32 u.num, .int .i64 u.flags, .slice dp u.data.length dc] 63)
  refine (alive_call (HG.out.kg K3) H3).mono ?_
  rintro e w4 ⟨rfl, k4, h4⟩
  have K4 := hid (K3.trans k4)
  have H4 := hid h4
  clear H3 K3 k4 h4
  go_wp2_with fail
  go_ret
  exact ⟨rfl, K4.out, H4.out⟩
set_option maxRecDepth 100000 in
theorem take3y (hx : HOk x) (hG : Opn G w) (h : HAt G w b d v g o lg k s x) (u : U) (hfl : 0 ≤ u.flags ∧ u.flags ≤ 15) (vd : Value) (hd : Bytes w vd u.data) (h1 : x.state = 3) (h2 : u.kind = 19) :
    Calls Tryz.prog 130 #[.pointer (some ⟨b, 0, none⟩), uval u vd] w fun e w' => e = .returned (.int .i64 (0)) ∧ KG G w w' ∧ HAt G w' b d v g o lg k s ({ x with state := 4, v := x.v.run true } : H).alive := by
  obtain ⟨dp, dc, rfl, hdc⟩ := sl_shape hd
  have HH := hid h
  have HX := hid hx
  have HG := hid hG
  have HD := hid hd
  have FL := hid hfl
  have q0 := (Kept.refl [] w).alloc (.cells #[.int .i64 u.kind, .int .u32 u.code, .int .u32 u.ses, .int .u32 u.num, .int .i64 u.flags, .slice dp u.data.length dc] 63)
  have U0 := hid (Has.new w 63 [.int .i64 u.kind, .int .u32 u.code, .int .u32 u.ses, .int .u32 u.num, .int .i64 u.flags, .slice dp u.data.length dc])
  have K0 := hid q0
  have e0 : (x.state == 2) = false := by (try simp only [h1, h2]); first | rfl | (simp; done) | (simp; omega) | omega
  have e1 : (x.state == 3) = true := by (try simp only [h1, h2]); first | rfl | (simp; done) | (simp; omega) | omega
  have e2 : (x.state == 4) = false := by (try simp only [h1, h2]); first | rfl | (simp; done) | (simp; omega) | omega
  have e3 : (u.kind == 19) = true := by (try simp only [h1, h2]); first | rfl | (simp; done) | (simp; omega) | omega
  have Hh1 := hid h1
  have Hh2 := hid h2
  have hlt := h.top.lt
  have za := h.top.free 8
  have cv := h.top.cell 6 (v := .pointer (some ⟨v, 0, none⟩)) rfl
  have ca := h.top.cell 8 (v := .int .i64 x.state) rfl
  have cb := h.top.cell 10 (v := .int .u32 x.num) rfl
  have cc := h.top.cell 4 (v := .int .u32 x.p.count) rfl
  have cd := h.top.cell 2 (v := .int .i64 x.p.inn) rfl
  clear h hx hG hd hfl q0 h1 h2
  unfold uval
  go_enter Tryz.func130, Tryz.ntmps130
  go_wp2_with fail
  have HW := hid (HH.out.nil K0.out)
  have D0 := hid (HD.out.kept K0.out (by simp))
  generalize w.alloc (.cells #[.int .i64 u.kind, .int .u32 u.code, .int .u32 u.ses, .int .u32 u.num, .int .i64 u.flags, .slice dp u.data.length dc] 63) = w0 at U0 K0 HW D0 ⊢
  generalize w.heap.size = R at U0 ⊢
  have FK := hid (fkT HW U0)
  have k0 := Kept.refl [] w0
  clear ca cb cc cd hlt za cv
  have KQ := hid (KG.nil (G := G) (K0.out.trans k0))
  have HQ := hid (HW.out.nil k0)
  have UQ := hid (k0.has U0.out (by simp))
  have DQ := hid (D0.out.kept k0 (by simp))
  have HGQ := hid (HG.out.kg KQ.out)
  clear k0
  generalize w0 = wq at *
  have H3 := (HH.out.set (y := { x with state := 4 }) 8 (.int .i64 4) rfl rfl rfl rfl rfl).nil ((Kept.refl [] _).alloc (.cells #[.int .i64 u.kind, .int .u32 u.code, .int .u32 u.ses, .int .u32 u.num, .int .i64 u.flags, .slice dp u.data.length dc] 63))
  have K3 := ((KG.refl (G := G) (w := w)).set (i := 8) (v := .int .i64 4) HH.out.gb).alloc (.cells #[.int .i64 u.kind, .int .u32 u.code, .int .u32 u.ses, .int .u32 u.num, .int .i64 u.flags, .slice dp u.data.length dc] 63)
  refine (ValveC.run_call v g o x.v true _ H3.val).mono ?_
  rintro e w4 ⟨rfl, k4, h4⟩
  have K4 := hid (K3.trans (.one k4 HH.out.gv))
  have H4 := hid (H3.one k4 h4)
  clear H3 K3 k4 h4
  go_wp2_with fail
  refine (alive_call (HG.out.kg K4.out) H4.out).mono ?_
  rintro e w5 ⟨rfl, k5, h5⟩
  have K5 := hid (K4.out.trans k5)
  have H5 := hid h5
  clear k5 h5
  go_wp2_with fail
  go_ret
  exact ⟨rfl, K5.out, H5.out⟩
set_option maxRecDepth 100000 in
theorem take4y (hx : HOk x) (hG : Opn G w) (h : HAt G w b d v g o lg k s x) (u : U) (hfl : 0 ≤ u.flags ∧ u.flags ≤ 15) (vd : Value) (hd : Bytes w vd u.data) (h1 : x.state = 4) (h2 : u.kind = 20) (h3 : u.num > x.num) (h4 : u.num < x.p.count) (h5 : (u.data.length : Int) = x.p.inn) (hnd : ∀ b' off n c, vd = .slice (some ⟨b', off, none⟩) n c → u.data ≠ [] → ¬ G b') :
    Calls Tryz.prog 130 #[.pointer (some ⟨b, 0, none⟩), uval u vd] w fun e w' => e = .returned (.int .i64 (0)) ∧ KG G w w' ∧ HAt G w' b d v g o lg k s { ({ x with num := u.num } : H).alive with v := ((({ x with num := u.num } : H).alive.v.holds (holdBit u.flags)).take u.data) } := by
  obtain ⟨dp, dc, rfl, hdc⟩ := sl_shape hd
  have HH := hid h
  have HX := hid hx
  have HG := hid hG
  have HD := hid hd
  have FL := hid hfl
  have q0 := (Kept.refl [] w).alloc (.cells #[.int .i64 u.kind, .int .u32 u.code, .int .u32 u.ses, .int .u32 u.num, .int .i64 u.flags, .slice dp u.data.length dc] 63)
  have U0 := hid (Has.new w 63 [.int .i64 u.kind, .int .u32 u.code, .int .u32 u.ses, .int .u32 u.num, .int .i64 u.flags, .slice dp u.data.length dc])
  have K0 := hid q0
  have e0 : (x.state == 2) = false := by (try simp only [h1, h2, h5]); first | rfl | (simp; done) | (simp; omega) | omega
  have e1 : (x.state == 3) = false := by (try simp only [h1, h2, h5]); first | rfl | (simp; done) | (simp; omega) | omega
  have e2 : (x.state == 4) = true := by (try simp only [h1, h2, h5]); first | rfl | (simp; done) | (simp; omega) | omega
  have e3 : (u.kind == 20) = true := by (try simp only [h1, h2, h5]); first | rfl | (simp; done) | (simp; omega) | omega
  have e4 : (u.kind == 21) = false := by (try simp only [h1, h2, h5]); first | rfl | (simp; done) | (simp; omega) | omega
  have e5 : decide (u.num < x.p.count) = true := by (try simp only [h1, h2, h5]); first | rfl | (simp; done) | (simp; omega) | omega
  have e6 : ((u.data.length : Int) == x.p.inn) = true := by (try simp only [h1, h2, h5]); first | rfl | (simp; done) | (simp; omega) | omega
  have e7 : decide (u.num > x.num) = true := by (try simp only [h1, h2, h5]); first | rfl | (simp; done) | (simp; omega) | omega
  have e8 : decide (x.num < u.num) = true := by (try simp only [h1, h2, h5]); first | rfl | (simp; done) | (simp; omega) | omega
  have Hh1 := hid h1
  have Hh2 := hid h2
  have Hh3 := hid h3
  have Hh4 := hid h4
  have Hh5 := hid h5
  have Hhnd := hid hnd
  have hlt := h.top.lt
  have za := h.top.free 8
  have cv := h.top.cell 6 (v := .pointer (some ⟨v, 0, none⟩)) rfl
  have ca := h.top.cell 8 (v := .int .i64 x.state) rfl
  have cb := h.top.cell 10 (v := .int .u32 x.num) rfl
  have cc := h.top.cell 4 (v := .int .u32 x.p.count) rfl
  have cd := h.top.cell 2 (v := .int .i64 x.p.inn) rfl
  clear h hx hG hd hfl q0 h1 h2 h3 h4 h5 hnd
  unfold uval
  go_enter Tryz.func130, Tryz.ntmps130
  go_wp2_with fail
  have HW := hid (HH.out.nil K0.out)
  have D0 := hid (HD.out.kept K0.out (by simp))
  generalize w.alloc (.cells #[.int .i64 u.kind, .int .u32 u.code, .int .u32 u.ses, .int .u32 u.num, .int .i64 u.flags, .slice dp u.data.length dc] 63) = w0 at U0 K0 HW D0 ⊢
  generalize w.heap.size = R at U0 ⊢
  have FK := hid (fkT HW U0)
  have k0 := Kept.refl [] w0
  clear ca cb cc cd hlt za cv
  obtain ⟨fa, fb, fc, fd, fe, ff, fg, fh, fi, fj⟩ := FK.out _ k0
  go_quiet (fail)
  have k1 := k0.drewN nq
  clear fa fb fc fd fe ff fg fh fi fj k0
  generalize w0.drewN nq = w1 at k1 ⊢
  obtain ⟨fa, fb, fc, fd, fe, ff, fg, fh, fi, fj⟩ := FK.out _ k1
  go_wp2_with fail
  clear fa fb fc fd fe ff fg fh fi fj
  have KQ := hid (KG.nil (G := G) (K0.out.trans k1))
  have HQ := hid (HW.out.nil k1)
  have UQ := hid (k1.has U0.out (by simp))
  have DQ := hid (D0.out.kept k1 (by simp))
  have HGQ := hid (HG.out.kg KQ.out)
  clear k1
  generalize w1 = wq at *
  have nRb : R ≠ b := Ow.Has.ne UQ.out HQ.out.top (by decide)
  have h3 := HQ.out.set (y := { x with num := u.num }) 10 (.int .u32 u.num) rfl rfl rfl rfl rfl
  have kb := (Kept.refl [b] wq).set ⟨b, 10, none⟩ (.int .u32 u.num) (by simp)
  have U3 := hid (UQ.out.set_ne ⟨b, 10, none⟩ (.int .u32 u.num) nRb)
  have K3 := hid (KQ.out.set (i := 10) (v := .int .u32 u.num) HH.out.gb)
  have H3 := hid h3
  have D3 := hid (DQ.out.kept kb (fun b' off n c e hl hm => Hhnd.out b' off n c e hl (by simp at hm; subst hm; exact HH.out.gb)))
  have ehb := hold_bit FL.out.1 FL.out.2
  clear h3 kb nRb
  generalize wq.setCell ⟨b, 10, none⟩ (.int .u32 u.num) = w3 at U3 K3 H3 D3 ⊢
  refine (alive_call (opn_bare (HG.out.kg K3.out) U3.out.lt) (H3.out.bare U3.out)).mono ?_
  rintro e w4 ⟨rfl, k4, h4⟩
  have H4 := hid (h4.mono (G' := G) (fun i _ hi => hi.1))
  have U4 := hid (k4.has U3.out (fun e => e.2 rfl))
  have D4 := hid (k4.bytes D3.out (fun b' off n c e hl hm => Hhnd.out b' off n c e hl hm.1))
  have K4 := hid (K3.out.trans (kg_bare k4))
  have c6 := H4.out.top.cell 6 (v := .pointer (some ⟨v, 0, none⟩)) rfl
  have u4 := U4.out.cell 4 (v := .int .i64 u.flags) rfl
  clear k4 h4
  go_wp2_with fail
  have t6 : w4.drew.cell? ⟨b, 6, none⟩ = some (.pointer (some ⟨v, 0, none⟩)) := c6
  have t4 : w4.drew.cell? ⟨R, 4, none⟩ = some (.int .i64 u.flags) := u4
  (refine wp_region_still_tail 8 (by kernel_rfl) (by kernel_rfl) ?_; simp only [List.take_succ_cons, List.take_zero, List.drop_succ_cons, List.drop_zero]; (repeat still_step); refine wpStill_nil ?_)
  change wpList _ _ _ _ _ w4.drew
  go_wp2_with fail
  have H5 := H4.out.nil ((Kept.refl [] w4).drew)
  refine (ValveC.hold_call v g o _ _ _ H5.val).mono ?_
  rintro e w6 ⟨rfl, k6, h6⟩
  have nRv : R ∉ [v] := by obtain ⟨⟨_, h1⟩, _, _⟩ := hasV H4.out.val; simpa using Ow.Has.ne U4.out h1 (by decide)
  have H6 := hid (H5.one k6 h6)
  have K6 := hid (K4.out.drew.trans (.one k6 HH.out.gv))
  have U6 := hid (k6.has U4.out.drew nRv)
  have D6 := hid ((D4.out.kept ((Kept.refl [] w4).drew) (by simp)).kept k6 (fun b' off n c e hl hm => Hhnd.out b' off n c e hl (by simp at hm; subst hm; exact HH.out.gv)))
  have c6' := H6.out.top.cell 6 (v := .pointer (some ⟨v, 0, none⟩)) rfl
  have u5' := U6.out.cell 5 (v := .slice dp u.data.length dc) rfl
  clear H5 k6 h6 nRv t6 t4 c6 u4
  go_wp2_with fail
  have t6 : w6.drew.cell? ⟨b, 6, none⟩ = some (.pointer (some ⟨v, 0, none⟩)) := c6'
  have t5 : w6.drew.cell? ⟨R, 5, none⟩ = some (.slice dp u.data.length dc) := u5'
  (refine wp_region_still_tail 6 (by kernel_rfl) (by kernel_rfl) ?_; simp only [List.take_succ_cons, List.take_zero, List.drop_succ_cons, List.drop_zero]; (repeat still_step); refine wpStill_nil ?_)
  change wpList _ _ _ _ _ w6.drew
  go_wp2_with fail
  have H7 := H6.out.nil ((Kept.refl [] w6).drew)
  have D7 := D6.out.kept ((Kept.refl [] w6).drew) (by simp)
  have hin := HX.out.p.inn
  have hvn := HX.out.vn
  refine (ValveC.take_call v g o _ _ u.data w6.drew (HG.out.kg K6.out.drew) H7.val D7 (by rw [Hh5.out]; exact hvn) (by intro e; have := Hh5.out; rw [e] at this; simp at this; omega) (by have := Hh5.out; omega)).mono ?_
  rintro e w8 ⟨rfl, k8, h8⟩
  have H8 := hid (H7.one k8 h8)
  have K8 := hid (K6.out.drew.trans (.one k8 HH.out.gv))
  clear H7 D7 hin hvn k8 h8 t6 t5 c6' u5'
  go_wp2_with fail
  go_ret
  exact ⟨rfl, K8.out, H8.out⟩
set_option maxRecDepth 100000 in
theorem take5y (hx : HOk x) (hG : Opn G w) (h : HAt G w b d v g o lg k s x) (u : U) (hfl : 0 ≤ u.flags ∧ u.flags ≤ 15) (vd : Value) (hd : Bytes w vd u.data) (h1 : x.state = 4) (h2 : u.kind = 21) (h3 : u.num > x.num) (h4 : u.num = x.p.count) :
    Calls Tryz.prog 130 #[.pointer (some ⟨b, 0, none⟩), uval u vd] w fun e w' => e = .returned (.int .i64 (0)) ∧ KG G w w' ∧ HAt G w' b d v g o lg k s { ({ x with num := u.num } : H).alive with v := (({ x with num := u.num } : H).alive.v.trip 80).run false, state := 5 } := by
  obtain ⟨dp, dc, rfl, hdc⟩ := sl_shape hd
  have HH := hid h
  have HX := hid hx
  have HG := hid hG
  have HD := hid hd
  have FL := hid hfl
  have q0 := (Kept.refl [] w).alloc (.cells #[.int .i64 u.kind, .int .u32 u.code, .int .u32 u.ses, .int .u32 u.num, .int .i64 u.flags, .slice dp u.data.length dc] 63)
  have U0 := hid (Has.new w 63 [.int .i64 u.kind, .int .u32 u.code, .int .u32 u.ses, .int .u32 u.num, .int .i64 u.flags, .slice dp u.data.length dc])
  have K0 := hid q0
  have e0 : (x.state == 2) = false := by (try simp only [h1, h2, h4]); first | rfl | (simp; done) | (simp; omega) | omega
  have e1 : (x.state == 3) = false := by (try simp only [h1, h2, h4]); first | rfl | (simp; done) | (simp; omega) | omega
  have e2 : (x.state == 4) = true := by (try simp only [h1, h2, h4]); first | rfl | (simp; done) | (simp; omega) | omega
  have e3 : (u.kind == 20) = false := by (try simp only [h1, h2, h4]); first | rfl | (simp; done) | (simp; omega) | omega
  have e4 : (u.kind == 21) = true := by (try simp only [h1, h2, h4]); first | rfl | (simp; done) | (simp; omega) | omega
  have e5 : (u.num == x.p.count) = true := by (try simp only [h1, h2, h4]); first | rfl | (simp; done) | (simp; omega) | omega
  have e6 : decide (u.num > x.num) = true := by (try simp only [h1, h2, h4]); first | rfl | (simp; done) | (simp; omega) | omega
  have e7 : decide (x.num < u.num) = true := by (try simp only [h1, h2, h4]); first | rfl | (simp; done) | (simp; omega) | omega
  have Hh1 := hid h1
  have Hh2 := hid h2
  have Hh3 := hid h3
  have Hh4 := hid h4
  have hlt := h.top.lt
  have za := h.top.free 8
  have cv := h.top.cell 6 (v := .pointer (some ⟨v, 0, none⟩)) rfl
  have ca := h.top.cell 8 (v := .int .i64 x.state) rfl
  have cb := h.top.cell 10 (v := .int .u32 x.num) rfl
  have cc := h.top.cell 4 (v := .int .u32 x.p.count) rfl
  have cd := h.top.cell 2 (v := .int .i64 x.p.inn) rfl
  clear h hx hG hd hfl q0 h1 h2 h3 h4
  unfold uval
  go_enter Tryz.func130, Tryz.ntmps130
  go_wp2_with fail
  have HW := hid (HH.out.nil K0.out)
  have D0 := hid (HD.out.kept K0.out (by simp))
  generalize w.alloc (.cells #[.int .i64 u.kind, .int .u32 u.code, .int .u32 u.ses, .int .u32 u.num, .int .i64 u.flags, .slice dp u.data.length dc] 63) = w0 at U0 K0 HW D0 ⊢
  generalize w.heap.size = R at U0 ⊢
  have FK := hid (fkT HW U0)
  have k0 := Kept.refl [] w0
  clear ca cb cc cd hlt za cv
  obtain ⟨fa, fb, fc, fd, fe, ff, fg, fh, fi, fj⟩ := FK.out _ k0
  go_quiet (fail)
  have k1 := k0.drewN nq
  clear fa fb fc fd fe ff fg fh fi fj k0
  generalize w0.drewN nq = w1 at k1 ⊢
  obtain ⟨fa, fb, fc, fd, fe, ff, fg, fh, fi, fj⟩ := FK.out _ k1
  go_wp2_with fail
  clear fa fb fc fd fe ff fg fh fi fj
  obtain ⟨fa, fb, fc, fd, fe, ff, fg, fh, fi, fj⟩ := FK.out _ k1
  go_quiet (fail)
  have k2 := k1.drewN nq
  clear fa fb fc fd fe ff fg fh fi fj k1
  generalize w1.drewN nq = w2 at k2 ⊢
  obtain ⟨fa, fb, fc, fd, fe, ff, fg, fh, fi, fj⟩ := FK.out _ k2
  go_wp2_with fail
  clear fa fb fc fd fe ff fg fh fi fj
  have KQ := hid (KG.nil (G := G) (K0.out.trans k2))
  have HQ := hid (HW.out.nil k2)
  have UQ := hid (k2.has U0.out (by simp))
  have DQ := hid (D0.out.kept k2 (by simp))
  have HGQ := hid (HG.out.kg KQ.out)
  clear k2
  generalize w2 = wq at *
  have nRb : R ≠ b := Ow.Has.ne UQ.out HQ.out.top (by decide)
  have h3 := HQ.out.set (y := { x with num := u.num }) 10 (.int .u32 u.num) rfl rfl rfl rfl rfl
  have kb := (Kept.refl [b] wq).set ⟨b, 10, none⟩ (.int .u32 u.num) (by simp)
  have U3 := hid (UQ.out.set_ne ⟨b, 10, none⟩ (.int .u32 u.num) nRb)
  have K3 := hid (KQ.out.set (i := 10) (v := .int .u32 u.num) HH.out.gb)
  have H3 := hid h3
  have ehb := hold_bit FL.out.1 FL.out.2
  clear h3 kb nRb
  generalize wq.setCell ⟨b, 10, none⟩ (.int .u32 u.num) = w3 at U3 K3 H3 ⊢
  refine (alive_call (opn_bare (HG.out.kg K3.out) U3.out.lt) (H3.out.bare U3.out)).mono ?_
  rintro e w4 ⟨rfl, k4, h4⟩
  have H4 := hid (h4.mono (G' := G) (fun i _ hi => hi.1))
  have U4 := hid (k4.has U3.out (fun e => e.2 rfl))
  have K4 := hid (K3.out.trans (kg_bare k4))
  clear k4 h4
  go_wp2_with fail
  refine (trip_call 80 (by decide) (by decide) (HG.out.kg K4.out) H4.out).mono ?_
  rintro e w5 ⟨rfl, k5, h5⟩
  have H5 := hid h5
  have K5 := hid (K4.out.trans k5)
  have c6 := H5.out.top.cell 6 (v := .pointer (some ⟨v, 0, none⟩)) rfl
  clear k5 h5
  go_wp2_with fail
  refine (ValveC.run_call v g o _ false _ H5.out.val).mono ?_
  rintro e w6 ⟨rfl, k6, h6⟩
  have H6 := hid (H5.out.one k6 h6)
  have K6 := hid (K5.out.trans (.one k6 HH.out.gv))
  have c8 := H6.out.top.cell 8 (v := .int .i64 x.state) rfl
  have z8 := H6.out.top.free 8
  clear k6 h6
  go_wp2_with fail
  go_ret
  exact ⟨rfl, K6.out.set (i := 8) (v := .int .i64 5) HH.out.gb, H6.out.set (y := { ({ x with num := u.num } : H).alive with v := (({ x with num := u.num } : H).alive.v.trip 80).run false, state := 5 }) 8 (.int .i64 5) rfl rfl rfl rfl rfl⟩
end HostC
namespace HostC
open Go Go.RowKit Gf SlC CrcW SlM Hp Sl Ow DiagC ValveC DogC Kx TM EncW ParW UnW UEnc NumW UDecW
variable {G : Nat → Prop} {w w' w'' : World} {b d v g o lg k : Nat} {s : Value} {x y : H}
theorem take_call (hx : HOk x) (hG : Opn G w) (h : HAt G w b d v g o lg k s x) (u : U) (hfl : 0 ≤ u.flags ∧ u.flags ≤ 15) (vd : Value) (hd : Bytes w vd u.data) (hnd : ∀ b' off n c, vd = .slice (some ⟨b', off, none⟩) n c → u.data ≠ [] → ¬ G b') (hs : x.state = 2 ∨ x.state = 3 ∨ x.state = 4) :
    Calls Tryz.prog 130 #[.pointer (some ⟨b, 0, none⟩), uval u vd] w fun e w' => e = .returned (.int .i64 (x.take u).2) ∧ KG G w w' ∧ HAt G w' b d v g o lg k s (x.take u).1 := by
  rcases hs with h1 | h1 | h1
  · by_cases h2 : u.kind = 18
    · have e : x.take u = (({ x with state := 3 } : H).alive, 0) := by unfold H.take; rw [if_pos ⟨h1, h2⟩]
      rw [e]; exact take2y hx hG h u hfl vd hd h1 h2
    · have e : x.take u = (x, 130) := by unfold H.take; rw [if_neg (by simp [h2]), if_neg (by simp [h1]), if_neg (by simp [h1]), if_neg (by simp [h1])]
      rw [e]; exact take2n hx hG h u hfl vd hd h1 h2
  · by_cases h2 : u.kind = 19
    · have e : x.take u = (({ x with state := 4, v := x.v.run true } : H).alive, 0) := by unfold H.take; rw [if_neg (by simp [h1]), if_pos ⟨h1, h2⟩]
      rw [e]; exact take3y hx hG h u hfl vd hd h1 h2
    · have e : x.take u = (x, 130) := by unfold H.take; rw [if_neg (by simp [h1]), if_neg (by simp [h2]), if_neg (by simp [h1]), if_neg (by simp [h1])]
      rw [e]; exact take3n hx hG h u hfl vd hd h1 h2
  · have n1 : ¬ (x.state = 2 ∧ u.kind = 18) := by simp [h1]
    have n2 : ¬ (x.state = 3 ∧ u.kind = 19) := by simp [h1]
    by_cases h2 : u.kind = 20
    · have n4 : ¬ (x.state = 4 ∧ u.kind = 21 ∧ u.num > x.num ∧ u.num = x.p.count) := by rw [h2]; simp
      by_cases h3 : u.num > x.num
      · by_cases h4 : u.num < x.p.count
        · by_cases h5 : (u.data.length : Int) = x.p.inn
          · have e : x.take u = ({ ({ x with num := u.num } : H).alive with v := ((({ x with num := u.num } : H).alive.v.holds (holdBit u.flags)).take u.data) }, 0) := by unfold H.take; rw [if_neg n1, if_neg n2, if_pos ⟨h1, h2, h3, h4, h5⟩]
            rw [e]; exact take4y hx hG h u hfl vd hd h1 h2 h3 h4 h5 hnd
          · have e : x.take u = (x, 130) := by unfold H.take; rw [if_neg n1, if_neg n2, if_neg (fun q => h5 q.2.2.2.2), if_neg n4]
            rw [e]; exact take4c hx hG h u hfl vd hd h1 h2 h3 h4 h5
        · have e : x.take u = (x, 130) := by unfold H.take; rw [if_neg n1, if_neg n2, if_neg (fun q => h4 q.2.2.2.1), if_neg n4]
          rw [e]; exact take4b hx hG h u hfl vd hd h1 h2 h3 h4
      · have e : x.take u = (x, 130) := by unfold H.take; rw [if_neg n1, if_neg n2, if_neg (fun q => h3 q.2.2.1), if_neg n4]
        rw [e]; exact take4a hx hG h u hfl vd hd h1 h2 h3
    · have n3 : ¬ (x.state = 4 ∧ u.kind = 20 ∧ u.num > x.num ∧ u.num < x.p.count ∧ (u.data.length : Int) = x.p.inn) := fun q => h2 q.2.1
      by_cases h6 : u.kind = 21
      · by_cases h3 : u.num > x.num
        · by_cases h4 : u.num = x.p.count
          · have e : x.take u = ({ ({ x with num := u.num } : H).alive with v := (({ x with num := u.num } : H).alive.v.trip 80).run false, state := 5 }, 0) := by unfold H.take; rw [if_neg n1, if_neg n2, if_neg n3, if_pos ⟨h1, h6, h3, h4⟩]
            rw [e]; exact take5y hx hG h u hfl vd hd h1 h6 h3 h4
          · have e : x.take u = (x, 130) := by unfold H.take; rw [if_neg n1, if_neg n2, if_neg n3, if_neg (fun q => h4 q.2.2.2)]
            rw [e]; exact take5b hx hG h u hfl vd hd h1 h6 h3 h4
        · have e : x.take u = (x, 130) := by unfold H.take; rw [if_neg n1, if_neg n2, if_neg n3, if_neg (fun q => h3 q.2.2.1)]
          rw [e]; exact take5a hx hG h u hfl vd hd h1 h6 h3
      · have e : x.take u = (x, 130) := by unfold H.take; rw [if_neg n1, if_neg n2, if_neg n3, if_neg (fun q => h6 q.2.1)]
        rw [e]; exact take4n hx hG h u hfl vd hd h1 h2 h6
end HostC
namespace HostC
open Go Go.RowKit Gf SlC CrcW SlM Hp Sl Ow DiagC ValveC DogC Kx TM EncW ParW UnW UEnc NumW UDecW
variable {G : Nat → Prop} {w w' w'' : World} {b d v g o lg k : Nat} {s : Value} {x y : H}
set_option maxRecDepth 100000 in
theorem tick_call (hG : Opn G w) (h : HAt G w b d v g o lg k s x) (n : Int) (hn : 0 ≤ n) (hn2 : n ≤ 1048576) :
    Calls Tryz.prog 75 #[.pointer (some ⟨b, 0, none⟩), .int .i64 n] w fun e w' => e = .returned (.int .i64 0) ∧ KG G w w' ∧ HAt G w' b d v g o lg k s (x.tick n) := by
  have HH := hid h
  have HG := hid hG
  have TC := hid (ticks_call d _ _ n w h.dog hn hn2)
  have c5 := h.top.cell 5 (v := .pointer (some ⟨d, 0, none⟩)) rfl
  clear h hG hn hn2
  by_cases hb : barks x.p.watch x.since n = true
  · have e : x.tick n = ({ x with since := ticked x.p.watch x.since n } : H).trip 100 := by unfold H.tick; rw [if_pos hb]
    rw [e]
    rw [hb] at TC
    clear e hb
    go_enter Tryz.func75, Tryz.ntmps75
    go_wp2_with fail
    refine TC.out.mono ?_
    rintro e w1 ⟨rfl, k1, h1⟩
    have H1 := hid (HH.out.dogs k1 h1)
    have K1 := hid (KG.one k1 HH.out.gd)
    clear k1 h1
    go_wp2_with fail
    refine (trip_call 100 (by decide) (by decide) (HG.out.kg K1.out) H1.out).mono ?_
    rintro e w2 ⟨rfl, k2, h2⟩
    have H2 := hid h2
    have K2 := hid (K1.out.trans k2)
    clear k2 h2
    go_wp2_with fail
    go_ret
    exact ⟨rfl, K2.out, H2.out⟩
  · have e : x.tick n = { x with since := ticked x.p.watch x.since n } := by unfold H.tick; rw [if_neg hb]
    rw [e]
    rw [Bool.not_eq_true] at hb
    rw [hb] at TC
    clear e hb
    go_enter Tryz.func75, Tryz.ntmps75
    go_wp2_with fail
    refine TC.out.mono ?_
    rintro e w1 ⟨rfl, k1, h1⟩
    have H1 := hid (HH.out.dogs k1 h1)
    have K1 := hid (KG.one k1 HH.out.gd)
    clear k1 h1
    go_wp2_with fail
    go_ret
    exact ⟨rfl, K1.out, H1.out⟩
theorem HAt.acks {z : V} {o' : Nat} (h : HAt G w b d v g o lg k s x) (q : Kept [v, g, o] w w') (hz : IsV G w' v g o' z) (ho : G o') : HAt G w' b d v g o' lg k s { x with v := z } := by
  obtain ⟨⟨c1, h1⟩, ⟨c2, h2⟩, ⟨c3, h3⟩⟩ := hasV h.val
  refine ⟨q.has h.top ?_, h.dog.kept q ?_, hz, Kx.IsLog.kept2 h.log q (fun i hi hl => .inr ?_), h.own.kept q ?_, h.gb, h.gd, h.gv, h.gg, ho, h.gk⟩
  · have a1 := Ow.Has.ne h.top h1 (by decide); have a2 := Ow.Has.ne h.top h2 (by decide); have a3 := Ow.Has.ne h.top h3 (by decide)
    simp; exact ⟨a1, a2, a3⟩
  · have a1 := Ow.Has.ne h.dog.has h1 (by decide); have a2 := Ow.Has.ne h.dog.has h2 (by decide); have a3 := Ow.Has.ne h.dog.has h3 (by decide)
    simp; exact ⟨a1, a2, a3⟩
  · simp at hi
    rcases hi with rfl | rfl | rfl
    · exact ⟨_, _, h1, by decide⟩
    · exact ⟨_, _, h2, by decide⟩
    · exact ⟨_, _, h3, by decide⟩
  · have a1 := ValveC.Own.ne h.own h1 (by decide); have a2 := ValveC.Own.ne h.own h2 (by decide); have a3 := ValveC.Own.ne h.own h3 (by decide)
    simp; exact ⟨a1, a2, a3⟩
def hostOf (G : Nat → Prop) (w : World) (b : Nat) (x : H) : Prop := ∃ d v g o lg k s, HAt G w b d v g o lg k s x
def ackCode (q : Bool) : Int := if q then 0 else 110
set_option maxRecDepth 100000 in
theorem ack_call (hG : Opn G w) (h : HAt G w b d v g o lg k s x) :
    Calls Tryz.prog 77 #[.pointer (some ⟨b, 0, none⟩)] w fun e w' => e = .returned (.int .i64 x.ack.2) ∧ KG G w w' ∧ hostOf G w' b x.ack.1 := by
  have HH := hid h
  have HG := hid hG
  have AC := hid (ValveC.ack_call v g o x.v w h.val)
  have c6 := h.top.cell 6 (v := .pointer (some ⟨v, 0, none⟩)) rfl
  have e : x.ack = ({ x with v := x.v.ack }, ackCode x.v.request) := rfl
  rw [e]
  have AC := hid (show Calls Tryz.prog 106 #[.pointer (some ⟨v, 0, none⟩)] w fun e w' => e = .returned (.int .i64 (ackCode x.v.request)) ∧ Kept [v, g, o] w w' ∧ Acked G w w' v g o x.v.ack from AC.out)
  clear h hG e
  go_enter Tryz.func77, Tryz.ntmps77
  go_wp2_with fail
  refine AC.out.mono ?_
  rintro e w1 ⟨rfl, k1, o', ho', h1⟩
  have K1 := hid (KG.of k1 (G := G) (by have := HH.out.gv; have := HH.out.gg; have := HH.out.go; intro i hi; simp at hi; rcases hi with rfl | rfl | rfl <;> assumption))
  have H1 := hid (HH.out.acks k1 h1 (by rcases ho' with rfl | h; exact HH.out.go; exact HG.out _ h))
  clear k1 h1 ho'
  go_wp2_with fail
  go_ret
  exact ⟨rfl, K1.out, d, v, g, o', lg, k, s, H1.out⟩
theorem HAt.newrow {k' : Nat} {s' : Value} {l : List Int} {hb : Bool} (h : HAt G w b d v g o lg k s x) (ho : Own w k' s' l) (hk : G k') : HAt G ((w.setCell ⟨b, 14, none⟩ s').setCell ⟨b, 15, none⟩ (.bool hb)) b d v g o lg k' s' { x with value := l, hold := hb } := by
  have q := ((Kept.refl [b] w).set ⟨b, 14, none⟩ s' (by simp)).set ⟨b, 15, none⟩ (.bool hb) (by simp)
  refine ⟨(h.top.set 14 s').set 15 (.bool hb), h.dog.kept q (by simpa using Ow.Has.ne h.dog.has h.top (by decide)), h.val.kept2 q (fun i hi hl => by simp at hi; subst hi; exact ⟨_, _, h.top, by decide, by decide, by decide, by decide⟩), Kx.IsLog.kept2 h.log q (fun i hi hl => .inr (by simp at hi; subst hi; exact ⟨_, _, h.top, by decide⟩)), ho.kept q (by simpa using ValveC.Own.ne ho h.top (by decide)), h.gb, h.gd, h.gv, h.gg, h.go, hk⟩
set_option maxRecDepth 100000 in
theorem write_call (hx : HOk x) (hG : Opn G w) (h : HAt G w b d v g o lg k s x) (vd : Value) (l : List Int) (hd : Bytes w vd l) (hl : l.length ≤ 140737488351232) (hb : Bool) :
    Calls Tryz.prog 64 #[.pointer (some ⟨b, 0, none⟩), vd, .bool hb] w fun e w' => e = .returned (.int .i64 (x.write l hb).2) ∧ KG G w w' ∧ hostOf G w' b (x.write l hb).1 := by
  obtain ⟨dp, dc, rfl, hdc⟩ := sl_shape hd
  have HH := hid h
  have HG := hid hG
  have HD := hid hd
  have CL := hid (clone_call _ l w hd hl)
  have c1 := h.top.cell 1 (v := .int .i64 x.p.out) rfl
  have hout := hx.p.out
  by_cases h1 : (l.length : Int) = x.p.out
  · have e : x.write l hb = ({ x with value := l, hold := hb }, 0) := by unfold H.write; rw [if_neg (by simp [h1])]
    rw [e]
    have e1 : ((l.length : Int) != x.p.out) = false := by simp [h1]
    have NE := hid (show l ≠ [] by intro e; rw [e] at h1; simp at h1; omega)
    clear e h1 hout h hG hd hl hx
    go_enter Tryz.func64, Tryz.ntmps64
    go_wp2_with fail
    refine CL.out.mono ?_
    rintro e w1 ⟨v1, rfl, k1, hcl⟩
    have hown : ∃ kk, w.heap.size ≤ kk ∧ Own w1 kk v1 l := by
      rcases hcl with ⟨e1, e2⟩ | ⟨_, kk, hk, ho⟩
      · rcases HD.out with ⟨_, e⟩ | ⟨_, _, e, _⟩
        · exact absurd e NE.out
        · rw [e] at e1; cases e1
      · exact ⟨kk, hk, ho⟩
    obtain ⟨kk, hkk, ho⟩ := hown
    obtain ⟨cap, cur, rfl, _⟩ := id ho
    have HO := hid ho
    have H1 := hid (HH.out.nil k1)
    have K1 := hid (KG.nil (G := G) k1)
    have GK := hid (HG.out kk hkk)
    have c14 := H1.out.top.cell 14 (v := s) rfl
    have z14 := H1.out.top.free 14
    have c15 := H1.out.top.cell 15 (v := .bool x.hold) rfl
    have z15 := H1.out.top.free 15
    clear hcl ho k1 hkk c1
    go_wp2_with fail
    go_ret
    exact ⟨rfl, (K1.out.set (i := 14) (v := .slice (some ⟨kk, 0, none⟩) l.length cap) HH.out.gb).set (i := 15) (v := .bool hb) HH.out.gb, d, v, g, o, lg, kk, _, H1.out.newrow HO.out GK.out⟩
  · have e : x.write l hb = (x, 45) := by unfold H.write; rw [if_pos h1]
    rw [e]
    have e1 : ((l.length : Int) != x.p.out) = true := by simp [h1]
    clear e h1 hout h hG hd hl hx
    go_enter Tryz.func64, Tryz.ntmps64
    go_wp2_with fail
    go_ret
    exact ⟨rfl, .refl, d, v, g, o, lg, k, s, HH.out⟩
end HostC
namespace HostC
open Go Go.RowKit Gf SlC CrcW SlM Hp Sl Ow DiagC ValveC DogC Kx TM EncW ParW UnW UEnc NumW UDecW
variable {G : Nat → Prop} {w w' w'' : World} {b d v g o lg k : Nat} {s : Value} {x y : H}
def eval' (e : TM.End) (s : Value) : Value := .agg #[.int .i64 e.state, .int .u32 e.ses, .int .u32 e.num, .int .u32 e.sent, .int .i64 e.since, .int .i64 e.latched, .bool e.request, .bool e.on, s]
set_option maxRecDepth 100000 in
set_option maxHeartbeats 6400000 in
theorem see_call (hn : 1 ≤ x.v.n) (hn8 : x.v.n ≤ 8) (h : HAt G w b d v g o lg k s x) :
    Calls Tryz.prog 43 #[.pointer (some ⟨b, 0, none⟩)] w fun e w' => ∃ s', e = .returned (eval' x.see s') ∧ Kept [] w w' ∧ Outs w w' s' x.v.out := by
  have HH := hid h
  have c6 := h.top.cell 6 (v := .pointer (some ⟨v, 0, none⟩)) rfl
  have hlt := h.top.lt
  have HN := hid hn
  have HN8 := hid hn8
  have K0 := hid ((Kept.refl [] w).alloc (.cells #[.int .i64 0, .int .u32 0, .int .u32 0, .int .u32 0, .int .i64 0, .int .i64 0, .bool false, .bool false, .slice none 0 0] 42))
  have E0 := hid (Has.new w 42 [.int .i64 0, .int .u32 0, .int .u32 0, .int .u32 0, .int .i64 0, .int .i64 0, .bool false, .bool false, .slice none 0 0])
  clear h hn hn8
  go_enter Tryz.func43, Tryz.ntmps43
  go_wp2_with fail
  have H0 := hid (HH.out.nil K0.out)
  clear hlt c6
  generalize w.alloc (.cells #[.int .i64 0, .int .u32 0, .int .u32 0, .int .u32 0, .int .i64 0, .int .i64 0, .bool false, .bool false, .slice none 0 0] 42) = w0 at K0 E0 H0 ⊢
  obtain ⟨R, hR⟩ : ∃ R, R = w.heap.size := ⟨_, rfl⟩
  rw [← hR] at E0 ⊢
  have RR := hid (Nat.le_of_eq hR.symm)
  clear hR
  refine (output_call v g o x.v w0 H0.out.val HN.out HN8.out).mono ?_
  rintro e w1 ⟨s1, rfl, k1, h1⟩
  have H1 := hid (H0.out.nil k1)
  have E1 := hid (k1.has E0.out (by simp))
  have K1 := hid (K0.out.trans k1)
  obtain ⟨kk, hkk, ho⟩ := h1
  obtain ⟨cap, cur, rfl, _⟩ := id ho
  have HO := hid ho
  have HK := hid hkk
  clear k1 ho hkk
  have H2 := hid (H1.out.nil ((Kept.refl [] w1).drew))
  have E2 := hid (E1.out.drew)
  have T1 := hid (since_call d _ _ w1.drew H2.out.dog)
  have T2 := hid ((latched_call v g o x.v w1.drew H2.out.val).mono (R' := fun e w' => e = .returned (.int .i64 x.v.latched) ∧ w' = w1.drew) (fun e w' q => ⟨q.1, q.2.symm⟩))
  have T3 := hid ((request_call v g o x.v w1.drew H2.out.val).mono (R' := fun e w' => e = .returned (.bool x.v.request) ∧ w' = w1.drew) (fun e w' q => ⟨q.1, q.2.symm⟩))
  go_wp2_with fail
  have SK := H2.out.top
  have dd := And.intro (SK.cell 5 (v := .pointer (some ⟨d, 0, none⟩)) rfl) (And.intro (SK.cell 6 (v := .pointer (some ⟨v, 0, none⟩)) rfl) (And.intro (SK.cell 8 (v := .int .i64 x.state) rfl) (And.intro (SK.cell 9 (v := .int .u32 x.ses) rfl) (And.intro (SK.cell 10 (v := .int .u32 x.num) rfl) (SK.cell 11 (v := .int .u32 x.sent) rfl)))))
  clear SK
  have KS := hid ((((((((((Kept.refl [R] w1).set ⟨R, 0, none⟩ (.int .i64 x.state) (by simp)).set ⟨R, 1, none⟩ (.int .u32 x.ses) (by simp)).set ⟨R, 2, none⟩ (.int .u32 x.num) (by simp)).set ⟨R, 3, none⟩ (.int .u32 x.sent) (by simp)).set ⟨R, 4, none⟩ (.int .i64 x.since) (by simp)).set ⟨R, 5, none⟩ (.int .i64 x.v.latched) (by simp)).set ⟨R, 6, none⟩ (.bool x.v.request) (by simp)).set ⟨R, 7, none⟩ (.bool x.v.on) (by simp)).set ⟨R, 8, none⟩ (.slice (some ⟨kk, 0, none⟩) x.v.out.length cap) (by simp)).drew
  have ES := hid (((((((((E1.out.set 0 (.int .i64 x.state)).set 1 (.int .u32 x.ses)).set 2 (.int .u32 x.num)).set 3 (.int .u32 x.sent)).set 4 (.int .i64 x.since)).set 5 (.int .i64 x.v.latched)).set 6 (.bool x.v.request)).set 7 (.bool x.v.on)).set 8 (.slice (some ⟨kk, 0, none⟩) x.v.out.length cap))
  have nRb : b ∉ [R] := by simpa using Ow.Has.ne H2.out.top E2.out (by decide)
  have SK := hid (show ∀ w', Kept [R] w1 w' → (w'.cell? ⟨b, 5, none⟩ = some (.pointer (some ⟨d, 0, none⟩)) ∧ w'.cell? ⟨b, 6, none⟩ = some (.pointer (some ⟨v, 0, none⟩)) ∧ w'.cell? ⟨b, 8, none⟩ = some (.int .i64 x.state) ∧ w'.cell? ⟨b, 9, none⟩ = some (.int .u32 x.ses) ∧ w'.cell? ⟨b, 10, none⟩ = some (.int .u32 x.num) ∧ w'.cell? ⟨b, 11, none⟩ = some (.int .u32 x.sent)) from fun w' q => ⟨(q.has H1.out.top nRb).cell 5 rfl, (q.has H1.out.top nRb).cell 6 rfl, (q.has H1.out.top nRb).cell 8 rfl, (q.has H1.out.top nRb).cell 9 rfl, (q.has H1.out.top nRb).cell 10 rfl, (q.has H1.out.top nRb).cell 11 rfl⟩)
  clear nRb
  have t0 := E2.out.cell 0 rfl
  have f0 := E2.out.free 0
  have u0 := E1.out.cell 0 rfl
  have g0 := E1.out.free 0
  have t1 := E2.out.cell 1 rfl
  have f1 := E2.out.free 1
  have u1 := E1.out.cell 1 rfl
  have g1 := E1.out.free 1
  have t2 := E2.out.cell 2 rfl
  have f2 := E2.out.free 2
  have u2 := E1.out.cell 2 rfl
  have g2 := E1.out.free 2
  have t3 := E2.out.cell 3 rfl
  have f3 := E2.out.free 3
  have u3 := E1.out.cell 3 rfl
  have g3 := E1.out.free 3
  have t4 := E2.out.cell 4 rfl
  have f4 := E2.out.free 4
  have u4 := E1.out.cell 4 rfl
  have g4 := E1.out.free 4
  have t5 := E2.out.cell 5 rfl
  have f5 := E2.out.free 5
  have u5 := E1.out.cell 5 rfl
  have g5 := E1.out.free 5
  have t6 := E2.out.cell 6 rfl
  have f6 := E2.out.free 6
  have u6 := E1.out.cell 6 rfl
  have g6 := E1.out.free 6
  have t7 := E2.out.cell 7 rfl
  have f7 := E2.out.free 7
  have u7 := E1.out.cell 7 rfl
  have g7 := E1.out.free 7
  have t8 := E2.out.cell 8 rfl
  have f8 := E2.out.free 8
  have u8 := E1.out.cell 8 rfl
  have g8 := E1.out.free 8
  go_region_held3 (fun w' => w'.cell? ⟨b, 5, none⟩ = some (.pointer (some ⟨d, 0, none⟩)) ∧ w'.cell? ⟨b, 6, none⟩ = some (.pointer (some ⟨v, 0, none⟩)) ∧ w'.cell? ⟨b, 8, none⟩ = some (.int .i64 x.state) ∧ w'.cell? ⟨b, 9, none⟩ = some (.int .u32 x.ses) ∧ w'.cell? ⟨b, 10, none⟩ = some (.int .u32 x.num) ∧ w'.cell? ⟨b, 11, none⟩ = some (.int .u32 x.sent)) (first | with_reducible assumption | with_reducible exact SK.out _ KS.out) (first | (go_at_call 81; with_reducible refine T1.out.mono ?_; rintro e w2 ⟨rfl, rfl⟩) | (go_at_call 82; with_reducible refine T2.out.mono ?_; rintro e w2 ⟨rfl, rfl⟩) | (go_at_call 83; with_reducible refine T3.out.mono ?_; rintro e w2 ⟨rfl, rfl⟩))
  clear dd t0 t1 t2 t3 t4 t5 t6 t7 t8 f0 f1 f2 f3 f4 f5 f6 f7 f8 u0 u1 u2 u3 u4 u5 u6 u7 u8 g0 g1 g2 g3 g4 g5 g6 g7 g8
  have KF := hid (K1.out.fresh KS.out (by intro i hi hl; simp at hi; subst hi; exact absurd hl (Nat.not_lt.2 RR.out)))
  have ES : Hid (Has (((((((((w1.setCell ⟨R, 0, none⟩ (.int .i64 x.state)).setCell ⟨R, 1, none⟩ (.int .u32 x.ses)).setCell ⟨R, 2, none⟩ (.int .u32 x.num)).setCell ⟨R, 3, none⟩ (.int .u32 x.sent)).setCell ⟨R, 4, none⟩ (.int .i64 x.since)).setCell ⟨R, 5, none⟩ (.int .i64 x.v.latched)).setCell ⟨R, 6, none⟩ (.bool x.v.request)).setCell ⟨R, 7, none⟩ (.bool x.v.on)).setCell ⟨R, 8, none⟩ (.slice (some ⟨kk, 0, none⟩) x.v.out.length cap)).drew R 42 [.int .i64 x.state, .int .u32 x.ses, .int .u32 x.num, .int .u32 x.sent, .int .i64 x.since, .int .i64 x.v.latched, .bool x.v.request, .bool x.v.on, .slice (some ⟨kk, 0, none⟩) x.v.out.length cap]) := hid ES.out.drew
  have HO5 := hid (HO.out.kept KS.out (by have := HK.out; have := E0.out.lt; simp; omega))
  obtain ⟨w5, hw5⟩ : ∃ w5, w5 = (((((((((w1.setCell ⟨R, 0, none⟩ (.int .i64 x.state)).setCell ⟨R, 1, none⟩ (.int .u32 x.ses)).setCell ⟨R, 2, none⟩ (.int .u32 x.num)).setCell ⟨R, 3, none⟩ (.int .u32 x.sent)).setCell ⟨R, 4, none⟩ (.int .i64 x.since)).setCell ⟨R, 5, none⟩ (.int .i64 x.v.latched)).setCell ⟨R, 6, none⟩ (.bool x.v.request)).setCell ⟨R, 7, none⟩ (.bool x.v.on)).setCell ⟨R, 8, none⟩ (.slice (some ⟨kk, 0, none⟩) x.v.out.length cap)).drew := ⟨_, rfl⟩
  rw [← hw5] at KF ES HO5 ⊢
  clear hw5 KS
  have u0 := ES.out.cell 0 rfl
  have u1 := ES.out.cell 1 rfl
  have u2 := ES.out.cell 2 rfl
  have u3 := ES.out.cell 3 rfl
  have u4 := ES.out.cell 4 rfl
  have u5 := ES.out.cell 5 rfl
  have u6 := ES.out.cell 6 rfl
  have u7 := ES.out.cell 7 rfl
  have u8 := ES.out.cell 8 rfl
  go_wp2_with fail
  refine bodyPost_ret (v := eval' x.see (.slice (some ⟨kk, 0, none⟩) x.v.out.length cap)) (by simp [results, Tryz.results43, go_sem, eval', H.see, *]) rfl ?_
  exact ⟨_, rfl, KF.out, kk, Nat.le_trans K0.out.size HK.out, HO5.out⟩
end HostC
namespace HostC
open Go Go.RowKit Gf SlC CrcW SlM Hp Sl Ow DiagC ValveC DogC Kx TM EncW ParW UnW UEnc NumW UDecW
variable {G : Nat → Prop} {w w' w'' : World} {b d v g o lg k : Nat} {s : Value} {x y : H}
theorem fkV {R : Nat} {u : U} {dp : Option Addr} {dc : Nat} (HA : Hid (HAt G w b d v g o lg k s x)) (UA : Hid (Has w R 63 [.int .i64 u.kind, .int .u32 u.code, .int .u32 u.ses, .int .u32 u.num, .int .i64 u.flags, .slice dp u.data.length dc])) : ∀ w', Kept [] w w' → (w'.cell? ⟨b, 0, none⟩ = some (.int .u32 x.p.code) ∧ w'.cell? ⟨b, 8, none⟩ = some (.int .i64 x.state) ∧ w'.cell? ⟨b, 9, none⟩ = some (.int .u32 x.ses) ∧ w'.cell? ⟨R, 0, none⟩ = some (.int .i64 u.kind) ∧ w'.cell? ⟨R, 1, none⟩ = some (.int .u32 u.code) ∧ w'.cell? ⟨R, 2, none⟩ = some (.int .u32 u.ses) ∧ w'.cell? ⟨R, 3, none⟩ = some (.int .u32 u.num) ∧ w'.cell? ⟨R, 4, none⟩ = some (.int .i64 u.flags) ∧ w'.cell? ⟨R, 5, none⟩ = some (.slice dp u.data.length dc)) := fun w' q => ⟨(q.has HA.out.top (by simp)).cell 0 rfl, (q.has HA.out.top (by simp)).cell 8 rfl, (q.has HA.out.top (by simp)).cell 9 rfl, (q.has UA.out (by simp)).cell 0 rfl, (q.has UA.out (by simp)).cell 1 rfl, (q.has UA.out (by simp)).cell 2 rfl, (q.has UA.out (by simp)).cell 3 rfl, (q.has UA.out (by simp)).cell 4 rfl, (q.has UA.out (by simp)).cell 5 rfl⟩
set_option maxRecDepth 100000 in
theorem fromDevice_call (n : Int) (w : World) : Calls Tryz.prog 128 #[.int .i64 n] w fun e w' => e = .returned (.bool (decide (17 ≤ n) && decide (n ≤ 22))) ∧ w' = w := by
  go_enter Tryz.func128, Tryz.ntmps128
  go_wp2_with fail
  · go_ret
    simp [*]
  · go_ret
    simp [*]
    omega
set_option maxRecDepth 100000 in
theorem read_bad (hx : HOk x) (hG : Opn G w) (h : HAt G w b d v g o lg k s x) (vb : Value) (L : List Int) (hs : Bytes w vb L) (hb : By L) (l1 : 19 ≤ L.length) (l2 : L.length ≤ 27) (hc : crc L ≠ 0) :
    Calls Tryz.prog 99 #[.pointer (some ⟨b, 0, none⟩), vb] w fun e w' => e = .returned (.int .i64 42) ∧ Kept [] w w' := by
  have DB := hid (decode_bad vb L w hs hb l1 l2 hc)
  clear hx hG h hs hb l1 l2 hc
  go_enter Tryz.func99, Tryz.ntmps99
  go_wp2_with fail
  refine DB.out.mono ?_
  rintro e w1 ⟨rfl, k1⟩
  have K1 := hid k1
  clear k1
  unfold uval
  go_wp2_with fail
  go_ret
  exact ⟨rfl, K1.out.alloc _⟩
theorem _root_.Go.Proofs.YtinaliblnihpbaaGreat.UnW.Law.flags {u : U} (h : Law u) : 0 ≤ u.flags ∧ u.flags ≤ 15 := by
  rcases h with ⟨_, h⟩ | ⟨_, h⟩ | ⟨_, h⟩ | ⟨_, h⟩ | ⟨_, h⟩ | ⟨_, h⟩ | ⟨_, h⟩ | ⟨_, h⟩ | ⟨_, h⟩ | ⟨_, h⟩ | ⟨_, h⟩ <;> exact ⟨h.lo, h.hi⟩
-- LEAVES
set_option maxRecDepth 100000 in
theorem read43 (hx : HOk x) (hG : Opn G w) (h : HAt G w b d v g o lg k s x) (u : U) (hr : URange u) (hl : Law u) (vb : Value) (hs : Bytes w vb (frame u)) (h1 : ¬ (17 ≤ u.kind ∧ u.kind ≤ 22)) :
    Calls Tryz.prog 99 #[.pointer (some ⟨b, 0, none⟩), vb] w fun e w' => e = .returned (.int .i64 ((x, (43 : Int))).2) ∧ KG G w w' ∧ HAt G w' b d v g o lg k s ((x, (43 : Int))).1 := by
  have DB := hid (decode_ok u hr hl vb w hs)
  have HH := hid h
  have HX := hid hx
  have HG := hid hG
  have DA := hid hr.data
  have HFL := hid (hl.flags)
  have SM := hid (h.mono (G' := fun i => G i ∧ i < w.heap.size) (fun i hi hg => ⟨hg, hi⟩))
  have Xh1 := hid h1
  clear hx hG h hs hl hr h1
  go_enter Tryz.func99, Tryz.ntmps99
  go_wp2_with fail
  refine DB.out.mono ?_
  rintro e w1 ⟨vd, rfl, k1, m1⟩
  have K1 := hid k1
  have M1 := hid m1
  obtain ⟨dp, dc, rfl⟩ := m1.shape
  clear k1 m1
  unfold uval
  go_wp2_with fail
  have K2 := hid (K1.out.alloc (.cells #[.int .i64 u.kind, .int .u32 u.code, .int .u32 u.ses, .int .u32 u.num, .int .i64 u.flags, .slice dp u.data.length dc] 63))
  have U2 := hid (Has.new w1 63 [.int .i64 u.kind, .int .u32 u.code, .int .u32 u.ses, .int .u32 u.num, .int .i64 u.flags, .slice dp u.data.length dc])
  have H2 := hid (HH.out.nil K2.out)
  have M2 := hid (M1.out.kept ((Kept.refl [] w1).alloc (.cells #[.int .i64 u.kind, .int .u32 u.code, .int .u32 u.ses, .int .u32 u.num, .int .i64 u.flags, .slice dp u.data.length dc] 63)) (by simp))
  generalize w1.alloc (.cells #[.int .i64 u.kind, .int .u32 u.code, .int .u32 u.ses, .int .u32 u.num, .int .i64 u.flags, .slice dp u.data.length dc] 63) = w2 at K2 U2 H2 M2 ⊢
  have RR := hid K1.out.size
  generalize w1.heap.size = R at U2 RR ⊢
  refine (fromDevice_call u.kind w2).mono ?_
  rintro e w3 ⟨rfl, rfl⟩
  have FK := hid (fkV H2 U2)
  have q3 := Kept.refl [] w3
  have e0 : (decide (17 ≤ u.kind) && decide (u.kind ≤ 22)) = false := by have := Xh1.out; simp; omega
  rw [e0]
  clear e0
  go_wp2_with fail
  have K3 := hid (K2.out.trans q3)
  have H3 := hid (H2.out.nil q3)
  have U3 := hid (q3.has U2.out (by simp))
  have M3 := hid (M2.out.kept q3 (by simp))
  go_ret
  exact ⟨rfl, .nil K3.out, H3.out⟩
set_option maxRecDepth 100000 in
theorem read44 (hx : HOk x) (hG : Opn G w) (h : HAt G w b d v g o lg k s x) (u : U) (hr : URange u) (hl : Law u) (vb : Value) (hs : Bytes w vb (frame u)) (h1 : 17 ≤ u.kind ∧ u.kind ≤ 22) (h2 : ¬ u.code = x.p.code) :
    Calls Tryz.prog 99 #[.pointer (some ⟨b, 0, none⟩), vb] w fun e w' => e = .returned (.int .i64 ((x, (44 : Int))).2) ∧ KG G w w' ∧ HAt G w' b d v g o lg k s ((x, (44 : Int))).1 := by
  have DB := hid (decode_ok u hr hl vb w hs)
  have HH := hid h
  have HX := hid hx
  have HG := hid hG
  have DA := hid hr.data
  have HFL := hid (hl.flags)
  have SM := hid (h.mono (G' := fun i => G i ∧ i < w.heap.size) (fun i hi hg => ⟨hg, hi⟩))
  have Xh1 := hid h1
  have Xh2 := hid h2
  clear hx hG h hs hl hr h1 h2
  go_enter Tryz.func99, Tryz.ntmps99
  go_wp2_with fail
  refine DB.out.mono ?_
  rintro e w1 ⟨vd, rfl, k1, m1⟩
  have K1 := hid k1
  have M1 := hid m1
  obtain ⟨dp, dc, rfl⟩ := m1.shape
  clear k1 m1
  unfold uval
  go_wp2_with fail
  have K2 := hid (K1.out.alloc (.cells #[.int .i64 u.kind, .int .u32 u.code, .int .u32 u.ses, .int .u32 u.num, .int .i64 u.flags, .slice dp u.data.length dc] 63))
  have U2 := hid (Has.new w1 63 [.int .i64 u.kind, .int .u32 u.code, .int .u32 u.ses, .int .u32 u.num, .int .i64 u.flags, .slice dp u.data.length dc])
  have H2 := hid (HH.out.nil K2.out)
  have M2 := hid (M1.out.kept ((Kept.refl [] w1).alloc (.cells #[.int .i64 u.kind, .int .u32 u.code, .int .u32 u.ses, .int .u32 u.num, .int .i64 u.flags, .slice dp u.data.length dc] 63)) (by simp))
  generalize w1.alloc (.cells #[.int .i64 u.kind, .int .u32 u.code, .int .u32 u.ses, .int .u32 u.num, .int .i64 u.flags, .slice dp u.data.length dc] 63) = w2 at K2 U2 H2 M2 ⊢
  have RR := hid K1.out.size
  generalize w1.heap.size = R at U2 RR ⊢
  refine (fromDevice_call u.kind w2).mono ?_
  rintro e w3 ⟨rfl, rfl⟩
  have FK := hid (fkV H2 U2)
  have q3 := Kept.refl [] w3
  have e0 : (decide (17 ≤ u.kind) && decide (u.kind ≤ 22)) = true := by have := Xh1.out; simp; omega
  have e1 : (u.code != x.p.code) = true := by simp [Xh2.out]
  rw [e0]
  clear e0
  go_wp2_with fail
  obtain ⟨f0, f8, f9, y0, y1, y2, y3, y4, y5⟩ := FK.out _ q3
  go_quiet (fail)
  have q4 := q3.drewN nq
  clear f0 f8 f9 y0 y1 y2 y3 y4 y5 q3
  generalize w3.drewN nq = w4 at q4 ⊢
  obtain ⟨f0, f8, f9, y0, y1, y2, y3, y4, y5⟩ := FK.out _ q4
  go_wp2_with fail
  clear f0 f8 f9 y0 y1 y2 y3 y4 y5
  have K3 := hid (K2.out.trans q4)
  have H3 := hid (H2.out.nil q4)
  have U3 := hid (q4.has U2.out (by simp))
  have M3 := hid (M2.out.kept q4 (by simp))
  go_ret
  exact ⟨rfl, .nil K3.out, H3.out⟩
set_option maxRecDepth 100000 in
theorem readI (hx : HOk x) (hG : Opn G w) (h : HAt G w b d v g o lg k s x) (u : U) (hr : URange u) (hl : Law u) (vb : Value) (hs : Bytes w vb (frame u)) (h1 : 17 ≤ u.kind ∧ u.kind ≤ 22) (h2 : u.code = x.p.code) (h3 : x.state = 1) :
    Calls Tryz.prog 99 #[.pointer (some ⟨b, 0, none⟩), vb] w fun e w' => e = .returned (.int .i64 (x.offered (sigB x.p) u).2) ∧ KG G w w' ∧ HAt G w' b d v g o lg k s (x.offered (sigB x.p) u).1 := by
  have DB := hid (decode_ok u hr hl vb w hs)
  have HH := hid h
  have HX := hid hx
  have HG := hid hG
  have DA := hid hr.data
  have HFL := hid (hl.flags)
  have SM := hid (h.mono (G' := fun i => G i ∧ i < w.heap.size) (fun i hi hg => ⟨hg, hi⟩))
  have Xh1 := hid h1
  have Xh2 := hid h2
  have Xh3 := hid h3
  clear hx hG h hs hl hr h1 h2 h3
  go_enter Tryz.func99, Tryz.ntmps99
  go_wp2_with fail
  refine DB.out.mono ?_
  rintro e w1 ⟨vd, rfl, k1, m1⟩
  have K1 := hid k1
  have M1 := hid m1
  obtain ⟨dp, dc, rfl⟩ := m1.shape
  clear k1 m1
  unfold uval
  go_wp2_with fail
  have K2 := hid (K1.out.alloc (.cells #[.int .i64 u.kind, .int .u32 u.code, .int .u32 u.ses, .int .u32 u.num, .int .i64 u.flags, .slice dp u.data.length dc] 63))
  have U2 := hid (Has.new w1 63 [.int .i64 u.kind, .int .u32 u.code, .int .u32 u.ses, .int .u32 u.num, .int .i64 u.flags, .slice dp u.data.length dc])
  have H2 := hid (HH.out.nil K2.out)
  have M2 := hid (M1.out.kept ((Kept.refl [] w1).alloc (.cells #[.int .i64 u.kind, .int .u32 u.code, .int .u32 u.ses, .int .u32 u.num, .int .i64 u.flags, .slice dp u.data.length dc] 63)) (by simp))
  generalize w1.alloc (.cells #[.int .i64 u.kind, .int .u32 u.code, .int .u32 u.ses, .int .u32 u.num, .int .i64 u.flags, .slice dp u.data.length dc] 63) = w2 at K2 U2 H2 M2 ⊢
  have RR := hid K1.out.size
  generalize w1.heap.size = R at U2 RR ⊢
  refine (fromDevice_call u.kind w2).mono ?_
  rintro e w3 ⟨rfl, rfl⟩
  have FK := hid (fkV H2 U2)
  have q3 := Kept.refl [] w3
  have e0 : (decide (17 ≤ u.kind) && decide (u.kind ≤ 22)) = true := by have := Xh1.out; simp; omega
  have e1 : (u.code != x.p.code) = false := by simp [Xh2.out]
  have e2 : (x.state == 1) = true := by simp [Xh3.out]
  rw [e0]
  clear e0
  go_wp2_with fail
  obtain ⟨f0, f8, f9, y0, y1, y2, y3, y4, y5⟩ := FK.out _ q3
  go_quiet (fail)
  have q4 := q3.drewN nq
  clear f0 f8 f9 y0 y1 y2 y3 y4 y5 q3
  generalize w3.drewN nq = w4 at q4 ⊢
  obtain ⟨f0, f8, f9, y0, y1, y2, y3, y4, y5⟩ := FK.out _ q4
  go_wp2_with fail
  clear f0 f8 f9 y0 y1 y2 y3 y4 y5
  have K3 := hid (K2.out.trans q4)
  have H3 := hid (H2.out.nil q4)
  have U3 := hid (q4.has U2.out (by simp))
  have M3 := hid (M2.out.kept q4 (by simp))
  have HGM := hid (HG.out.kg (KG.nil (G := G) K3.out))
  refine (offered_call HX.out HGM.out H3.out u _ M3.out.bytes DA.out).mono ?_
  rintro e w9 ⟨rfl, k9, h9⟩
  have K9 := hid k9
  have H9 := hid h9
  clear k9 h9
  go_wp2_with fail
  go_ret
  exact ⟨rfl, (KG.nil K3.out).trans K9.out, H9.out⟩
set_option maxRecDepth 100000 in
theorem readS (hx : HOk x) (hG : Opn G w) (h : HAt G w b d v g o lg k s x) (u : U) (hr : URange u) (hl : Law u) (vb : Value) (hs : Bytes w vb (frame u)) (h1 : 17 ≤ u.kind ∧ u.kind ≤ 22) (h2 : u.code = x.p.code) (h3 : ¬ x.state = 1) (h4 : ¬ u.ses = x.ses) :
    Calls Tryz.prog 99 #[.pointer (some ⟨b, 0, none⟩), vb] w fun e w' => e = .returned (.int .i64 ((x, (130 : Int))).2) ∧ KG G w w' ∧ HAt G w' b d v g o lg k s ((x, (130 : Int))).1 := by
  have DB := hid (decode_ok u hr hl vb w hs)
  have HH := hid h
  have HX := hid hx
  have HG := hid hG
  have DA := hid hr.data
  have HFL := hid (hl.flags)
  have SM := hid (h.mono (G' := fun i => G i ∧ i < w.heap.size) (fun i hi hg => ⟨hg, hi⟩))
  have Xh1 := hid h1
  have Xh2 := hid h2
  have Xh3 := hid h3
  have Xh4 := hid h4
  clear hx hG h hs hl hr h1 h2 h3 h4
  go_enter Tryz.func99, Tryz.ntmps99
  go_wp2_with fail
  refine DB.out.mono ?_
  rintro e w1 ⟨vd, rfl, k1, m1⟩
  have K1 := hid k1
  have M1 := hid m1
  obtain ⟨dp, dc, rfl⟩ := m1.shape
  clear k1 m1
  unfold uval
  go_wp2_with fail
  have K2 := hid (K1.out.alloc (.cells #[.int .i64 u.kind, .int .u32 u.code, .int .u32 u.ses, .int .u32 u.num, .int .i64 u.flags, .slice dp u.data.length dc] 63))
  have U2 := hid (Has.new w1 63 [.int .i64 u.kind, .int .u32 u.code, .int .u32 u.ses, .int .u32 u.num, .int .i64 u.flags, .slice dp u.data.length dc])
  have H2 := hid (HH.out.nil K2.out)
  have M2 := hid (M1.out.kept ((Kept.refl [] w1).alloc (.cells #[.int .i64 u.kind, .int .u32 u.code, .int .u32 u.ses, .int .u32 u.num, .int .i64 u.flags, .slice dp u.data.length dc] 63)) (by simp))
  generalize w1.alloc (.cells #[.int .i64 u.kind, .int .u32 u.code, .int .u32 u.ses, .int .u32 u.num, .int .i64 u.flags, .slice dp u.data.length dc] 63) = w2 at K2 U2 H2 M2 ⊢
  have RR := hid K1.out.size
  generalize w1.heap.size = R at U2 RR ⊢
  refine (fromDevice_call u.kind w2).mono ?_
  rintro e w3 ⟨rfl, rfl⟩
  have FK := hid (fkV H2 U2)
  have q3 := Kept.refl [] w3
  have e0 : (decide (17 ≤ u.kind) && decide (u.kind ≤ 22)) = true := by have := Xh1.out; simp; omega
  have e1 : (u.code != x.p.code) = false := by simp [Xh2.out]
  have e2 : (x.state == 1) = false := by simp [Xh3.out]
  have e3 : (u.ses != x.ses) = true := by simp [Xh4.out]
  rw [e0]
  clear e0
  go_wp2_with fail
  obtain ⟨f0, f8, f9, y0, y1, y2, y3, y4, y5⟩ := FK.out _ q3
  go_quiet (fail)
  have q4 := q3.drewN nq
  clear f0 f8 f9 y0 y1 y2 y3 y4 y5 q3
  generalize w3.drewN nq = w4 at q4 ⊢
  obtain ⟨f0, f8, f9, y0, y1, y2, y3, y4, y5⟩ := FK.out _ q4
  go_wp2_with fail
  clear f0 f8 f9 y0 y1 y2 y3 y4 y5
  obtain ⟨f0, f8, f9, y0, y1, y2, y3, y4, y5⟩ := FK.out _ q4
  go_quiet (fail)
  have q5 := q4.drewN nq
  clear f0 f8 f9 y0 y1 y2 y3 y4 y5 q4
  generalize w4.drewN nq = w5 at q5 ⊢
  obtain ⟨f0, f8, f9, y0, y1, y2, y3, y4, y5⟩ := FK.out _ q5
  go_wp2_with fail
  clear f0 f8 f9 y0 y1 y2 y3 y4 y5
  have K3 := hid (K2.out.trans q5)
  have H3 := hid (H2.out.nil q5)
  have U3 := hid (q5.has U2.out (by simp))
  have M3 := hid (M2.out.kept q5 (by simp))
  go_ret
  exact ⟨rfl, .nil K3.out, H3.out⟩
set_option maxRecDepth 100000 in
theorem readD (hx : HOk x) (hG : Opn G w) (h : HAt G w b d v g o lg k s x) (u : U) (hr : URange u) (hl : Law u) (vb : Value) (hs : Bytes w vb (frame u)) (h1 : 17 ≤ u.kind ∧ u.kind ≤ 22) (h2 : u.code = x.p.code) (h3 : ¬ x.state = 1) (h4 : u.ses = x.ses) (h5 : x.state = 5) :
    Calls Tryz.prog 99 #[.pointer (some ⟨b, 0, none⟩), vb] w fun e w' => e = .returned (.int .i64 ((x, (130 : Int))).2) ∧ KG G w w' ∧ HAt G w' b d v g o lg k s ((x, (130 : Int))).1 := by
  have DB := hid (decode_ok u hr hl vb w hs)
  have HH := hid h
  have HX := hid hx
  have HG := hid hG
  have DA := hid hr.data
  have HFL := hid (hl.flags)
  have SM := hid (h.mono (G' := fun i => G i ∧ i < w.heap.size) (fun i hi hg => ⟨hg, hi⟩))
  have Xh1 := hid h1
  have Xh2 := hid h2
  have Xh3 := hid h3
  have Xh4 := hid h4
  have Xh5 := hid h5
  clear hx hG h hs hl hr h1 h2 h3 h4 h5
  go_enter Tryz.func99, Tryz.ntmps99
  go_wp2_with fail
  refine DB.out.mono ?_
  rintro e w1 ⟨vd, rfl, k1, m1⟩
  have K1 := hid k1
  have M1 := hid m1
  obtain ⟨dp, dc, rfl⟩ := m1.shape
  clear k1 m1
  unfold uval
  go_wp2_with fail
  have K2 := hid (K1.out.alloc (.cells #[.int .i64 u.kind, .int .u32 u.code, .int .u32 u.ses, .int .u32 u.num, .int .i64 u.flags, .slice dp u.data.length dc] 63))
  have U2 := hid (Has.new w1 63 [.int .i64 u.kind, .int .u32 u.code, .int .u32 u.ses, .int .u32 u.num, .int .i64 u.flags, .slice dp u.data.length dc])
  have H2 := hid (HH.out.nil K2.out)
  have M2 := hid (M1.out.kept ((Kept.refl [] w1).alloc (.cells #[.int .i64 u.kind, .int .u32 u.code, .int .u32 u.ses, .int .u32 u.num, .int .i64 u.flags, .slice dp u.data.length dc] 63)) (by simp))
  generalize w1.alloc (.cells #[.int .i64 u.kind, .int .u32 u.code, .int .u32 u.ses, .int .u32 u.num, .int .i64 u.flags, .slice dp u.data.length dc] 63) = w2 at K2 U2 H2 M2 ⊢
  have RR := hid K1.out.size
  generalize w1.heap.size = R at U2 RR ⊢
  refine (fromDevice_call u.kind w2).mono ?_
  rintro e w3 ⟨rfl, rfl⟩
  have FK := hid (fkV H2 U2)
  have q3 := Kept.refl [] w3
  have e0 : (decide (17 ≤ u.kind) && decide (u.kind ≤ 22)) = true := by have := Xh1.out; simp; omega
  have e1 : (u.code != x.p.code) = false := by simp [Xh2.out]
  have e2 : (x.state == 1) = false := by simp [Xh3.out]
  have e3 : (u.ses != x.ses) = false := by simp [Xh4.out]
  have e4 : (x.state == 5) = true := by simp [Xh5.out]
  rw [e0]
  clear e0
  go_wp2_with fail
  obtain ⟨f0, f8, f9, y0, y1, y2, y3, y4, y5⟩ := FK.out _ q3
  go_quiet (fail)
  have q4 := q3.drewN nq
  clear f0 f8 f9 y0 y1 y2 y3 y4 y5 q3
  generalize w3.drewN nq = w4 at q4 ⊢
  obtain ⟨f0, f8, f9, y0, y1, y2, y3, y4, y5⟩ := FK.out _ q4
  go_wp2_with fail
  clear f0 f8 f9 y0 y1 y2 y3 y4 y5
  obtain ⟨f0, f8, f9, y0, y1, y2, y3, y4, y5⟩ := FK.out _ q4
  go_quiet (fail)
  have q5 := q4.drewN nq
  clear f0 f8 f9 y0 y1 y2 y3 y4 y5 q4
  generalize w4.drewN nq = w5 at q5 ⊢
  obtain ⟨f0, f8, f9, y0, y1, y2, y3, y4, y5⟩ := FK.out _ q5
  go_wp2_with fail
  clear f0 f8 f9 y0 y1 y2 y3 y4 y5
  have K3 := hid (K2.out.trans q5)
  have H3 := hid (H2.out.nil q5)
  have U3 := hid (q5.has U2.out (by simp))
  have M3 := hid (M2.out.kept q5 (by simp))
  go_ret
  exact ⟨rfl, .nil K3.out, H3.out⟩
set_option maxRecDepth 100000 in
theorem readT (hx : HOk x) (hG : Opn G w) (h : HAt G w b d v g o lg k s x) (u : U) (hr : URange u) (hl : Law u) (vb : Value) (hs : Bytes w vb (frame u)) (h1 : 17 ≤ u.kind ∧ u.kind ≤ 22) (h2 : u.code = x.p.code) (h3 : ¬ x.state = 1) (h4 : u.ses = x.ses) (h5 : ¬ x.state = 5) :
    Calls Tryz.prog 99 #[.pointer (some ⟨b, 0, none⟩), vb] w fun e w' => e = .returned (.int .i64 (x.take u).2) ∧ KG G w w' ∧ HAt G w' b d v g o lg k s (x.take u).1 := by
  have DB := hid (decode_ok u hr hl vb w hs)
  have HH := hid h
  have HX := hid hx
  have HG := hid hG
  have DA := hid hr.data
  have HFL := hid (hl.flags)
  have SM := hid (h.mono (G' := fun i => G i ∧ i < w.heap.size) (fun i hi hg => ⟨hg, hi⟩))
  have Xh1 := hid h1
  have Xh2 := hid h2
  have Xh3 := hid h3
  have Xh4 := hid h4
  have Xh5 := hid h5
  clear hx hG h hs hl hr h1 h2 h3 h4 h5
  go_enter Tryz.func99, Tryz.ntmps99
  go_wp2_with fail
  refine DB.out.mono ?_
  rintro e w1 ⟨vd, rfl, k1, m1⟩
  have K1 := hid k1
  have M1 := hid m1
  obtain ⟨dp, dc, rfl⟩ := m1.shape
  clear k1 m1
  unfold uval
  go_wp2_with fail
  have K2 := hid (K1.out.alloc (.cells #[.int .i64 u.kind, .int .u32 u.code, .int .u32 u.ses, .int .u32 u.num, .int .i64 u.flags, .slice dp u.data.length dc] 63))
  have U2 := hid (Has.new w1 63 [.int .i64 u.kind, .int .u32 u.code, .int .u32 u.ses, .int .u32 u.num, .int .i64 u.flags, .slice dp u.data.length dc])
  have H2 := hid (HH.out.nil K2.out)
  have M2 := hid (M1.out.kept ((Kept.refl [] w1).alloc (.cells #[.int .i64 u.kind, .int .u32 u.code, .int .u32 u.ses, .int .u32 u.num, .int .i64 u.flags, .slice dp u.data.length dc] 63)) (by simp))
  generalize w1.alloc (.cells #[.int .i64 u.kind, .int .u32 u.code, .int .u32 u.ses, .int .u32 u.num, .int .i64 u.flags, .slice dp u.data.length dc] 63) = w2 at K2 U2 H2 M2 ⊢
  have RR := hid K1.out.size
  generalize w1.heap.size = R at U2 RR ⊢
  refine (fromDevice_call u.kind w2).mono ?_
  rintro e w3 ⟨rfl, rfl⟩
  have FK := hid (fkV H2 U2)
  have q3 := Kept.refl [] w3
  have e0 : (decide (17 ≤ u.kind) && decide (u.kind ≤ 22)) = true := by have := Xh1.out; simp; omega
  have e1 : (u.code != x.p.code) = false := by simp [Xh2.out]
  have e2 : (x.state == 1) = false := by simp [Xh3.out]
  have e3 : (u.ses != x.ses) = false := by simp [Xh4.out]
  have e4 : (x.state == 5) = false := by simp [Xh5.out]
  rw [e0]
  clear e0
  go_wp2_with fail
  obtain ⟨f0, f8, f9, y0, y1, y2, y3, y4, y5⟩ := FK.out _ q3
  go_quiet (fail)
  have q4 := q3.drewN nq
  clear f0 f8 f9 y0 y1 y2 y3 y4 y5 q3
  generalize w3.drewN nq = w4 at q4 ⊢
  obtain ⟨f0, f8, f9, y0, y1, y2, y3, y4, y5⟩ := FK.out _ q4
  go_wp2_with fail
  clear f0 f8 f9 y0 y1 y2 y3 y4 y5
  obtain ⟨f0, f8, f9, y0, y1, y2, y3, y4, y5⟩ := FK.out _ q4
  go_quiet (fail)
  have q5 := q4.drewN nq
  clear f0 f8 f9 y0 y1 y2 y3 y4 y5 q4
  generalize w4.drewN nq = w5 at q5 ⊢
  obtain ⟨f0, f8, f9, y0, y1, y2, y3, y4, y5⟩ := FK.out _ q5
  go_wp2_with fail
  clear f0 f8 f9 y0 y1 y2 y3 y4 y5
  have K3 := hid (K2.out.trans q5)
  have H3 := hid (H2.out.nil q5)
  have U3 := hid (q5.has U2.out (by simp))
  have M3 := hid (M2.out.kept q5 (by simp))
  have HM := hid ((SM.out.nil K3.out).mono (G' := fun i => (G i ∧ i < w.heap.size) ∨ w5.heap.size ≤ i) (fun i hi hg => .inl hg))
  have OM := hid (show Opn (fun i => (G i ∧ i < w.heap.size) ∨ w5.heap.size ≤ i) w5 from fun i hi => .inr hi)
  have ND := hid (show ∀ b' off n c, (Value.slice dp u.data.length dc) = .slice (some ⟨b', off, none⟩) n c → u.data ≠ [] → ¬ ((G b' ∧ b' < w.heap.size) ∨ w5.heap.size ≤ b') by
    intro b' off n c e hne hh
    have q := M3.out.2
    have lt := fun k => M3.out.1.lt (k := k)
    rw [e] at q lt
    have hb := M3.out.1
    rw [e] at hb
    rcases hb with ⟨e1, _⟩ | ⟨g1, cap1, cur1, e1, _⟩
    · cases e1
    · cases e1
      have a1 := q b' rfl
      have a2 := lt b' rfl
      rcases hh with hh | hh <;> omega)
  refine (take_call HX.out OM.out HM.out u HFL.out _ M3.out.bytes ND.out (by have := HX.out.st; have := Xh3.out; have := Xh5.out; omega)).mono ?_
  rintro e w9 ⟨rfl, k9, h9⟩
  have K9 := hid (k9.shed (G' := G) (fun i hi hg => hg.elim (fun q => q.1) (fun q => absurd hi (Nat.not_lt.2 q))))
  have H9 := hid (h9.mono (G' := G) (fun i hi hg => hg.elim (fun q => q.1) (fun q => HG.out _ (Nat.le_trans K3.out.size q))))
  clear k9 h9
  go_wp2_with fail
  go_ret
  exact ⟨rfl, (KG.nil K3.out).trans K9.out, H9.out⟩
end HostC
end Go.Proofs.YtinaliblnihpbaaGreat
