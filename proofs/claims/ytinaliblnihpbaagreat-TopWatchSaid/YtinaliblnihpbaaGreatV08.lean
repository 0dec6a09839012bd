/- The walks and the plain laws of HostM, HostS, HostT, HostN. -/
import Derived.Test.YtinaliblnihpbaaGreatV07
set_option linter.unusedVariables false
set_option linter.unusedSimpArgs false
open Go.Lib (hid)
namespace Go.Proofs.YtinaliblnihpbaaGreat
namespace HostC
open Go Go.RowKit Gf SlC CrcW SlM Hp Sl Ow DiagC ValveC DogC Kx TM EncW ParW UnW UEnc NumW UDecW
variable {G : Nat → Prop} {w w' w'' : World} {b d v g o lg k : Nat} {s : Value} {x y : H}
theorem HOk.law5 (h : HOk x) (hs : x.state = 4) : Law ⟨5, x.p.code, x.ses, x.sent + 1, 0, []⟩ := by
  refine .inr (.inr (.inr (.inr (.inr (.inr (.inr (.inr (.inl ⟨rfl, ?_, .inr (.inr ⟨rfl, rfl⟩), .inr (.inl ⟨rfl, h.live (by omega)⟩), .inr (.inl ⟨rfl, ?_⟩), Int.le_refl _, (by show (0 : Int) ≤ 15; decide), fun _ => rfl⟩))))))))
  · have := h.p.code; show x.p.code ≠ 0; omega
  · have := h.sent; show 0 < x.sent + 1; omega
theorem flags_range (z : V) (q : Bool) : 0 ≤ flagsOf z q ∧ flagsOf z q ≤ 15 := by unfold flagsOf; constructor <;> (split <;> split <;> split <;> split <;> decide)
theorem HOk.law4 (h : HOk x) (hs : x.state = 4) : Law ⟨4, x.p.code, x.ses, x.sent + 1, flagsOf x.v x.hold, x.value⟩ := by
  have hl := h.len
  have ho := h.p.out
  refine .inr (.inr (.inr (.inr (.inr (.inr (.inl ⟨rfl, ?_, .inr (.inl ⟨rfl, ?_, ?_⟩), .inr (.inl ⟨rfl, h.live (by omega)⟩), .inr (.inl ⟨rfl, ?_⟩), (flags_range _ _).1, (flags_range _ _).2, fun e => by cases e⟩))))))
  · have := h.p.code; show x.p.code ≠ 0; omega
  · show 1 ≤ x.value.length; omega
  · show x.value.length ≤ 8; omega
  · have := h.sent; show 0 < x.sent + 1; omega
set_option maxRecDepth 100000 in
set_option maxHeartbeats 1600000 in
theorem compose5 (hx : HOk x) (h1 : x.state = 4) (he : x.sent + 1 = x.p.count) (hG : Opn G w) (h : HAt G w b d v g o lg k s x) :
    Calls Tryz.prog 96 #[.pointer (some ⟨b, 0, none⟩)] w fun e w' => ∃ f, e = .returned f ∧ KG G w w' ∧ HAt G w' b d v g o lg k s { x with sent := x.sent + 1, v := (x.v.trip 80).run false, state := 5 } ∧ Made w w' f (frame ⟨5, x.p.code, x.ses, x.sent + 1, 0, []⟩) := by
  have HG := hid hG
  have ee : (x.sent + 1 == x.p.count) = true := by simp [he]
  have EE := hid ee
  clear ee he hG
  have c0 := h.top.cell 0 (v := .int .u32 x.p.code) rfl
  have c1 := h.top.cell 1 (v := .int .i64 x.p.out) rfl
  have c2 := h.top.cell 2 (v := .int .i64 x.p.inn) rfl
  have c3 := h.top.cell 3 (v := .int .i64 x.p.watch) rfl
  have c4 := h.top.cell 4 (v := .int .u32 x.p.count) rfl
  have HH := hid h
  have HX := hid hx
  have ST := hid h1
  clear h hx h1
  go_enter Tryz.func96, Tryz.ntmps96
  go_wp2_with fail
  refine (signature_call x.p HX.out.p _).mono ?_
  rintro e w1 ⟨rfl, k1⟩
  go_wp2_with fail
  have H1 := hid (HH.out.nil k1)
  have K1 := hid k1
  clear c0 c1 c2 c3 c4 k1
  have c0 := H1.out.top.cell 0 (v := .int .u32 x.p.code) rfl
  have c9 := H1.out.top.cell 9 (v := .int .u32 x.ses) rfl
  have dd : w1.drew.cell? ⟨b, 0, none⟩ = some (.int .u32 x.p.code) ∧ w1.drew.cell? ⟨b, 9, none⟩ = some (.int .u32 x.ses) := ⟨c0, c9⟩
  go_region_held3 (fun w' => w'.cell? ⟨b, 0, none⟩ = some (.int .u32 x.p.code) ∧ w'.cell? ⟨b, 9, none⟩ = some (.int .u32 x.ses)) (first | with_reducible assumption | go_keep) (fail)
  have hU := hid ((Has.new w1 63 [.int .i64 0, .int .u32 x.p.code, .int .u32 x.ses, .int .u32 0, .int .i64 0, .slice none 0 0]).drew)
  have K2 := hid ((K1.out.alloc (.cells #[.int .i64 0, .int .u32 x.p.code, .int .u32 x.ses, .int .u32 0, .int .i64 0, .slice none 0 0] 63)).drew)
  have H2 := hid (H1.out.nil (((Kept.refl [] w1).alloc (.cells #[.int .i64 0, .int .u32 x.p.code, .int .u32 x.ses, .int .u32 0, .int .i64 0, .slice none 0 0] 63)).drew))
  have RU := hid K1.out.size
  clear dd c0 c9
  change Exit.then _ _ Exit.normal _ (w1.alloc (.cells #[.int .i64 0, .int .u32 x.p.code, .int .u32 x.ses, .int .u32 0, .int .i64 0, .slice none 0 0] 63)).drew
  have hU : Hid (Has (w1.alloc (.cells #[.int .i64 0, .int .u32 x.p.code, .int .u32 x.ses, .int .u32 0, .int .i64 0, .slice none 0 0] 63)).drew w1.heap.size 63 [.int .i64 0, .int .u32 x.p.code, .int .u32 x.ses, .int .u32 0, .int .i64 0, .slice none 0 0]) := hU
  have K2 : Hid (Kept [] w (w1.alloc (.cells #[.int .i64 0, .int .u32 x.p.code, .int .u32 x.ses, .int .u32 0, .int .i64 0, .slice none 0 0] 63)).drew) := K2
  have H2 : Hid (HAt G (w1.alloc (.cells #[.int .i64 0, .int .u32 x.p.code, .int .u32 x.ses, .int .u32 0, .int .i64 0, .slice none 0 0] 63)).drew b d v g o lg k s x) := H2
  generalize (w1.alloc (.cells #[.int .i64 0, .int .u32 x.p.code, .int .u32 x.ses, .int .u32 0, .int .i64 0, .slice none 0 0] 63)).drew = w2 at hU K2 H2 ⊢
  generalize w1.heap.size = R at hU RU ⊢
  have c8 := H2.out.top.cell 8 (v := .int .i64 x.state) rfl
  rw [ST.out] at c8
  have c11 := H2.out.top.cell 11 (v := .int .u32 x.sent) rfl
  have z11 := H2.out.top.free 11
  have cp4 := H2.out.top.cell 4 (v := .int .u32 x.p.count) rfl
  have ew : IntKind.u32.wrap (x.sent + 1) = x.sent + 1 := by have h1 := HX.out.sent; have h2 := HX.out.p.count; have h3 := HX.out.more (by rw [ST.out]; decide); rw [IntKind.wrap_u32]; omega
  have y0 := hU.out.cell 0 rfl
  have y1 := hU.out.cell 1 rfl
  have y2 := hU.out.cell 2 rfl
  have y3 := hU.out.cell 3 rfl
  have y4 := hU.out.cell 4 rfl
  have y5 := hU.out.cell 5 rfl
  have n3 := hU.out.free 3
  have ee := EE.out
  go_wp2_with fail
  have nRb : R ≠ b := Ow.Has.ne hU.out H2.out.top (by decide)
  have q3 := H2.out.set (y := { x with sent := x.sent + 1 }) 11 (.int .u32 (x.sent + 1)) rfl rfl rfl rfl rfl
  have u3 := hU.out.set_ne ⟨b, 11, none⟩ (.int .u32 (x.sent + 1)) nRb
  have H3 := hid (q3.temp u3 ((Kept.refl [R] _).set ⟨R, 3, none⟩ (.int .u32 (x.sent + 1)) (by simp)))
  have U3 := hid (u3.set 3 (.int .u32 (x.sent + 1)))
  have K3 := hid (((KG.nil (G := G) K2.out).set (i := 11) (v := .int .u32 (x.sent + 1)) H2.out.gb).set (b := R) (i := 3) (v := .int .u32 (x.sent + 1)) (HG.out R RU.out))
  clear c8 c11 z11 cp4 y0 y1 y2 y3 y4 y5 n3 q3 u3 nRb
  generalize (w2.setCell ⟨b, 11, none⟩ (.int .u32 (x.sent + 1))).setCell ⟨R, 3, none⟩ (.int .u32 (x.sent + 1)) = w3 at H3 U3 K3 ⊢
  have HG3 := hid (HG.out.kg K3.out)
  have c4 := H3.out.top.cell 4 (v := .int .u32 x.p.count) rfl
  have c11 := H3.out.top.cell 11 (v := .int .u32 (x.sent + 1)) rfl
  have d4 : w3.drew.cell? ⟨b, 4, none⟩ = some (.int .u32 x.p.count) := c4
  have d11 : w3.drew.cell? ⟨b, 11, none⟩ = some (.int .u32 (x.sent + 1)) := c11
  go_quiet (fail)
  have H4 := hid (H3.out.nil ((Kept.refl [] w3).drewN nq))
  have U4 := hid (U3.out.drewN nq)
  have K4 := hid (K3.out.drewN nq)
  have HG4 := hid (HG.out.kg K4.out)
  clear c4 c11 d4 d11
  generalize w3.drewN nq = w4 at H4 U4 K4 HG4 ⊢
  have y0 := U4.out.cell 0 rfl
  have n0 := U4.out.free 0
  go_wp2_with fail
  have U5 := hid (U4.out.set 0 (.int .i64 5))
  have H5 := hid (H4.out.temp U4.out ((Kept.refl [R] w4).set ⟨R, 0, none⟩ (.int .i64 5) (by simp)))
  have K5 := hid (K4.out.set (b := R) (i := 0) (v := .int .i64 5) (HG.out R RU.out))
  clear y0 n0
  generalize w4.setCell ⟨R, 0, none⟩ (.int .i64 5) = w5 at U5 H5 K5 ⊢
  have HG5 := hid (HG.out.kg K5.out)
  refine (trip_call 80 (by decide) (by decide) (opn_bare HG5.out U5.out.lt) (H5.out.bare U5.out)).mono ?_
  rintro e w6 ⟨rfl, k6, h6⟩
  have H6 := hid (h6.mono (G' := G) (fun i _ hi => hi.1))
  have U6 := hid (k6.has U5.out (fun e => e.2 rfl))
  have K6 := hid (K5.out.trans (kg_bare k6))
  have c6 := H6.out.top.cell 6 (v := .pointer (some ⟨v, 0, none⟩)) rfl
  clear k6 h6
  go_wp2_with fail
  refine (ValveC.run_call v g o _ false _ H6.out.val).mono ?_
  rintro e w7 ⟨rfl, k7, h7⟩
  have nRv : R ∉ [v] := by obtain ⟨⟨_, h1⟩, _, _⟩ := hasV H6.out.val; simpa using Ow.Has.ne U6.out h1 (by decide)
  have U7 := hid (k7.has U6.out nRv)
  have H7 := hid (H6.out.one k7 h7)
  have K7 := hid (K6.out.trans (.one k7 H6.out.gv))
  have c8 := H7.out.top.cell 8 (v := .int .i64 x.state) rfl
  have n8 := H7.out.top.free 8
  have y0 := U7.out.cell 0 rfl
  have y1 := U7.out.cell 1 rfl
  have y2 := U7.out.cell 2 rfl
  have y3 := U7.out.cell 3 rfl
  have y4 := U7.out.cell 4 rfl
  have y5 := U7.out.cell 5 rfl
  clear k7 h7 nRv
  go_wp2_with fail
  have H8 := hid (H7.out.set (y := { x with sent := x.sent + 1, v := (x.v.trip 80).run false, state := 5 }) 8 (.int .i64 5) rfl rfl rfl rfl rfl)
  have K8 := hid (K7.out.set (i := 8) (v := .int .i64 5) H7.out.gb)
  refine (UEnc.encode_call ⟨5, x.p.code, x.ses, x.sent + 1, 0, []⟩ (HX.out.law5 ST.out) (.slice none 0 0) _ (bytes_none _) (by intro z hz; cases hz)).mono ?_
  rintro e w9 ⟨v9, rfl, k9, m9⟩
  go_wp2_with fail
  go_ret
  exact ⟨v9, rfl, K8.out.trans (.nil k9), H8.out.nil k9, m9.1, fun i hi => Nat.le_trans K8.out.size (m9.2 i hi)⟩
set_option maxRecDepth 100000 in
set_option maxHeartbeats 1600000 in
theorem compose4 (hx : HOk x) (h1 : x.state = 4) (he : x.sent + 1 ≠ x.p.count) (hG : Opn G w) (h : HAt G w b d v g o lg k s x) :
    Calls Tryz.prog 96 #[.pointer (some ⟨b, 0, none⟩)] w fun e w' => ∃ f, e = .returned f ∧ KG G w w' ∧ HAt G w' b d v g o lg k s { x with sent := x.sent + 1 } ∧ Made w w' f (frame ⟨4, x.p.code, x.ses, x.sent + 1, flagsOf x.v x.hold, x.value⟩) := by
  have HG := hid hG
  have ee : (x.sent + 1 == x.p.count) = false := by simp [he]
  have EE := hid ee
  clear ee he hG
  obtain ⟨cap, cur, rfl, _⟩ := id h.own
  have c0 := h.top.cell 0 (v := .int .u32 x.p.code) rfl
  have c1 := h.top.cell 1 (v := .int .i64 x.p.out) rfl
  have c2 := h.top.cell 2 (v := .int .i64 x.p.inn) rfl
  have c3 := h.top.cell 3 (v := .int .i64 x.p.watch) rfl
  have c4 := h.top.cell 4 (v := .int .u32 x.p.count) rfl
  have HH := hid h
  have HX := hid hx
  have ST := hid h1
  clear h hx h1
  go_enter Tryz.func96, Tryz.ntmps96
  go_wp2_with fail
  refine (signature_call x.p HX.out.p _).mono ?_
  rintro e w1 ⟨rfl, k1⟩
  go_wp2_with fail
  have H1 := hid (HH.out.nil k1)
  have K1 := hid k1
  clear c0 c1 c2 c3 c4 k1
  have c0 := H1.out.top.cell 0 (v := .int .u32 x.p.code) rfl
  have c9 := H1.out.top.cell 9 (v := .int .u32 x.ses) rfl
  have dd : w1.drew.cell? ⟨b, 0, none⟩ = some (.int .u32 x.p.code) ∧ w1.drew.cell? ⟨b, 9, none⟩ = some (.int .u32 x.ses) := ⟨c0, c9⟩
  go_region_held3 (fun w' => w'.cell? ⟨b, 0, none⟩ = some (.int .u32 x.p.code) ∧ w'.cell? ⟨b, 9, none⟩ = some (.int .u32 x.ses)) (first | with_reducible assumption | go_keep) (fail)
  have hU := hid ((Has.new w1 63 [.int .i64 0, .int .u32 x.p.code, .int .u32 x.ses, .int .u32 0, .int .i64 0, .slice none 0 0]).drew)
  have K2 := hid ((K1.out.alloc (.cells #[.int .i64 0, .int .u32 x.p.code, .int .u32 x.ses, .int .u32 0, .int .i64 0, .slice none 0 0] 63)).drew)
  have H2 := hid (H1.out.nil (((Kept.refl [] w1).alloc (.cells #[.int .i64 0, .int .u32 x.p.code, .int .u32 x.ses, .int .u32 0, .int .i64 0, .slice none 0 0] 63)).drew))
  have RU := hid K1.out.size
  clear dd c0 c9
  change Exit.then _ _ Exit.normal _ (w1.alloc (.cells #[.int .i64 0, .int .u32 x.p.code, .int .u32 x.ses, .int .u32 0, .int .i64 0, .slice none 0 0] 63)).drew
  have hU : Hid (Has (w1.alloc (.cells #[.int .i64 0, .int .u32 x.p.code, .int .u32 x.ses, .int .u32 0, .int .i64 0, .slice none 0 0] 63)).drew w1.heap.size 63 [.int .i64 0, .int .u32 x.p.code, .int .u32 x.ses, .int .u32 0, .int .i64 0, .slice none 0 0]) := hU
  have K2 : Hid (Kept [] w (w1.alloc (.cells #[.int .i64 0, .int .u32 x.p.code, .int .u32 x.ses, .int .u32 0, .int .i64 0, .slice none 0 0] 63)).drew) := K2
  have H2 : Hid (HAt G (w1.alloc (.cells #[.int .i64 0, .int .u32 x.p.code, .int .u32 x.ses, .int .u32 0, .int .i64 0, .slice none 0 0] 63)).drew b d v g o lg k _ x) := H2
  generalize (w1.alloc (.cells #[.int .i64 0, .int .u32 x.p.code, .int .u32 x.ses, .int .u32 0, .int .i64 0, .slice none 0 0] 63)).drew = w2 at hU K2 H2 ⊢
  generalize w1.heap.size = R at hU RU ⊢
  have c8 := H2.out.top.cell 8 (v := .int .i64 x.state) rfl
  rw [ST.out] at c8
  have c11 := H2.out.top.cell 11 (v := .int .u32 x.sent) rfl
  have z11 := H2.out.top.free 11
  have cp4 := H2.out.top.cell 4 (v := .int .u32 x.p.count) rfl
  have ew : IntKind.u32.wrap (x.sent + 1) = x.sent + 1 := by have h1 := HX.out.sent; have h2 := HX.out.p.count; have h3 := HX.out.more (by rw [ST.out]; decide); rw [IntKind.wrap_u32]; omega
  have y0 := hU.out.cell 0 rfl
  have y1 := hU.out.cell 1 rfl
  have y2 := hU.out.cell 2 rfl
  have y3 := hU.out.cell 3 rfl
  have y4 := hU.out.cell 4 rfl
  have y5 := hU.out.cell 5 rfl
  have n3 := hU.out.free 3
  have ee := EE.out
  go_wp2_with fail
  have nRb : R ≠ b := Ow.Has.ne hU.out H2.out.top (by decide)
  have q3 := H2.out.set (y := { x with sent := x.sent + 1 }) 11 (.int .u32 (x.sent + 1)) rfl rfl rfl rfl rfl
  have u3 := hU.out.set_ne ⟨b, 11, none⟩ (.int .u32 (x.sent + 1)) nRb
  have H3 := hid (q3.temp u3 ((Kept.refl [R] _).set ⟨R, 3, none⟩ (.int .u32 (x.sent + 1)) (by simp)))
  have U3 := hid (u3.set 3 (.int .u32 (x.sent + 1)))
  have K3 := hid (((KG.nil (G := G) K2.out).set (i := 11) (v := .int .u32 (x.sent + 1)) H2.out.gb).set (b := R) (i := 3) (v := .int .u32 (x.sent + 1)) (HG.out R RU.out))
  clear c8 c11 z11 cp4 y0 y1 y2 y3 y4 y5 n3 q3 u3 nRb
  generalize (w2.setCell ⟨b, 11, none⟩ (.int .u32 (x.sent + 1))).setCell ⟨R, 3, none⟩ (.int .u32 (x.sent + 1)) = w3 at H3 U3 K3 ⊢
  have HG3 := hid (HG.out.kg K3.out)
  have c4 := H3.out.top.cell 4 (v := .int .u32 x.p.count) rfl
  have c11 := H3.out.top.cell 11 (v := .int .u32 (x.sent + 1)) rfl
  have d4 : w3.drew.cell? ⟨b, 4, none⟩ = some (.int .u32 x.p.count) := c4
  have d11 : w3.drew.cell? ⟨b, 11, none⟩ = some (.int .u32 (x.sent + 1)) := c11
  go_quiet (fail)
  have H4 := hid (H3.out.nil ((Kept.refl [] w3).drewN nq))
  have U4 := hid (U3.out.drewN nq)
  have K4 := hid (K3.out.drewN nq)
  have HG4 := hid (HG.out.kg K4.out)
  clear c4 c11 d4 d11
  generalize w3.drewN nq = w4 at H4 U4 K4 HG4 ⊢
  go_wp2_with fail
  have nRb : b ≠ R := Ow.Has.ne H4.out.top U4.out (by decide)
  have FN := hid (show 1 ≤ x.v.n ∧ x.v.n ≤ 8 by rw [HX.out.vn]; exact HX.out.p.inn)
  have c14 := H4.out.top.cell 14 (v := (.slice (some ⟨k, 0, none⟩) x.value.length cap)) rfl
  have d14 : w4.drew.cell? ⟨b, 14, none⟩ = some (.slice (some ⟨k, 0, none⟩) x.value.length cap) := c14
  have H5 := hid (H4.out.nil ((Kept.refl [] w4).drew))
  have U5 := hid U4.out.drew
  have K5 := hid K4.out.drew
  have FC := hid (show Calls Tryz.prog 121 #[.pointer (some ⟨b, 0, none⟩)] w4.drew fun e w' => e = .returned (.int .i64 (flagsOf x.v x.hold)) ∧ Kept [] w4.drew w' from flags_call (x := { x with sent := x.sent + 1 }) FN.out.1 FN.out.2 H5.out)
  have t0 := And.intro (U5.out.cell 0 rfl) (U5.out.free 0)
  have t4 := And.intro (U5.out.cell 4 rfl) (U5.out.free 4)
  have t5 := And.intro (U5.out.cell 5 rfl) (U5.out.free 5)
  go_region_held3 (fun w' => w'.cell? ⟨b, 14, none⟩ = some (.slice (some ⟨k, 0, none⟩) x.value.length cap)) (first | with_reducible assumption | with_reducible exact keepS (by with_reducible assumption) nRb | with_reducible exact keepS (keepS (by with_reducible assumption) nRb) nRb | with_reducible exact keepS (keepS (keepS (by with_reducible assumption) nRb) nRb) nRb)
    ((go_at_call 121; with_reducible refine FC.out.mono ?_; rintro e w6 ⟨rfl, k6⟩; have H6 := hid (H5.out.nil k6); have K6 := hid (K5.out.trans (.nil k6)); have e14 := H6.out.top.cell 14 (v := (.slice (some ⟨k, 0, none⟩) x.value.length cap)) rfl; have U6 := hid (k6.has U5.out (by simp)); have t0 := And.intro (U6.out.cell 0 rfl) (U6.out.free 0); have t4 := And.intro (U6.out.cell 4 rfl) (U6.out.free 4); have t5 := And.intro (U6.out.cell 5 rfl) (U6.out.free 5); clear k6))
  have kk := (((Kept.refl [R] w6).set ⟨R, 0, none⟩ (.int .i64 4) (by simp)).set ⟨R, 4, none⟩ (.int .i64 (flagsOf x.v x.hold)) (by simp)).set ⟨R, 5, none⟩ (.slice (some ⟨k, 0, none⟩) x.value.length cap) (by simp)
  have H7 := hid (H6.out.temp U6.out kk)
  have U7 := hid (((U6.out.set 0 (.int .i64 4)).set 4 (.int .i64 (flagsOf x.v x.hold))).set 5 (.slice (some ⟨k, 0, none⟩) x.value.length cap))
  have K7 := hid (K6.out.trans (.one kk (HG.out R RU.out)))
  clear kk
  generalize (((w6.setCell ⟨R, 0, none⟩ (.int .i64 4)).setCell ⟨R, 4, none⟩ (.int .i64 (flagsOf x.v x.hold))).setCell ⟨R, 5, none⟩ (.slice (some ⟨k, 0, none⟩) x.value.length cap)) = w7 at H7 U7 K7 ⊢
  clear t0 t4 t5 e14 d14 c14
  have y0 := U7.out.cell 0 rfl
  have y1 := U7.out.cell 1 rfl
  have y2 := U7.out.cell 2 rfl
  have y3 := U7.out.cell 3 rfl
  have y4 := U7.out.cell 4 rfl
  have y5 := U7.out.cell 5 rfl
  go_wp2_with fail
  refine (UEnc.encode_call ⟨4, x.p.code, x.ses, x.sent + 1, flagsOf x.v x.hold, x.value⟩ (HX.out.law4 ST.out) (.slice (some ⟨k, 0, none⟩) x.value.length cap) _ H7.out.own.bytes HX.out.byt).mono ?_
  rintro e w9 ⟨v9, rfl, k9, m9⟩
  go_wp2_with fail
  go_ret
  exact ⟨v9, rfl, K7.out.trans (.nil k9), H7.out.nil k9, m9.1, fun i hi => Nat.le_trans K7.out.size (m9.2 i hi)⟩
end HostC
namespace HostC
open Go Go.RowKit Gf SlC CrcW SlM Hp Sl Ow DiagC ValveC DogC Kx TM EncW ParW UnW UEnc NumW UDecW
variable {G : Nat → Prop} {w w' w'' : World} {b d v g o lg k : Nat} {s : Value} {x y : H}
theorem run_n (z : V) (q : Bool) : (z.run q).n = z.n := by unfold V.run; split <;> rfl
theorem trip_n (z : V) (c : Int) : (z.trip c).n = z.n := by unfold V.trip; split <;> rfl
theorem HOk.trip (h : HOk x) (c : Int) : HOk (x.trip c) :=
  ⟨h.p, h.st, h.ses, h.live, h.num, h.sent, h.more, h.missed, (trip_n _ _).trans h.vn, h.len, h.byt⟩
theorem HOk.alive (h : HOk x) : HOk x.alive :=
  ⟨h.p, h.st, h.ses, h.live, h.num, h.sent, h.more, ⟨Int.le_refl _, by show (0 : Int) < 4; decide⟩, h.vn, h.len, h.byt⟩
theorem HOk.miss (h : HOk x) (hm : x.missed + 1 < 4) : HOk { x with missed := x.missed + 1 } :=
  ⟨h.p, h.st, h.ses, h.live, h.num, h.sent, h.more, ⟨by have := h.missed; show 0 ≤ x.missed + 1; omega, hm⟩, h.vn, h.len, h.byt⟩
theorem HOk.lost (h : HOk x) : HOk x.lost := by
  have hm := h.missed
  have h2 := h.p.count
  unfold H.lost
  split
  · exact h
  · split
    · rename_i hlt; exact h.miss hlt
    · split
      · exact ⟨h.p, .inl rfl, h.ses, fun e => absurd rfl e, ⟨Int.le_refl _, by show (0 : Int) < 4294967296; decide⟩, ⟨Int.le_refl _, by show (0 : Int) ≤ x.p.count; omega⟩, fun _ => by show (0 : Int) < x.p.count; omega, ⟨Int.le_refl _, by show (0 : Int) < 4; decide⟩, ((run_n _ _).trans (trip_n _ _)).trans h.vn, h.len, h.byt⟩
      · exact ⟨h.p, .inl rfl, h.ses, fun e => absurd rfl e, ⟨Int.le_refl _, by show (0 : Int) < 4294967296; decide⟩, ⟨Int.le_refl _, by show (0 : Int) ≤ x.p.count; omega⟩, fun _ => by show (0 : Int) < x.p.count; omega, ⟨Int.le_refl _, by show (0 : Int) < 4; decide⟩, (run_n _ _).trans h.vn, h.len, h.byt⟩
theorem lost_p (x : H) : x.lost.p = x.p := by unfold H.lost; (repeat' split) <;> rfl
theorem lost_state (h : x.state ≠ 5) : x.lost.state ≠ 5 := by
  unfold H.lost; split
  · exact h
  · split
    · exact h
    · show (1 : Int) ≠ 5; decide
theorem compose_call (hx : HOk x) (h5 : x.state ≠ 5) (hG : Opn G w) (h : HAt G w b d v g o lg k s x) :
    Calls Tryz.prog 96 #[.pointer (some ⟨b, 0, none⟩)] w fun e w' => ∃ f, e = .returned f ∧ KG G w w' ∧ HAt G w' b d v g o lg k s (x.compose (sigB x.p)).1 ∧ Made w w' f (frame (x.compose (sigB x.p)).2) := by
  rcases hx.st with h1 | h1 | h1 | h1 | h1
  · have e : x.compose (sigB x.p) = (x, ⟨1, x.p.code, 0, 0, 0, sigB x.p⟩) := by unfold H.compose; rw [if_pos h1]
    rw [e]
    refine (compose1 hx h1 h).mono ?_
    rintro e w' ⟨f, he, k1, m1⟩
    exact ⟨f, he, .nil k1, h.nil k1, m1⟩
  · have e : x.compose (sigB x.p) = (x, ⟨2, x.p.code, x.ses, 0, 0, sigB x.p⟩) := by unfold H.compose; rw [if_neg (by omega), if_pos h1]
    rw [e]
    refine (compose2 hx h1 h).mono ?_
    rintro e w' ⟨f, he, k1, m1⟩
    exact ⟨f, he, .nil k1, h.nil k1, m1⟩
  · have e : x.compose (sigB x.p) = (x, ⟨3, x.p.code, x.ses, 0, 0, []⟩) := by unfold H.compose; rw [if_neg (by omega), if_neg (by omega), if_pos h1]
    rw [e]
    refine (compose3 hx h1 h).mono ?_
    rintro e w' ⟨f, he, k1, m1⟩
    exact ⟨f, he, .nil k1, h.nil k1, m1⟩
  · have ew : IntKind.u32.wrap (x.sent + 1) = x.sent + 1 := by have h1 := hx.sent; have h2 := hx.p.count; have h3 := hx.more h5; rw [IntKind.wrap_u32]; omega
    by_cases he : x.sent + 1 = x.p.count
    · have e : x.compose (sigB x.p) = ({ x with sent := x.sent + 1, v := (x.v.trip 80).run false, state := 5 }, ⟨5, x.p.code, x.ses, x.sent + 1, 0, []⟩) := by unfold H.compose; rw [if_neg (by omega), if_neg (by omega), if_neg (by omega), ew, if_pos he]
      rw [e]
      exact compose5 hx h1 he hG h
    · have e : x.compose (sigB x.p) = ({ x with sent := x.sent + 1 }, ⟨4, x.p.code, x.ses, x.sent + 1, flagsOf x.v x.hold, x.value⟩) := by unfold H.compose; rw [if_neg (by omega), if_neg (by omega), if_neg (by omega), ew, if_neg he]
      rw [e]
      exact compose4 hx h1 he hG h
  · exact absurd h1 h5
def FrameOf (w w' : World) (f : Value) : Option U → Prop
  | none => f = .slice none 0 0
  | some u => Made w w' f (frame u)
set_option maxRecDepth 100000 in
theorem send_call (hx : HOk x) (hG : Opn G w) (h : HAt G w b d v g o lg k s x) :
    Calls Tryz.prog 66 #[.pointer (some ⟨b, 0, none⟩)] w fun e w' => ∃ f, e = .returned (.tuple #[f, .int .i64 (x.send (sigB x.p)).2.2]) ∧ KG G w w' ∧ HAt G w' b d v g o lg k s (x.send (sigB x.p)).1 ∧ FrameOf w w' f (x.send (sigB x.p)).2.1 := by
  have HH := hid h
  have HX := hid hx
  have HG := hid hG
  have c8 := h.top.cell 8 (v := .int .i64 x.state) rfl
  clear h hx hG
  by_cases h5 : x.state = 5
  · have e : x.send (sigB x.p) = (x, none, 132) := by unfold H.send; rw [if_pos h5]
    rw [e]
    have e1 : (x.state == 5) = true := by simp [h5]
    clear e h5
    go_enter Tryz.func66, Tryz.ntmps66
    go_wp2_with fail
    go_ret2
    exact ⟨_, rfl, .refl, HH.out, rfl⟩
  · have e : x.send (sigB x.p) = ({ (x.lost.compose (sigB x.p)).1 with waits := true }, some (x.lost.compose (sigB x.p)).2, 0) := by unfold H.send; rw [if_neg h5]
    rw [e]
    rcases hy : x.lost.compose (sigB x.p) with ⟨y, u⟩
    have HY := hid hy
    have e1 : (x.state == 5) = false := by simp [h5]
    clear hy
    have H5 := hid h5
    clear e h5
    go_enter Tryz.func66, Tryz.ntmps66
    go_wp2_with fail
    refine (lost_call HX.out.missed.1 HX.out.missed.2 HG.out HH.out).mono ?_
    rintro e w1 ⟨rfl, k1, h1⟩
    have K1 := hid k1
    have H1 := hid h1
    have HG1 := hid (HG.out.kg k1)
    clear k1 h1
    go_wp2_with fail
    have EP := hid (lost_p x)
    have CC := hid (compose_call HX.out.lost (lost_state H5.out) HG1.out H1.out)
    rw [EP.out, HY.out] at CC
    refine CC.out.mono ?_
    rintro e w2 ⟨f, rfl, k2, h2, m2⟩
    have K2 := hid k2
    have H2 := hid h2
    have M2 := hid m2
    clear k2 h2 m2
    have c12 := H2.out.top.cell 12 (v := .bool y.waits) rfl
    have z12 := H2.out.top.free 12
    obtain ⟨p2, n2, rfl⟩ := M2.out.shape
    go_wp2_with fail
    go_ret2
    have q := H2.out.set (y := { y with waits := true }) 12 (.bool true) rfl rfl rfl rfl rfl
    have hne : ∀ i, (Value.slice p2 (frame u).length n2).ownBlock = some i → i ∉ [b] := fun i hi => by
      have h1 := M2.out.2 i hi
      have h2 := H1.out.top.lt
      simp; omega
    have mm := M2.out.kept ((Kept.refl [b] w2).set ⟨b, 12, none⟩ (.bool true) (by simp)) hne
    exact ⟨_, rfl, (K1.out.trans K2.out).set HH.out.gb, q, mm.1, fun i hi => Nat.le_trans K1.out.size (mm.2 i hi)⟩
end HostC
namespace HostC
open Go Go.RowKit Gf SlC CrcW SlM Hp Sl Ow DiagC ValveC DogC Kx TM EncW ParW UnW UEnc NumW UDecW
variable {G : Nat → Prop} {w w' w'' : World} {b d v g o lg k : Nat} {s : Value} {x y : H}
set_option maxRecDepth 100000 in
theorem offered_call (hx : HOk x) (hG : Opn G w) (h : HAt G w b d v g o lg k s x) (u : U) (vd : Value) (hd : Bytes w vd u.data) (hb : By u.data) :
    Calls Tryz.prog 129 #[.pointer (some ⟨b, 0, none⟩), uval u vd] w fun e w' => e = .returned (.int .i64 (x.offered (sigB x.p) u).2) ∧ KG G w w' ∧ HAt G w' b d v g o lg k s (x.offered (sigB x.p) u).1 := by
  have HH := hid h
  have HX := hid hx
  have HG := hid hG
  have HD := hid hd
  have HB := hid hb
  obtain ⟨dp, dc, rfl, hdc⟩ := sl_shape hd
  have q0 := (Kept.refl [] w).alloc (.cells #[.int .i64 u.kind, .int .u32 u.code, .int .u32 u.ses, .int .u32 u.num, .int .i64 u.flags, .slice dp u.data.length dc] 63)
  have U0 := hid (Has.new w 63 [.int .i64 u.kind, .int .u32 u.code, .int .u32 u.ses, .int .u32 u.num, .int .i64 u.flags, .slice dp u.data.length dc])
  have K0 := hid q0
  clear q0
  clear h hx hG hd hb
  unfold uval
  by_cases h1 : u.kind = 17
  case neg =>
    have e : x.offered (sigB x.p) u = (x, 130) := by unfold H.offered; rw [if_pos (.inl h1)]
    rw [e]
    have e1 : (u.kind != 17) = true := by simp [h1]
    clear e h1
    go_enter Tryz.func129, Tryz.ntmps129
    go_wp2_with fail
    have H0 := hid (HH.out.nil K0.out)
    have HG0 := hid (HG.out.kg (KG.nil (G := G) K0.out))
    have D0 := hid (HD.out.kept K0.out (by simp))
    generalize w.alloc (.cells #[.int .i64 u.kind, .int .u32 u.code, .int .u32 u.ses, .int .u32 u.num, .int .i64 u.flags, .slice dp u.data.length dc] 63) = w0 at U0 K0 H0 HG0 D0 ⊢
    generalize w.heap.size = R at U0 ⊢
    have d0 : w0.cell? ⟨R, 0, none⟩ = some (.int .i64 u.kind) := U0.out.cell 0 rfl
    have d2 : w0.cell? ⟨R, 2, none⟩ = some (.int .u32 u.ses) := U0.out.cell 2 rfl
    have d9 : w0.cell? ⟨b, 9, none⟩ = some (.int .u32 x.ses) := H0.out.top.cell 9 rfl
    go_quiet (fail)
    have H1 := hid (H0.out.nil ((Kept.refl [] w0).drewN nq))
    have U1 := hid (U0.out.drewN nq)
    have K1 := hid (KG.nil (G := G) (K0.out.drewN nq))
    have D1 := hid (D0.out.kept ((Kept.refl [] w0).drewN nq) (by simp))
    have HG1 := hid (HG.out.kg K1.out)
    clear d0 d2 d9
    generalize w0.drewN nq = w1 at H1 U1 K1 D1 HG1 ⊢
    have c0 := H1.out.top.cell 0 (v := .int .u32 x.p.code) rfl
    have c1 := H1.out.top.cell 1 (v := .int .i64 x.p.out) rfl
    have c2 := H1.out.top.cell 2 (v := .int .i64 x.p.inn) rfl
    have c3 := H1.out.top.cell 3 (v := .int .i64 x.p.watch) rfl
    have c4 := H1.out.top.cell 4 (v := .int .u32 x.p.count) rfl
    have u5 := U1.out.cell 5 (v := .slice dp u.data.length dc) rfl
    go_wp2_with fail
    go_ret
    exact ⟨rfl, K1.out, H1.out⟩
  have e1 : (u.kind != 17) = false := by simp [h1]
  by_cases h2 : u.ses ≤ x.ses
  · have e : x.offered (sigB x.p) u = (x, 130) := by unfold H.offered; rw [if_pos (.inr h2)]
    rw [e]
    have e2 : decide (u.ses ≤ x.ses) = true := by simp [h2]
    clear e h1 h2
    go_enter Tryz.func129, Tryz.ntmps129
    go_wp2_with fail
    have H0 := hid (HH.out.nil K0.out)
    have HG0 := hid (HG.out.kg (KG.nil (G := G) K0.out))
    have D0 := hid (HD.out.kept K0.out (by simp))
    generalize w.alloc (.cells #[.int .i64 u.kind, .int .u32 u.code, .int .u32 u.ses, .int .u32 u.num, .int .i64 u.flags, .slice dp u.data.length dc] 63) = w0 at U0 K0 H0 HG0 D0 ⊢
    generalize w.heap.size = R at U0 ⊢
    have d0 : w0.cell? ⟨R, 0, none⟩ = some (.int .i64 u.kind) := U0.out.cell 0 rfl
    have d2 : w0.cell? ⟨R, 2, none⟩ = some (.int .u32 u.ses) := U0.out.cell 2 rfl
    have d9 : w0.cell? ⟨b, 9, none⟩ = some (.int .u32 x.ses) := H0.out.top.cell 9 rfl
    go_quiet (fail)
    have H1 := hid (H0.out.nil ((Kept.refl [] w0).drewN nq))
    have U1 := hid (U0.out.drewN nq)
    have K1 := hid (KG.nil (G := G) (K0.out.drewN nq))
    have D1 := hid (D0.out.kept ((Kept.refl [] w0).drewN nq) (by simp))
    have HG1 := hid (HG.out.kg K1.out)
    clear d0 d2 d9
    generalize w0.drewN nq = w1 at H1 U1 K1 D1 HG1 ⊢
    have c0 := H1.out.top.cell 0 (v := .int .u32 x.p.code) rfl
    have c1 := H1.out.top.cell 1 (v := .int .i64 x.p.out) rfl
    have c2 := H1.out.top.cell 2 (v := .int .i64 x.p.inn) rfl
    have c3 := H1.out.top.cell 3 (v := .int .i64 x.p.watch) rfl
    have c4 := H1.out.top.cell 4 (v := .int .u32 x.p.count) rfl
    have u5 := U1.out.cell 5 (v := .slice dp u.data.length dc) rfl
    go_wp2_with fail
    go_ret
    exact ⟨rfl, K1.out, H1.out⟩
  have e2 : decide (u.ses ≤ x.ses) = false := by simp; omega
  by_cases h3 : u.data = sigB x.p
  · have e : x.offered (sigB x.p) u = (({ x with ses := u.ses, state := 2 } : H).alive, 0) := by unfold H.offered; rw [if_neg (by simp [h1]; omega), if_pos h3]
    rw [e]
    have E3 := hid (decide_eq_true h3)
    clear e h1 h2 h3
    go_enter Tryz.func129, Tryz.ntmps129
    go_wp2_with fail
    have H0 := hid (HH.out.nil K0.out)
    have HG0 := hid (HG.out.kg (KG.nil (G := G) K0.out))
    have D0 := hid (HD.out.kept K0.out (by simp))
    generalize w.alloc (.cells #[.int .i64 u.kind, .int .u32 u.code, .int .u32 u.ses, .int .u32 u.num, .int .i64 u.flags, .slice dp u.data.length dc] 63) = w0 at U0 K0 H0 HG0 D0 ⊢
    generalize w.heap.size = R at U0 ⊢
    have d0 : w0.cell? ⟨R, 0, none⟩ = some (.int .i64 u.kind) := U0.out.cell 0 rfl
    have d2 : w0.cell? ⟨R, 2, none⟩ = some (.int .u32 u.ses) := U0.out.cell 2 rfl
    have d9 : w0.cell? ⟨b, 9, none⟩ = some (.int .u32 x.ses) := H0.out.top.cell 9 rfl
    go_quiet (fail)
    have H1 := hid (H0.out.nil ((Kept.refl [] w0).drewN nq))
    have U1 := hid (U0.out.drewN nq)
    have K1 := hid (KG.nil (G := G) (K0.out.drewN nq))
    have D1 := hid (D0.out.kept ((Kept.refl [] w0).drewN nq) (by simp))
    have HG1 := hid (HG.out.kg K1.out)
    clear d0 d2 d9
    generalize w0.drewN nq = w1 at H1 U1 K1 D1 HG1 ⊢
    have c0 := H1.out.top.cell 0 (v := .int .u32 x.p.code) rfl
    have c1 := H1.out.top.cell 1 (v := .int .i64 x.p.out) rfl
    have c2 := H1.out.top.cell 2 (v := .int .i64 x.p.inn) rfl
    have c3 := H1.out.top.cell 3 (v := .int .i64 x.p.watch) rfl
    have c4 := H1.out.top.cell 4 (v := .int .u32 x.p.count) rfl
    have u5 := U1.out.cell 5 (v := .slice dp u.data.length dc) rfl
    go_wp2_with fail
    have SK := hid (show ∀ w', Kept [] w1 w' → (w'.cell? ⟨b, 0, none⟩ = some (.int .u32 x.p.code) ∧ w'.cell? ⟨b, 1, none⟩ = some (.int .i64 x.p.out) ∧ w'.cell? ⟨b, 2, none⟩ = some (.int .i64 x.p.inn) ∧ w'.cell? ⟨b, 3, none⟩ = some (.int .i64 x.p.watch) ∧ w'.cell? ⟨b, 4, none⟩ = some (.int .u32 x.p.count) ∧ w'.cell? ⟨R, 5, none⟩ = some (.slice dp u.data.length dc)) from fun w' q => ⟨(q.has H1.out.top (by simp)).cell 0 rfl, (q.has H1.out.top (by simp)).cell 1 rfl, (q.has H1.out.top (by simp)).cell 2 rfl, (q.has H1.out.top (by simp)).cell 3 rfl, (q.has H1.out.top (by simp)).cell 4 rfl, (q.has U1.out (by simp)).cell 5 rfl⟩)
    have MC := hid (match_call x.p HX.out.p _ u.data _ (D1.out.kept ((Kept.refl [] w1).drew) (by simp)) HB.out)
    rw [E3.out] at MC
    unfold pval at MC
    clear c0 c1 c2 c3 c4 u5
    have dd := SK.out _ ((Kept.refl [] w1).drew)
    go_region_held3 (fun w' => w'.cell? ⟨b, 0, none⟩ = some (.int .u32 x.p.code) ∧ w'.cell? ⟨b, 1, none⟩ = some (.int .i64 x.p.out) ∧ w'.cell? ⟨b, 2, none⟩ = some (.int .i64 x.p.inn) ∧ w'.cell? ⟨b, 3, none⟩ = some (.int .i64 x.p.watch) ∧ w'.cell? ⟨b, 4, none⟩ = some (.int .u32 x.p.count) ∧ w'.cell? ⟨R, 5, none⟩ = some (.slice dp u.data.length dc)) (with_reducible assumption) ((go_at_call 157; with_reducible refine MC.out.mono ?_; rintro e w2 ⟨rfl, k2⟩; have K2 := hid (((Kept.refl [] w1).drew).trans k2); have dd2 := SK.out _ K2.out; clear k2))
    clear dd dd2
    have H2 := hid (H1.out.nil K2.out)
    have U2 := hid (K2.out.has U1.out (by simp))
    have HG2 := hid (HG1.out.kg (KG.nil (G := G) K2.out))
    have c8 := H2.out.top.cell 8 (v := .int .i64 x.state) rfl
    have z8 := H2.out.top.free 8
    have c9 := H2.out.top.cell 9 (v := .int .u32 x.ses) rfl
    have z9 := H2.out.top.free 9
    have u2 := U2.out.cell 2 (v := .int .u32 u.ses) rfl
    go_wp2_with fail
    have H3 := (H2.out.set (y := { x with ses := u.ses }) 9 (.int .u32 u.ses) rfl rfl rfl rfl rfl).set (y := { x with ses := u.ses, state := 2 }) 8 (.int .i64 2) rfl rfl rfl rfl rfl
    have K3 := ((K1.out.trans (.nil K2.out)).set (i := 9) (v := .int .u32 u.ses) H2.out.gb).set (i := 8) (v := .int .i64 2) H2.out.gb
    refine (alive_call (HG.out.kg K3) H3).mono ?_
    rintro e w4 ⟨rfl, k4, h4⟩
    have K4 := hid (K3.trans k4)
    have H4 := hid h4
    clear H3 K3 k4 h4
    go_wp2_with fail
    go_ret
    exact ⟨rfl, K4.out, H4.out⟩
  · have e : x.offered (sigB x.p) u = (x, 91) := by unfold H.offered; rw [if_neg (by simp [h1]; omega), if_neg h3]
    rw [e]
    have E3 := hid (decide_eq_false h3)
    clear e h1 h2 h3
    go_enter Tryz.func129, Tryz.ntmps129
    go_wp2_with fail
    have H0 := hid (HH.out.nil K0.out)
    have HG0 := hid (HG.out.kg (KG.nil (G := G) K0.out))
    have D0 := hid (HD.out.kept K0.out (by simp))
    generalize w.alloc (.cells #[.int .i64 u.kind, .int .u32 u.code, .int .u32 u.ses, .int .u32 u.num, .int .i64 u.flags, .slice dp u.data.length dc] 63) = w0 at U0 K0 H0 HG0 D0 ⊢
    generalize w.heap.size = R at U0 ⊢
    have d0 : w0.cell? ⟨R, 0, none⟩ = some (.int .i64 u.kind) := U0.out.cell 0 rfl
    have d2 : w0.cell? ⟨R, 2, none⟩ = some (.int .u32 u.ses) := U0.out.cell 2 rfl
    have d9 : w0.cell? ⟨b, 9, none⟩ = some (.int .u32 x.ses) := H0.out.top.cell 9 rfl
    go_quiet (fail)
    have H1 := hid (H0.out.nil ((Kept.refl [] w0).drewN nq))
    have U1 := hid (U0.out.drewN nq)
    have K1 := hid (KG.nil (G := G) (K0.out.drewN nq))
    have D1 := hid (D0.out.kept ((Kept.refl [] w0).drewN nq) (by simp))
    have HG1 := hid (HG.out.kg K1.out)
    clear d0 d2 d9
    generalize w0.drewN nq = w1 at H1 U1 K1 D1 HG1 ⊢
    have c0 := H1.out.top.cell 0 (v := .int .u32 x.p.code) rfl
    have c1 := H1.out.top.cell 1 (v := .int .i64 x.p.out) rfl
    have c2 := H1.out.top.cell 2 (v := .int .i64 x.p.inn) rfl
    have c3 := H1.out.top.cell 3 (v := .int .i64 x.p.watch) rfl
    have c4 := H1.out.top.cell 4 (v := .int .u32 x.p.count) rfl
    have u5 := U1.out.cell 5 (v := .slice dp u.data.length dc) rfl
    go_wp2_with fail
    have SK := hid (show ∀ w', Kept [] w1 w' → (w'.cell? ⟨b, 0, none⟩ = some (.int .u32 x.p.code) ∧ w'.cell? ⟨b, 1, none⟩ = some (.int .i64 x.p.out) ∧ w'.cell? ⟨b, 2, none⟩ = some (.int .i64 x.p.inn) ∧ w'.cell? ⟨b, 3, none⟩ = some (.int .i64 x.p.watch) ∧ w'.cell? ⟨b, 4, none⟩ = some (.int .u32 x.p.count) ∧ w'.cell? ⟨R, 5, none⟩ = some (.slice dp u.data.length dc)) from fun w' q => ⟨(q.has H1.out.top (by simp)).cell 0 rfl, (q.has H1.out.top (by simp)).cell 1 rfl, (q.has H1.out.top (by simp)).cell 2 rfl, (q.has H1.out.top (by simp)).cell 3 rfl, (q.has H1.out.top (by simp)).cell 4 rfl, (q.has U1.out (by simp)).cell 5 rfl⟩)
    have MC := hid (match_call x.p HX.out.p _ u.data _ (D1.out.kept ((Kept.refl [] w1).drew) (by simp)) HB.out)
    rw [E3.out] at MC
    unfold pval at MC
    clear c0 c1 c2 c3 c4 u5
    have dd := SK.out _ ((Kept.refl [] w1).drew)
    go_region_held3 (fun w' => w'.cell? ⟨b, 0, none⟩ = some (.int .u32 x.p.code) ∧ w'.cell? ⟨b, 1, none⟩ = some (.int .i64 x.p.out) ∧ w'.cell? ⟨b, 2, none⟩ = some (.int .i64 x.p.inn) ∧ w'.cell? ⟨b, 3, none⟩ = some (.int .i64 x.p.watch) ∧ w'.cell? ⟨b, 4, none⟩ = some (.int .u32 x.p.count) ∧ w'.cell? ⟨R, 5, none⟩ = some (.slice dp u.data.length dc)) (with_reducible assumption) ((go_at_call 157; with_reducible refine MC.out.mono ?_; rintro e w2 ⟨rfl, k2⟩; have K2 := hid (((Kept.refl [] w1).drew).trans k2); have dd2 := SK.out _ K2.out; clear k2))
    clear dd dd2
    go_wp2_with fail
    go_ret
    exact ⟨rfl, K1.out.trans (.nil K2.out), H1.out.nil K2.out⟩
end HostC
namespace HostC
open Go Go.RowKit Gf SlC CrcW SlM Hp Sl Ow DiagC ValveC DogC Kx TM EncW ParW UnW UEnc NumW UDecW
variable {G : Nat → Prop} {w w' w'' : World} {b d v g o lg k : Nat} {s : Value} {x y : H}
theorem fkT {R : Nat} {u : U} {dp : Option Addr} {dc : Nat} (HA : Hid (HAt G w b d v g o lg k s x)) (UA : Hid (Has w R 63 [.int .i64 u.kind, .int .u32 u.code, .int .u32 u.ses, .int .u32 u.num, .int .i64 u.flags, .slice dp u.data.length dc])) : ∀ w', Kept [] w w' → (w'.cell? ⟨b, 8, none⟩ = some (.int .i64 x.state) ∧ w'.cell? ⟨b, 10, none⟩ = some (.int .u32 x.num) ∧ w'.cell? ⟨b, 4, none⟩ = some (.int .u32 x.p.count) ∧ w'.cell? ⟨b, 2, none⟩ = some (.int .i64 x.p.inn) ∧ w'.cell? ⟨R, 0, none⟩ = some (.int .i64 u.kind) ∧ w'.cell? ⟨R, 3, none⟩ = some (.int .u32 u.num) ∧ w'.cell? ⟨R, 4, none⟩ = some (.int .i64 u.flags) ∧ w'.cell? ⟨R, 5, none⟩ = some (.slice dp u.data.length dc) ∧ w'.frozen? ⟨b, 10, none⟩ = false ∧ w'.frozen? ⟨b, 8, none⟩ = false) := fun w' q => ⟨(q.has HA.out.top (by simp)).cell 8 rfl, (q.has HA.out.top (by simp)).cell 10 rfl, (q.has HA.out.top (by simp)).cell 4 rfl, (q.has HA.out.top (by simp)).cell 2 rfl, (q.has UA.out (by simp)).cell 0 rfl, (q.has UA.out (by simp)).cell 3 rfl, (q.has UA.out (by simp)).cell 4 rfl, (q.has UA.out (by simp)).cell 5 rfl, (q.has HA.out.top (by simp)).free 10, (q.has HA.out.top (by simp)).free 8⟩
theorem hold_bit {f : Int} (h0 : 0 ≤ f) (h1 : f ≤ 15) : (bits .and .i64 f 8 != 0) = holdBit f := by
  have : f = 0 ∨ f = 1 ∨ f = 2 ∨ f = 3 ∨ f = 4 ∨ f = 5 ∨ f = 6 ∨ f = 7 ∨ f = 8 ∨ f = 9 ∨ f = 10 ∨ f = 11 ∨ f = 12 ∨ f = 13 ∨ f = 14 ∨ f = 15 := by omega
  rcases this with rfl | rfl | rfl | rfl | rfl | rfl | rfl | rfl | rfl | rfl | rfl | rfl | rfl | rfl | rfl | rfl <;> rfl
set_option maxRecDepth 100000 in
theorem take2n (hx : HOk x) (hG : Opn G w) (h : HAt G w b d v g o lg k s x) (u : U) (hfl : 0 ≤ u.flags ∧ u.flags ≤ 15) (vd : Value) (hd : Bytes w vd u.data) (h1 : x.state = 2) (h2 : u.kind ≠ 18) :
    Calls Tryz.prog 130 #[.pointer (some ⟨b, 0, none⟩), uval u vd] w fun e w' => e = .returned (.int .i64 (130)) ∧ KG G w w' ∧ HAt G w' b d v g o lg k s x := by
  obtain ⟨dp, dc, rfl, hdc⟩ := sl_shape hd
  have HH := hid h
  have HX := hid hx
  have HG := hid hG
  have HD := hid hd
  have FL := hid hfl
  have q0 := (Kept.refl [] w).alloc (.cells #[.int .i64 u.kind, .int .u32 u.code, .int .u32 u.ses, .int .u32 u.num, .int .i64 u.flags, .slice dp u.data.length dc] 63)
  have U0 := hid (Has.new w 63 [.int .i64 u.kind, .int .u32 u.code, .int .u32 u.ses, .int .u32 u.num, .int .i64 u.flags, .slice dp u.data.length dc])
  have K0 := hid q0
  have e0 : (x.state == 2) = true := by (try simp only [h1]); first | rfl | (simp; done) | (simp; omega) | omega
  have e1 : (x.state == 3) = false := by (try simp only [h1]); first | rfl | (simp; done) | (simp; omega) | omega
  have e2 : (x.state == 4) = false := by (try simp only [h1]); first | rfl | (simp; done) | (simp; omega) | omega
  have e3 : (u.kind == 18) = false := by (try simp only [h1]); first | rfl | (simp; done) | (simp; omega) | omega
  have Hh1 := hid h1
  have Hh2 := hid h2
  have hlt := h.top.lt
  have za := h.top.free 8
  have cv := h.top.cell 6 (v := .pointer (some ⟨v, 0, none⟩)) rfl
  have ca := h.top.cell 8 (v := .int .i64 x.state) rfl
  have cb := h.top.cell 10 (v := .int .u32 x.num) rfl
  have cc := h.top.cell 4 (v := .int .u32 x.p.count) rfl
  have cd := h.top.cell 2 (v := .int .i64 x.p.inn) rfl
  clear h hx hG hd hfl q0 h1 h2
  unfold uval
  go_enter Tryz.func130, Tryz.ntmps130
  go_wp2_with fail
  have HW := hid (HH.out.nil K0.out)
  have D0 := hid (HD.out.kept K0.out (by simp))
  generalize w.alloc (.cells #[.int .i64 u.kind, .int .u32 u.code, .int .u32 u.ses, .int .u32 u.num, .int .i64 u.flags, .slice dp u.data.length dc] 63) = w0 at U0 K0 HW D0 ⊢
  generalize w.heap.size = R at U0 ⊢
  have FK := hid (fkT HW U0)
  have k0 := Kept.refl [] w0
  clear ca cb cc cd hlt za cv
  obtain ⟨fa, fb, fc, fd, fe, ff, fg, fh, fi, fj⟩ := FK.out _ k0
  go_quiet (fail)
  have k1 := k0.drewN nq
  clear fa fb fc fd fe ff fg fh fi fj k0
  generalize w0.drewN nq = w1 at k1 ⊢
  obtain ⟨fa, fb, fc, fd, fe, ff, fg, fh, fi, fj⟩ := FK.out _ k1
  go_wp2_with fail
  clear fa fb fc fd fe ff fg fh fi fj
  obtain ⟨fa, fb, fc, fd, fe, ff, fg, fh, fi, fj⟩ := FK.out _ k1
  go_quiet (fail)
  have k2 := k1.drewN nq
  clear fa fb fc fd fe ff fg fh fi fj k1
  generalize w1.drewN nq = w2 at k2 ⊢
  obtain ⟨fa, fb, fc, fd, fe, ff, fg, fh, fi, fj⟩ := FK.out _ k2
  go_wp2_with fail
  clear fa fb fc fd fe ff fg fh fi fj
  have KQ := hid (KG.nil (G := G) (K0.out.trans k2))
  have HQ := hid (HW.out.nil k2)
  have UQ := hid (k2.has U0.out (by simp))
  have DQ := hid (D0.out.kept k2 (by simp))
  have HGQ := hid (HG.out.kg KQ.out)
  clear k2
  generalize w2 = wq at *
  go_ret
  exact ⟨rfl, KQ.out, HQ.out⟩
set_option maxRecDepth 100000 in
theorem take3n (hx : HOk x) (hG : Opn G w) (h : HAt G w b d v g o lg k s x) (u : U) (hfl : 0 ≤ u.flags ∧ u.flags ≤ 15) (vd : Value) (hd : Bytes w vd u.data) (h1 : x.state = 3) (h2 : u.kind ≠ 19) :
    Calls Tryz.prog 130 #[.pointer (some ⟨b, 0, none⟩), uval u vd] w fun e w' => e = .returned (.int .i64 (130)) ∧ KG G w w' ∧ HAt G w' b d v g o lg k s x := by
  obtain ⟨dp, dc, rfl, hdc⟩ := sl_shape hd
  have HH := hid h
  have HX := hid hx
  have HG := hid hG
  have HD := hid hd
  have FL := hid hfl
  have q0 := (Kept.refl [] w).alloc (.cells #[.int .i64 u.kind, .int .u32 u.code, .int .u32 u.ses, .int .u32 u.num, .int .i64 u.flags, .slice dp u.data.length dc] 63)
  have U0 := hid (Has.new w 63 [.int .i64 u.kind, .int .u32 u.code, .int .u32 u.ses, .int .u32 u.num, .int .i64 u.flags, .slice dp u.data.length dc])
  have K0 := hid q0
  have e0 : (x.state == 2) = false := by (try simp only [h1]); first | rfl | (simp; done) | (simp; omega) | omega
  have e1 : (x.state == 3) = true := by (try simp only [h1]); first | rfl | (simp; done) | (simp; omega) | omega
  have e2 : (x.state == 4) = false := by (try simp only [h1]); first | rfl | (simp; done) | (simp; omega) | omega
  have e3 : (u.kind == 19) = false := by (try simp only [h1]); first | rfl | (simp; done) | (simp; omega) | omega
  have Hh1 := hid h1
  have Hh2 := hid h2
  have hlt := h.top.lt
  have za := h.top.free 8
  have cv := h.top.cell 6 (v := .pointer (some ⟨v, 0, none⟩)) rfl
  have ca := h.top.cell 8 (v := .int .i64 x.state) rfl
  have cb := h.top.cell 10 (v := .int .u32 x.num) rfl
  have cc := h.top.cell 4 (v := .int .u32 x.p.count) rfl
  have cd := h.top.cell 2 (v := .int .i64 x.p.inn) rfl
  clear h hx hG hd hfl q0 h1 h2
  unfold uval
  go_enter Tryz.func130, Tryz.ntmps130
  go_wp2_with fail
  have HW := hid (HH.out.nil K0.out)
  have D0 := hid (HD.out.kept K0.out (by simp))
  generalize w.alloc (.cells #[.int .i64 u.kind, .int .u32 u.code, .int .u32 u.ses, .int .u32 u.num, .int .i64 u.flags, .slice dp u.data.length dc] 63) = w0 at U0 K0 HW D0 ⊢
  generalize w.heap.size = R at U0 ⊢
  have FK := hid (fkT HW U0)
  have k0 := Kept.refl [] w0
  clear ca cb cc cd hlt za cv
  obtain ⟨fa, fb, fc, fd, fe, ff, fg, fh, fi, fj⟩ := FK.out _ k0
  go_quiet (fail)
  have k1 := k0.drewN nq
  clear fa fb fc fd fe ff fg fh fi fj k0
  generalize w0.drewN nq = w1 at k1 ⊢
  obtain ⟨fa, fb, fc, fd, fe, ff, fg, fh, fi, fj⟩ := FK.out _ k1
  go_wp2_with fail
  clear fa fb fc fd fe ff fg fh fi fj
  obtain ⟨fa, fb, fc, fd, fe, ff, fg, fh, fi, fj⟩ := FK.out _ k1
  go_quiet (fail)
  have k2 := k1.drewN nq
  clear fa fb fc fd fe ff fg fh fi fj k1
  generalize w1.drewN nq = w2 at k2 ⊢
  obtain ⟨fa, fb, fc, fd, fe, ff, fg, fh, fi, fj⟩ := FK.out _ k2
  go_wp2_with fail
  clear fa fb fc fd fe ff fg fh fi fj
  have KQ := hid (KG.nil (G := G) (K0.out.trans k2))
  have HQ := hid (HW.out.nil k2)
  have UQ := hid (k2.has U0.out (by simp))
  have DQ := hid (D0.out.kept k2 (by simp))
  have HGQ := hid (HG.out.kg KQ.out)
  clear k2
  generalize w2 = wq at *
  go_ret
  exact ⟨rfl, KQ.out, HQ.out⟩
set_option maxRecDepth 100000 in
theorem take4n (hx : HOk x) (hG : Opn G w) (h : HAt G w b d v g o lg k s x) (u : U) (hfl : 0 ≤ u.flags ∧ u.flags ≤ 15) (vd : Value) (hd : Bytes w vd u.data) (h1 : x.state = 4) (h2 : u.kind ≠ 20) (h3 : u.kind ≠ 21) :
    Calls Tryz.prog 130 #[.pointer (some ⟨b, 0, none⟩), uval u vd] w fun e w' => e = .returned (.int .i64 (130)) ∧ KG G w w' ∧ HAt G w' b d v g o lg k s x := by
  obtain ⟨dp, dc, rfl, hdc⟩ := sl_shape hd
  have HH := hid h
  have HX := hid hx
  have HG := hid hG
  have HD := hid hd
  have FL := hid hfl
  have q0 := (Kept.refl [] w).alloc (.cells #[.int .i64 u.kind, .int .u32 u.code, .int .u32 u.ses, .int .u32 u.num, .int .i64 u.flags, .slice dp u.data.length dc] 63)
  have U0 := hid (Has.new w 63 [.int .i64 u.kind, .int .u32 u.code, .int .u32 u.ses, .int .u32 u.num, .int .i64 u.flags, .slice dp u.data.length dc])
  have K0 := hid q0
  have e0 : (x.state == 2) = false := by (try simp only [h1]); first | rfl | (simp; done) | (simp; omega) | omega
  have e1 : (x.state == 3) = false := by (try simp only [h1]); first | rfl | (simp; done) | (simp; omega) | omega
  have e2 : (x.state == 4) = true := by (try simp only [h1]); first | rfl | (simp; done) | (simp; omega) | omega
  have e3 : (u.kind == 20) = false := by (try simp only [h1]); first | rfl | (simp; done) | (simp; omega) | omega
  have e4 : (u.kind == 21) = false := by (try simp only [h1]); first | rfl | (simp; done) | (simp; omega) | omega
  have Hh1 := hid h1
  have Hh2 := hid h2
  have Hh3 := hid h3
  have hlt := h.top.lt
  have za := h.top.free 8
  have cv := h.top.cell 6 (v := .pointer (some ⟨v, 0, none⟩)) rfl
  have ca := h.top.cell 8 (v := .int .i64 x.state) rfl
  have cb := h.top.cell 10 (v := .int .u32 x.num) rfl
  have cc := h.top.cell 4 (v := .int .u32 x.p.count) rfl
  have cd := h.top.cell 2 (v := .int .i64 x.p.inn) rfl
  clear h hx hG hd hfl q0 h1 h2 h3
  unfold uval
  go_enter Tryz.func130, Tryz.ntmps130
  go_wp2_with fail
  have HW := hid (HH.out.nil K0.out)
  have D0 := hid (HD.out.kept K0.out (by simp))
  generalize w.alloc (.cells #[.int .i64 u.kind, .int .u32 u.code, .int .u32 u.ses, .int .u32 u.num, .int .i64 u.flags, .slice dp u.data.length dc] 63) = w0 at U0 K0 HW D0 ⊢
  generalize w.heap.size = R at U0 ⊢
  have FK := hid (fkT HW U0)
  have k0 := Kept.refl [] w0
  clear ca cb cc cd hlt za cv
  obtain ⟨fa, fb, fc, fd, fe, ff, fg, fh, fi, fj⟩ := FK.out _ k0
  go_quiet (fail)
  have k1 := k0.drewN nq
  clear fa fb fc fd fe ff fg fh fi fj k0
  generalize w0.drewN nq = w1 at k1 ⊢
  obtain ⟨fa, fb, fc, fd, fe, ff, fg, fh, fi, fj⟩ := FK.out _ k1
  go_wp2_with fail
  clear fa fb fc fd fe ff fg fh fi fj
  obtain ⟨fa, fb, fc, fd, fe, ff, fg, fh, fi, fj⟩ := FK.out _ k1
  go_quiet (fail)
  have k2 := k1.drewN nq
  clear fa fb fc fd fe ff fg fh fi fj k1
  generalize w1.drewN nq = w2 at k2 ⊢
  obtain ⟨fa, fb, fc, fd, fe, ff, fg, fh, fi, fj⟩ := FK.out _ k2
  go_wp2_with fail
  clear fa fb fc fd fe ff fg fh fi fj
  have KQ := hid (KG.nil (G := G) (K0.out.trans k2))
  have HQ := hid (HW.out.nil k2)
  have UQ := hid (k2.has U0.out (by simp))
  have DQ := hid (D0.out.kept k2 (by simp))
  have HGQ := hid (HG.out.kg KQ.out)
  clear k2
  generalize w2 = wq at *
  go_ret
  exact ⟨rfl, KQ.out, HQ.out⟩
set_option maxRecDepth 100000 in
theorem take4a (hx : HOk x) (hG : Opn G w) (h : HAt G w b d v g o lg k s x) (u : U) (hfl : 0 ≤ u.flags ∧ u.flags ≤ 15) (vd : Value) (hd : Bytes w vd u.data) (h1 : x.state = 4) (h2 : u.kind = 20) (h3 : ¬ u.num > x.num) :
    Calls Tryz.prog 130 #[.pointer (some ⟨b, 0, none⟩), uval u vd] w fun e w' => e = .returned (.int .i64 (130)) ∧ KG G w w' ∧ HAt G w' b d v g o lg k s x := by
  obtain ⟨dp, dc, rfl, hdc⟩ := sl_shape hd
  have HH := hid h
  have HX := hid hx
  have HG := hid hG
  have HD := hid hd
  have FL := hid hfl
  have q0 := (Kept.refl [] w).alloc (.cells #[.int .i64 u.kind, .int .u32 u.code, .int .u32 u.ses, .int .u32 u.num, .int .i64 u.flags, .slice dp u.data.length dc] 63)
  have U0 := hid (Has.new w 63 [.int .i64 u.kind, .int .u32 u.code, .int .u32 u.ses, .int .u32 u.num, .int .i64 u.flags, .slice dp u.data.length dc])
  have K0 := hid q0
  have e0 : (x.state == 2) = false := by (try simp only [h1, h2]); first | rfl | (simp; done) | (simp; omega) | omega
  have e1 : (x.state == 3) = false := by (try simp only [h1, h2]); first | rfl | (simp; done) | (simp; omega) | omega
  have e2 : (x.state == 4) = true := by (try simp only [h1, h2]); first | rfl | (simp; done) | (simp; omega) | omega
  have e3 : (u.kind == 20) = true := by (try simp only [h1, h2]); first | rfl | (simp; done) | (simp; omega) | omega
  have e4 : (u.kind == 21) = false := by (try simp only [h1, h2]); first | rfl | (simp; done) | (simp; omega) | omega
  have e5 : decide (u.num > x.num) = false := by (try simp only [h1, h2]); first | rfl | (simp; done) | (simp; omega) | omega
  have e6 : decide (x.num < u.num) = false := by (try simp only [h1, h2]); first | rfl | (simp; done) | (simp; omega) | omega
  have Hh1 := hid h1
  have Hh2 := hid h2
  have Hh3 := hid h3
  have hlt := h.top.lt
  have za := h.top.free 8
  have cv := h.top.cell 6 (v := .pointer (some ⟨v, 0, none⟩)) rfl
  have ca := h.top.cell 8 (v := .int .i64 x.state) rfl
  have cb := h.top.cell 10 (v := .int .u32 x.num) rfl
  have cc := h.top.cell 4 (v := .int .u32 x.p.count) rfl
  have cd := h.top.cell 2 (v := .int .i64 x.p.inn) rfl
  clear h hx hG hd hfl q0 h1 h2 h3
  unfold uval
  go_enter Tryz.func130, Tryz.ntmps130
  go_wp2_with fail
  have HW := hid (HH.out.nil K0.out)
  have D0 := hid (HD.out.kept K0.out (by simp))
  generalize w.alloc (.cells #[.int .i64 u.kind, .int .u32 u.code, .int .u32 u.ses, .int .u32 u.num, .int .i64 u.flags, .slice dp u.data.length dc] 63) = w0 at U0 K0 HW D0 ⊢
  generalize w.heap.size = R at U0 ⊢
  have FK := hid (fkT HW U0)
  have k0 := Kept.refl [] w0
  clear ca cb cc cd hlt za cv
  obtain ⟨fa, fb, fc, fd, fe, ff, fg, fh, fi, fj⟩ := FK.out _ k0
  go_quiet (fail)
  have k1 := k0.drewN nq
  clear fa fb fc fd fe ff fg fh fi fj k0
  generalize w0.drewN nq = w1 at k1 ⊢
  obtain ⟨fa, fb, fc, fd, fe, ff, fg, fh, fi, fj⟩ := FK.out _ k1
  go_wp2_with fail
  clear fa fb fc fd fe ff fg fh fi fj
  obtain ⟨fa, fb, fc, fd, fe, ff, fg, fh, fi, fj⟩ := FK.out _ k1
  go_quiet (fail)
  have k2 := k1.drewN nq
  clear fa fb fc fd fe ff fg fh fi fj k1
  generalize w1.drewN nq = w2 at k2 ⊢
  obtain ⟨fa, fb, fc, fd, fe, ff, fg, fh, fi, fj⟩ := FK.out _ k2
  go_wp2_with fail
  clear fa fb fc fd fe ff fg fh fi fj
  have KQ := hid (KG.nil (G := G) (K0.out.trans k2))
  have HQ := hid (HW.out.nil k2)
  have UQ := hid (k2.has U0.out (by simp))
  have DQ := hid (D0.out.kept k2 (by simp))
  have HGQ := hid (HG.out.kg KQ.out)
  clear k2
  generalize w2 = wq at *
  go_ret
  exact ⟨rfl, KQ.out, HQ.out⟩
set_option maxRecDepth 100000 in
theorem take4b (hx : HOk x) (hG : Opn G w) (h : HAt G w b d v g o lg k s x) (u : U) (hfl : 0 ≤ u.flags ∧ u.flags ≤ 15) (vd : Value) (hd : Bytes w vd u.data) (h1 : x.state = 4) (h2 : u.kind = 20) (h3 : u.num > x.num) (h4 : ¬ u.num < x.p.count) :
    Calls Tryz.prog 130 #[.pointer (some ⟨b, 0, none⟩), uval u vd] w fun e w' => e = .returned (.int .i64 (130)) ∧ KG G w w' ∧ HAt G w' b d v g o lg k s x := by
  obtain ⟨dp, dc, rfl, hdc⟩ := sl_shape hd
  have HH := hid h
  have HX := hid hx
  have HG := hid hG
  have HD := hid hd
  have FL := hid hfl
  have q0 := (Kept.refl [] w).alloc (.cells #[.int .i64 u.kind, .int .u32 u.code, .int .u32 u.ses, .int .u32 u.num, .int .i64 u.flags, .slice dp u.data.length dc] 63)
  have U0 := hid (Has.new w 63 [.int .i64 u.kind, .int .u32 u.code, .int .u32 u.ses, .int .u32 u.num, .int .i64 u.flags, .slice dp u.data.length dc])
  have K0 := hid q0
  have e0 : (x.state == 2) = false := by (try simp only [h1, h2]); first | rfl | (simp; done) | (simp; omega) | omega
  have e1 : (x.state == 3) = false := by (try simp only [h1, h2]); first | rfl | (simp; done) | (simp; omega) | omega
  have e2 : (x.state == 4) = true := by (try simp only [h1, h2]); first | rfl | (simp; done) | (simp; omega) | omega
  have e3 : (u.kind == 20) = true := by (try simp only [h1, h2]); first | rfl | (simp; done) | (simp; omega) | omega
  have e4 : (u.kind == 21) = false := by (try simp only [h1, h2]); first | rfl | (simp; done) | (simp; omega) | omega
  have e5 : decide (u.num < x.p.count) = false := by (try simp only [h1, h2]); first | rfl | (simp; done) | (simp; omega) | omega
  have e6 : decide (u.num > x.num) = true := by (try simp only [h1, h2]); first | rfl | (simp; done) | (simp; omega) | omega
  have e7 : decide (x.num < u.num) = true := by (try simp only [h1, h2]); first | rfl | (simp; done) | (simp; omega) | omega
  have Hh1 := hid h1
  have Hh2 := hid h2
  have Hh3 := hid h3
  have Hh4 := hid h4
  have hlt := h.top.lt
  have za := h.top.free 8
  have cv := h.top.cell 6 (v := .pointer (some ⟨v, 0, none⟩)) rfl
  have ca := h.top.cell 8 (v := .int .i64 x.state) rfl
  have cb := h.top.cell 10 (v := .int .u32 x.num) rfl
  have cc := h.top.cell 4 (v := .int .u32 x.p.count) rfl
  have cd := h.top.cell 2 (v := .int .i64 x.p.inn) rfl
  clear h hx hG hd hfl q0 h1 h2 h3 h4
  unfold uval
  go_enter Tryz.func130, Tryz.ntmps130
  go_wp2_with fail
  have HW := hid (HH.out.nil K0.out)
  have D0 := hid (HD.out.kept K0.out (by simp))
  generalize w.alloc (.cells #[.int .i64 u.kind, .int .u32 u.code, .int .u32 u.ses, .int .u32 u.num, .int .i64 u.flags, .slice dp u.data.length dc] 63) = w0 at U0 K0 HW D0 ⊢
  generalize w.heap.size = R at U0 ⊢
  have FK := hid (fkT HW U0)
  have k0 := Kept.refl [] w0
  clear ca cb cc cd hlt za cv
  obtain ⟨fa, fb, fc, fd, fe, ff, fg, fh, fi, fj⟩ := FK.out _ k0
  go_quiet (fail)
  have k1 := k0.drewN nq
  clear fa fb fc fd fe ff fg fh fi fj k0
  generalize w0.drewN nq = w1 at k1 ⊢
  obtain ⟨fa, fb, fc, fd, fe, ff, fg, fh, fi, fj⟩ := FK.out _ k1
  go_wp2_with fail
  clear fa fb fc fd fe ff fg fh fi fj
  obtain ⟨fa, fb, fc, fd, fe, ff, fg, fh, fi, fj⟩ := FK.out _ k1
  go_quiet (fail)
  have k2 := k1.drewN nq
  clear fa fb fc fd fe ff fg fh fi fj k1
  generalize w1.drewN nq = w2 at k2 ⊢
  obtain ⟨fa, fb, fc, fd, fe, ff, fg, fh, fi, fj⟩ := FK.out _ k2
  go_wp2_with fail
  clear fa fb fc fd fe ff fg fh fi fj
  have KQ := hid (KG.nil (G := G) (K0.out.trans k2))
  have HQ := hid (HW.out.nil k2)
  have UQ := hid (k2.has U0.out (by simp))
  have DQ := hid (D0.out.kept k2 (by simp))
  have HGQ := hid (HG.out.kg KQ.out)
  clear k2
  generalize w2 = wq at *
  go_ret
  exact ⟨rfl, KQ.out, HQ.out⟩
set_option maxRecDepth 100000 in
theorem take4c (hx : HOk x) (hG : Opn G w) (h : HAt G w b d v g o lg k s x) (u : U) (hfl : 0 ≤ u.flags ∧ u.flags ≤ 15) (vd : Value) (hd : Bytes w vd u.data) (h1 : x.state = 4) (h2 : u.kind = 20) (h3 : u.num > x.num) (h4 : u.num < x.p.count) (h5 : (u.data.length : Int) ≠ x.p.inn) :
    Calls Tryz.prog 130 #[.pointer (some ⟨b, 0, none⟩), uval u vd] w fun e w' => e = .returned (.int .i64 (130)) ∧ KG G w w' ∧ HAt G w' b d v g o lg k s x := by
  obtain ⟨dp, dc, rfl, hdc⟩ := sl_shape hd
  have HH := hid h
  have HX := hid hx
  have HG := hid hG
  have HD := hid hd
  have FL := hid hfl
  have q0 := (Kept.refl [] w).alloc (.cells #[.int .i64 u.kind, .int .u32 u.code, .int .u32 u.ses, .int .u32 u.num, .int .i64 u.flags, .slice dp u.data.length dc] 63)
  have U0 := hid (Has.new w 63 [.int .i64 u.kind, .int .u32 u.code, .int .u32 u.ses, .int .u32 u.num, .int .i64 u.flags, .slice dp u.data.length dc])
  have K0 := hid q0
  have e0 : (x.state == 2) = false := by (try simp only [h1, h2]); first | rfl | (simp; done) | (simp; omega) | omega
  have e1 : (x.state == 3) = false := by (try simp only [h1, h2]); first | rfl | (simp; done) | (simp; omega) | omega
  have e2 : (x.state == 4) = true := by (try simp only [h1, h2]); first | rfl | (simp; done) | (simp; omega) | omega
  have e3 : (u.kind == 20) = true := by (try simp only [h1, h2]); first | rfl | (simp; done) | (simp; omega) | omega
  have e4 : (u.kind == 21) = false := by (try simp only [h1, h2]); first | rfl | (simp; done) | (simp; omega) | omega
  have e5 : decide (u.num < x.p.count) = true := by (try simp only [h1, h2]); first | rfl | (simp; done) | (simp; omega) | omega
  have e6 : ((u.data.length : Int) == x.p.inn) = false := by (try simp only [h1, h2]); first | rfl | (simp; done) | (simp; omega) | omega
  have e7 : decide (u.num > x.num) = true := by (try simp only [h1, h2]); first | rfl | (simp; done) | (simp; omega) | omega
  have e8 : decide (x.num < u.num) = true := by (try simp only [h1, h2]); first | rfl | (simp; done) | (simp; omega) | omega
  have Hh1 := hid h1
  have Hh2 := hid h2
  have Hh3 := hid h3
  have Hh4 := hid h4
  have Hh5 := hid h5
  have hlt := h.top.lt
  have za := h.top.free 8
  have cv := h.top.cell 6 (v := .pointer (some ⟨v, 0, none⟩)) rfl
  have ca := h.top.cell 8 (v := .int .i64 x.state) rfl
  have cb := h.top.cell 10 (v := .int .u32 x.num) rfl
  have cc := h.top.cell 4 (v := .int .u32 x.p.count) rfl
  have cd := h.top.cell 2 (v := .int .i64 x.p.inn) rfl
  clear h hx hG hd hfl q0 h1 h2 h3 h4 h5
  unfold uval
  go_enter Tryz.func130, Tryz.ntmps130
  go_wp2_with fail
  have HW := hid (HH.out.nil K0.out)
  have D0 := hid (HD.out.kept K0.out (by simp))
  generalize w.alloc (.cells #[.int .i64 u.kind, .int .u32 u.code, .int .u32 u.ses, .int .u32 u.num, .int .i64 u.flags, .slice dp u.data.length dc] 63) = w0 at U0 K0 HW D0 ⊢
  generalize w.heap.size = R at U0 ⊢
  have FK := hid (fkT HW U0)
  have k0 := Kept.refl [] w0
  clear ca cb cc cd hlt za cv
  obtain ⟨fa, fb, fc, fd, fe, ff, fg, fh, fi, fj⟩ := FK.out _ k0
  go_quiet (fail)
  have k1 := k0.drewN nq
  clear fa fb fc fd fe ff fg fh fi fj k0
  generalize w0.drewN nq = w1 at k1 ⊢
  obtain ⟨fa, fb, fc, fd, fe, ff, fg, fh, fi, fj⟩ := FK.out _ k1
  go_wp2_with fail
  clear fa fb fc fd fe ff fg fh fi fj
  obtain ⟨fa, fb, fc, fd, fe, ff, fg, fh, fi, fj⟩ := FK.out _ k1
  go_quiet (fail)
  have k2 := k1.drewN nq
  clear fa fb fc fd fe ff fg fh fi fj k1
  generalize w1.drewN nq = w2 at k2 ⊢
  obtain ⟨fa, fb, fc, fd, fe, ff, fg, fh, fi, fj⟩ := FK.out _ k2
  go_wp2_with fail
  clear fa fb fc fd fe ff fg fh fi fj
  have KQ := hid (KG.nil (G := G) (K0.out.trans k2))
  have HQ := hid (HW.out.nil k2)
  have UQ := hid (k2.has U0.out (by simp))
  have DQ := hid (D0.out.kept k2 (by simp))
  have HGQ := hid (HG.out.kg KQ.out)
  clear k2
  generalize w2 = wq at *
  go_ret
  exact ⟨rfl, KQ.out, HQ.out⟩
set_option maxRecDepth 100000 in
theorem take5a (hx : HOk x) (hG : Opn G w) (h : HAt G w b d v g o lg k s x) (u : U) (hfl : 0 ≤ u.flags ∧ u.flags ≤ 15) (vd : Value) (hd : Bytes w vd u.data) (h1 : x.state = 4) (h2 : u.kind = 21) (h3 : ¬ u.num > x.num) :
    Calls Tryz.prog 130 #[.pointer (some ⟨b, 0, none⟩), uval u vd] w fun e w' => e = .returned (.int .i64 (130)) ∧ KG G w w' ∧ HAt G w' b d v g o lg k s x := by
  obtain ⟨dp, dc, rfl, hdc⟩ := sl_shape hd
  have HH := hid h
  have HX := hid hx
  have HG := hid hG
  have HD := hid hd
  have FL := hid hfl
  have q0 := (Kept.refl [] w).alloc (.cells #[.int .i64 u.kind, .int .u32 u.code, .int .u32 u.ses, .int .u32 u.num, .int .i64 u.flags, .slice dp u.data.length dc] 63)
  have U0 := hid (Has.new w 63 [.int .i64 u.kind, .int .u32 u.code, .int .u32 u.ses, .int .u32 u.num, .int .i64 u.flags, .slice dp u.data.length dc])
  have K0 := hid q0
  have e0 : (x.state == 2) = false := by (try simp only [h1, h2]); first | rfl | (simp; done) | (simp; omega) | omega
  have e1 : (x.state == 3) = false := by (try simp only [h1, h2]); first | rfl | (simp; done) | (simp; omega) | omega
  have e2 : (x.state == 4) = true := by (try simp only [h1, h2]); first | rfl | (simp; done) | (simp; omega) | omega
  have e3 : (u.kind == 20) = false := by (try simp only [h1, h2]); first | rfl | (simp; done) | (simp; omega) | omega
  have e4 : (u.kind == 21) = true := by (try simp only [h1, h2]); first | rfl | (simp; done) | (simp; omega) | omega
  have e5 : decide (u.num > x.num) = false := by (try simp only [h1, h2]); first | rfl | (simp; done) | (simp; omega) | omega
  have e6 : decide (x.num < u.num) = false := by (try simp only [h1, h2]); first | rfl | (simp; done) | (simp; omega) | omega
  have Hh1 := hid h1
  have Hh2 := hid h2
  have Hh3 := hid h3
  have hlt := h.top.lt
  have za := h.top.free 8
  have cv := h.top.cell 6 (v := .pointer (some ⟨v, 0, none⟩)) rfl
  have ca := h.top.cell 8 (v := .int .i64 x.state) rfl
  have cb := h.top.cell 10 (v := .int .u32 x.num) rfl
  have cc := h.top.cell 4 (v := .int .u32 x.p.count) rfl
  have cd := h.top.cell 2 (v := .int .i64 x.p.inn) rfl
  clear h hx hG hd hfl q0 h1 h2 h3
  unfold uval
  go_enter Tryz.func130, Tryz.ntmps130
  go_wp2_with fail
  have HW := hid (HH.out.nil K0.out)
  have D0 := hid (HD.out.kept K0.out (by simp))
  generalize w.alloc (.cells #[.int .i64 u.kind, .int .u32 u.code, .int .u32 u.ses, .int .u32 u.num, .int .i64 u.flags, .slice dp u.data.length dc] 63) = w0 at U0 K0 HW D0 ⊢
  generalize w.heap.size = R at U0 ⊢
  have FK := hid (fkT HW U0)
  have k0 := Kept.refl [] w0
  clear ca cb cc cd hlt za cv
  obtain ⟨fa, fb, fc, fd, fe, ff, fg, fh, fi, fj⟩ := FK.out _ k0
  go_quiet (fail)
  have k1 := k0.drewN nq
  clear fa fb fc fd fe ff fg fh fi fj k0
  generalize w0.drewN nq = w1 at k1 ⊢
  obtain ⟨fa, fb, fc, fd, fe, ff, fg, fh, fi, fj⟩ := FK.out _ k1
  go_wp2_with fail
  clear fa fb fc fd fe ff fg fh fi fj
  obtain ⟨fa, fb, fc, fd, fe, ff, fg, fh, fi, fj⟩ := FK.out _ k1
  go_quiet (fail)
  have k2 := k1.drewN nq
  clear fa fb fc fd fe ff fg fh fi fj k1
  generalize w1.drewN nq = w2 at k2 ⊢
  obtain ⟨fa, fb, fc, fd, fe, ff, fg, fh, fi, fj⟩ := FK.out _ k2
  go_wp2_with fail
  clear fa fb fc fd fe ff fg fh fi fj
  have KQ := hid (KG.nil (G := G) (K0.out.trans k2))
  have HQ := hid (HW.out.nil k2)
  have UQ := hid (k2.has U0.out (by simp))
  have DQ := hid (D0.out.kept k2 (by simp))
  have HGQ := hid (HG.out.kg KQ.out)
  clear k2
  generalize w2 = wq at *
  go_ret
  exact ⟨rfl, KQ.out, HQ.out⟩
set_option maxRecDepth 100000 in
theorem take5b (hx : HOk x) (hG : Opn G w) (h : HAt G w b d v g o lg k s x) (u : U) (hfl : 0 ≤ u.flags ∧ u.flags ≤ 15) (vd : Value) (hd : Bytes w vd u.data) (h1 : x.state = 4) (h2 : u.kind = 21) (h3 : u.num > x.num) (h4 : u.num ≠ x.p.count) :
    Calls Tryz.prog 130 #[.pointer (some ⟨b, 0, none⟩), uval u vd] w fun e w' => e = .returned (.int .i64 (130)) ∧ KG G w w' ∧ HAt G w' b d v g o lg k s x := by
  obtain ⟨dp, dc, rfl, hdc⟩ := sl_shape hd
  have HH := hid h
  have HX := hid hx
  have HG := hid hG
  have HD := hid hd
  have FL := hid hfl
  have q0 := (Kept.refl [] w).alloc (.cells #[.int .i64 u.kind, .int .u32 u.code, .int .u32 u.ses, .int .u32 u.num, .int .i64 u.flags, .slice dp u.data.length dc] 63)
  have U0 := hid (Has.new w 63 [.int .i64 u.kind, .int .u32 u.code, .int .u32 u.ses, .int .u32 u.num, .int .i64 u.flags, .slice dp u.data.length dc])
  have K0 := hid q0
  have e0 : (x.state == 2) = false := by (try simp only [h1, h2]); first | rfl | (simp; done) | (simp; omega) | omega
  have e1 : (x.state == 3) = false := by (try simp only [h1, h2]); first | rfl | (simp; done) | (simp; omega) | omega
  have e2 : (x.state == 4) = true := by (try simp only [h1, h2]); first | rfl | (simp; done) | (simp; omega) | omega
  have e3 : (u.kind == 20) = false := by (try simp only [h1, h2]); first | rfl | (simp; done) | (simp; omega) | omega
  have e4 : (u.kind == 21) = true := by (try simp only [h1, h2]); first | rfl | (simp; done) | (simp; omega) | omega
  have e5 : (u.num == x.p.count) = false := by (try simp only [h1, h2]); first | rfl | (simp; done) | (simp; omega) | omega
  have e6 : decide (u.num > x.num) = true := by (try simp only [h1, h2]); first | rfl | (simp; done) | (simp; omega) | omega
  have e7 : decide (x.num < u.num) = true := by (try simp only [h1, h2]); first | rfl | (simp; done) | (simp; omega) | omega
  have Hh1 := hid h1
  have Hh2 := hid h2
  have Hh3 := hid h3
  have Hh4 := hid h4
  have hlt := h.top.lt
  have za := h.top.free 8
  have cv := h.top.cell 6 (v := .pointer (some ⟨v, 0, none⟩)) rfl
  have ca := h.top.cell 8 (v := .int .i64 x.state) rfl
  have cb := h.top.cell 10 (v := .int .u32 x.num) rfl
  have cc := h.top.cell 4 (v := .int .u32 x.p.count) rfl
  have cd := h.top.cell 2 (v := .int .i64 x.p.inn) rfl
  clear h hx hG hd hfl q0 h1 h2 h3 h4
  unfold uval
  go_enter Tryz.func130, Tryz.ntmps130
  go_wp2_with fail
  have HW := hid (HH.out.nil K0.out)
  have D0 := hid (HD.out.kept K0.out (by simp))
  generalize w.alloc (.cells #[.int .i64 u.kind, .int .u32 u.code, .int .u32 u.ses, .int .u32 u.num, .int .i64 u.flags, .slice dp u.data.length dc] 63) = w0 at U0 K0 HW D0 ⊢
  generalize w.heap.size = R at U0 ⊢
  have FK := hid (fkT HW U0)
  have k0 := Kept.refl [] w0
  clear ca cb cc cd hlt za cv
  obtain ⟨fa, fb, fc, fd, fe, ff, fg, fh, fi, fj⟩ := FK.out _ k0
  go_quiet (fail)
  have k1 := k0.drewN nq
  clear fa fb fc fd fe ff fg fh fi fj k0
  generalize w0.drewN nq = w1 at k1 ⊢
  obtain ⟨fa, fb, fc, fd, fe, ff, fg, fh, fi, fj⟩ := FK.out _ k1
  go_wp2_with fail
  clear fa fb fc fd fe ff fg fh fi fj
  obtain ⟨fa, fb, fc, fd, fe, ff, fg, fh, fi, fj⟩ := FK.out _ k1
  go_quiet (fail)
  have k2 := k1.drewN nq
  clear fa fb fc fd fe ff fg fh fi fj k1
  generalize w1.drewN nq = w2 at k2 ⊢
  obtain ⟨fa, fb, fc, fd, fe, ff, fg, fh, fi, fj⟩ := FK.out _ k2
  go_wp2_with fail
  clear fa fb fc fd fe ff fg fh fi fj
  have KQ := hid (KG.nil (G := G) (K0.out.trans k2))
  have HQ := hid (HW.out.nil k2)
  have UQ := hid (k2.has U0.out (by simp))
  have DQ := hid (D0.out.kept k2 (by simp))
  have HGQ := hid (HG.out.kg KQ.out)
  clear k2
  generalize w2 = wq at *
  go_ret
  exact ⟨rfl, KQ.out, HQ.out⟩
end HostC
end Go.Proofs.YtinaliblnihpbaaGreat
