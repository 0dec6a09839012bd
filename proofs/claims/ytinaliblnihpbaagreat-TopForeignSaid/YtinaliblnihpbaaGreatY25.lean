/- The walks and the plain laws of RfG, PlD, TopK, S17b. -/
import Derived.Test.YtinaliblnihpbaaGreatY24
import Derived.Test.YtinaliblnihpbaaGreatY02
set_option linter.unusedVariables false
set_option linter.unusedSimpArgs false
open Go.Lib (hid)
namespace Go.Proofs.YtinaliblnihpbaaGreat
namespace RfC
open Go Go.RowKit Hp Sl Gf DogC SlC Ap CrcW TM SlM EncW UnW UEnc NumW UDecW
set_option maxRecDepth 100000 in
set_option maxHeartbeats 6400000 in
theorem decode_ref (u : U) (hr : URange u) (hl : Law u) (v : Value) (w : World) (hs : Bytes w v (frame u)) :
    Calls Tryz.prog 22 #[v] w fun e w' => ∃ v', e = .returned (.tuple #[uval u v', .int .i64 0]) ∧ Kept [] w w' ∧ Made w w' v' u.data := by
  obtain ⟨sp, sc, rfl, hsc⟩ := sl_shape hs
  have hlen := frame_len u
  have h8 := hr.len
  have e1 : decide (((frame u).length : Int) < 19) = false := by simp; omega
  have e2 : decide (((frame u).length : Int) > 27) = false := by simp; omega
  have k0 := (Kept.refl [] w).alloc (.cells #[.int .i64 0, .int .u32 0, .int .u32 0, .int .u32 0, .int .i64 0, .slice none 0 0] 63)
  have h0 := Has.new w 63 [.int .i64 0, .int .u32 0, .int .u32 0, .int .u32 0, .int .i64 0, .slice none 0 0]
  obtain ⟨b, off, x1, x2, x3, x4, x5, x6, x7, x8, x9, x10, x11, x12, rfl, hbl, hml, hf⟩ := frame_at hr hs
  have hf0 := hid (FrameAt.kept hf k0 hbl)
  have VC := hid (valid_ref b off (frame u).length sc (body u) _ (hs.kept k0 (by simp)) (by rw [hlen, body_len]; omega) (body_by hr.data) (by rw [body_len]; omega))
  have HBL := hid (show b < (w.alloc (.cells #[.int .i64 0, .int .u32 0, .int .u32 0, .int .u32 0, .int .i64 0, .slice none 0 0] 63)).heap.size by simp; omega)
  have K0 := hid k0
  have H0 := hid h0
  have LW := hid hl
  have RG := hid hr
  obtain ⟨n, hn⟩ : ∃ n, (frame u).length = n := ⟨_, rfl⟩
  rw [hn] at e1 e2 hlen hsc VC
  have HLn := hid hlen
  have esub : wrap64 ((n : Int) - 4) = ((15 + u.data.length : Nat) : Int) := by rw [wrap64_id (by omega) (by omega)]; omega
  have hin : 15 + u.data.length ≤ n := by omega
  have hn19 : 19 ≤ n := by omega
  clear hs hl hr k0 h0 hf hbl h8 hlen
  go_enter Tryz.func22, Tryz.ntmps22
  rw [hn]
  go_wp2_with fail
  refine VC.out.mono ?_
  rintro e w0 ⟨rfl, kv⟩
  have hf0 := hid (FrameAt.kept hf0.out kv HBL.out)
  have HBL := hid (Nat.lt_of_lt_of_le HBL.out kv.size)
  have K0 := hid (K0.out.trans kv)
  have H0 := hid (kv.has H0.out (by simp))
  clear kv
  clear VC
  go_upto_region 7 with (fail)
  generalize hR0 : w.heap.size = R0 at *
  have RH := hid (Nat.le_of_eq hR0)
  clear hR0
  have b1 : (1 : Int) ≤ (n : Int) := by omega
  have b5 : (5 : Int) ≤ (n : Int) := by omega
  have b9 : (9 : Int) ≤ (n : Int) := by omega
  have b13 : (13 : Int) < (n : Int) := by omega
  have b0 : 0 < n := by omega
  have bn : (n : Int) ≤ (sc : Int) := by omega
  have d5 : (5 : Int) ≤ (sc : Int) := by omega
  have d9 : (9 : Int) ≤ (sc : Int) := by omega
  have d13 : (13 : Int) ≤ (sc : Int) := by omega
  have c1 : ¬ (sc = 1) := by omega
  have c5 : ¬ (sc = 5) := by omega
  have c9 : ¬ (sc = 9) := by omega
  have wk : IntKind.i64.wrap u.kind = u.kind := i64_id (by have := RG.out.kind; omega) (by have := RG.out.kind; omega)
  have wf : IntKind.i64.wrap u.flags = u.flags := i64_id (by have := RG.out.flags; omega) (by have := RG.out.flags; omega)
  have FK := hid (fun w' (k : Kept [] w0 w') => FrameAt.kept hf0.out k HBL.out)
  have fd := FK.out _ ((Kept.refl [] w0).drew)
  have dd := And.intro fd.k fd.f
  have dd0 : w0.cell? ⟨b, off, none⟩ = some (.int .u8 u.kind) ∧ w0.cell? ⟨b, off + 13, none⟩ = some (.int .u8 u.flags) := dd
  clear fd
  set_option maxHeartbeats 20000000 in
  go_region_held3 (fun w' => w'.cell? ⟨b, off, none⟩ = some (.int .u8 u.kind) ∧ w'.cell? ⟨b, off + 13, none⟩ = some (.int .u8 u.flags)) (first | with_reducible assumption | with_reducible exact keep6 dw6 HN.out | with_reducible exact keepA dw6 | with_reducible exact keepA dw5 | with_reducible exact keepA dw4 | with_reducible exact keepAD dd0 | with_reducible exact keep6 (keepA dw6) (by have := HBL.out; have := k6.size; omega) | go_keep)
    (first
      | (go_at_call 49; with_reducible refine (rword_call b (off + 9) 4 (sc - 9) x9 x10 x11 x12 (by omega) (by omega) _ (FK.out _ (k5)).num).mono ?_; rintro e w6 ⟨rfl, k6'⟩; have k6 := (k5).trans k6'; have fw6 := FK.out _ k6; have dw6 := And.intro fw6.k fw6.f; clear fw6; (try have hR := hid (k6'.has hR.out (by simp))); (try have cz := And.intro (hR.out.cell 0 rfl) (And.intro (hR.out.cell 1 rfl) (And.intro (hR.out.cell 2 rfl) (And.intro (hR.out.cell 3 rfl) (And.intro (hR.out.cell 4 rfl) (hR.out.cell 5 rfl)))))); (try have fz := And.intro (hR.out.free 0) (And.intro (hR.out.free 1) (And.intro (hR.out.free 2) (And.intro (hR.out.free 3) (And.intro (hR.out.free 4) (hR.out.free 5)))))); clear k6')
      | (go_at_call 49; with_reducible refine (rword_call b (off + 5) 4 (sc - 5) x5 x6 x7 x8 (by omega) (by omega) _ (FK.out _ (k4)).ses).mono ?_; rintro e w5 ⟨rfl, k5'⟩; have k5 := (k4).trans k5'; have fw5 := FK.out _ k5; have dw5 := And.intro fw5.k fw5.f; clear fw5; (try have hR := hid (k5'.has hR.out (by simp))); clear k5')
      | (go_at_call 49; with_reducible refine (rword_call b (off + 1) 4 (sc - 1) x1 x2 x3 x4 (by omega) (by omega) _ (FK.out _ ((Kept.refl [] w0).drew)).code).mono ?_; rintro e w4 ⟨rfl, k4'⟩; have k4 := ((Kept.refl [] w0).drew).trans k4'; have fw4 := FK.out _ k4; have dw4 := And.intro fw4.k fw4.f; clear fw4; (try have hR := hid (k4'.has hR.out (by simp))); clear k4')
      | (go_at_call 49; with_reducible refine (rword_call b (off + 9) 4 (sc - 9) x9 x10 x11 x12 (by omega) (by omega) _ (FK.out _ ((k5).alloc _)).num).mono ?_; rintro e w6 ⟨rfl, k6'⟩; have k6 := ((k5).alloc _).trans k6'; have fw6 := FK.out _ k6; have dw6 := And.intro fw6.k fw6.f; clear fw6; have HN := hid (show b ≠ w5.heap.size by have := HBL.out; have := k5.size; omega); have hR := Has.new w5 63 [.int .i64 0, .int .u32 0, .int .u32 0, .int .u32 0, .int .i64 0, .slice none 0 0]; have hR := k6'.has hR (by simp); have hR := hid hR; (try have cz := And.intro (hR.out.cell 0 rfl) (And.intro (hR.out.cell 1 rfl) (And.intro (hR.out.cell 2 rfl) (And.intro (hR.out.cell 3 rfl) (And.intro (hR.out.cell 4 rfl) (hR.out.cell 5 rfl)))))); (try have fz := And.intro (hR.out.free 0) (And.intro (hR.out.free 1) (And.intro (hR.out.free 2) (And.intro (hR.out.free 3) (And.intro (hR.out.free 4) (hR.out.free 5)))))); clear k6')
      | (go_at_call 49; with_reducible refine (rword_call b (off + 5) 4 (sc - 5) x5 x6 x7 x8 (by omega) (by omega) _ (FK.out _ ((k4).alloc _)).ses).mono ?_; rintro e w5 ⟨rfl, k5'⟩; have k5 := ((k4).alloc _).trans k5'; have fw5 := FK.out _ k5; have dw5 := And.intro fw5.k fw5.f; clear fw5; have HN := hid (show b ≠ w4.heap.size by have := HBL.out; have := k4.size; omega); have hR := Has.new w4 63 [.int .i64 0, .int .u32 0, .int .u32 0, .int .u32 0, .int .i64 0, .slice none 0 0]; have hR := k5'.has hR (by simp); have hR := hid hR; clear k5')
      | (go_at_call 49; with_reducible refine (rword_call b (off + 1) 4 (sc - 1) x1 x2 x3 x4 (by omega) (by omega) _ (FK.out _ (((Kept.refl [] w0).alloc _).drew)).code).mono ?_; rintro e w4 ⟨rfl, k4'⟩; have k4 := (((Kept.refl [] w0).alloc _).drew).trans k4'; have fw4 := FK.out _ k4; have dw4 := And.intro fw4.k fw4.f; clear fw4; have HN := hid (show b ≠ w0.heap.size by have := HBL.out; omega); have hR := (Has.new w0 63 [.int .i64 0, .int .u32 0, .int .u32 0, .int .u32 0, .int .i64 0, .slice none 0 0]).drew; have hR := k4'.has hR (by simp); have hR := hid hR; clear k4'))
  have hU := hid (show Has (w6.alloc (.cells #[.int .i64 u.kind, .int .u32 ((num4 x1 x2 x3 x4 : Nat) : Int), .int .u32 ((num4 x5 x6 x7 x8 : Nat) : Int), .int .u32 ((num4 x9 x10 x11 x12 : Nat) : Int), .int .i64 u.flags, .slice none 0 0] 63)) w6.heap.size 63 [.int .i64 u.kind, .int .u32 ((num4 x1 x2 x3 x4 : Nat) : Int), .int .u32 ((num4 x5 x6 x7 x8 : Nat) : Int), .int .u32 ((num4 x9 x10 x11 x12 : Nat) : Int), .int .i64 u.flags, .slice none 0 0] from Has.new w6 63 [.int .i64 u.kind, .int .u32 ((num4 x1 x2 x3 x4 : Nat) : Int), .int .u32 ((num4 x5 x6 x7 x8 : Nat) : Int), .int .u32 ((num4 x9 x10 x11 x12 : Nat) : Int), .int .i64 u.flags, .slice none 0 0])
  have KU := hid (k6.alloc (.cells #[.int .i64 u.kind, .int .u32 ((num4 x1 x2 x3 x4 : Nat) : Int), .int .u32 ((num4 x5 x6 x7 x8 : Nat) : Int), .int .u32 ((num4 x9 x10 x11 x12 : Nat) : Int), .int .i64 u.flags, .slice none 0 0] 63))
  have RU := hid (show w0.heap.size ≤ w6.heap.size from k6.size)
  generalize w6.alloc (.cells #[.int .i64 u.kind, .int .u32 ((num4 x1 x2 x3 x4 : Nat) : Int), .int .u32 ((num4 x5 x6 x7 x8 : Nat) : Int), .int .u32 ((num4 x9 x10 x11 x12 : Nat) : Int), .int .i64 u.flags, .slice none 0 0] 63) = wz at hU KU ⊢
  generalize w6.heap.size = R1 at hU RU ⊢
  rotate_left 1
  have hU := hid (has6 (v0 := .int .i64 u.kind) (v1 := .int .u32 ((num4 x1 x2 x3 x4 : Nat) : Int)) (v2 := .int .u32 ((num4 x5 x6 x7 x8 : Nat) : Int)) (v3 := .int .u32 ((num4 x9 x10 x11 x12 : Nat) : Int)) (v4 := .int .i64 u.flags) (v5 := .slice none 0 0) hR.out)
  have KU := hid (kept6 (v0 := .int .i64 u.kind) (v1 := .int .u32 ((num4 x1 x2 x3 x4 : Nat) : Int)) (v2 := .int .u32 ((num4 x5 x6 x7 x8 : Nat) : Int)) (v3 := .int .u32 ((num4 x9 x10 x11 x12 : Nat) : Int)) (v4 := .int .i64 u.flags) (v5 := .slice none 0 0) k6 (k5.size))
  have RU := hid (show w0.heap.size ≤ w5.heap.size from k5.size)
  generalize ((((((w6.setCell ⟨w5.heap.size, 0, none⟩ (.int .i64 u.kind)).setCell ⟨w5.heap.size, 1, none⟩ (.int .u32 ((num4 x1 x2 x3 x4 : Nat) : Int))).setCell ⟨w5.heap.size, 2, none⟩ (.int .u32 ((num4 x5 x6 x7 x8 : Nat) : Int))).setCell ⟨w5.heap.size, 3, none⟩ (.int .u32 ((num4 x9 x10 x11 x12 : Nat) : Int))).setCell ⟨w5.heap.size, 4, none⟩ (.int .i64 u.flags)).setCell ⟨w5.heap.size, 5, none⟩ (.slice none 0 0)) = wz at hU KU ⊢
  generalize w5.heap.size = R1 at hU RU ⊢
  rotate_left 1
  have hU := hid (has6 (v0 := .int .i64 u.kind) (v1 := .int .u32 ((num4 x1 x2 x3 x4 : Nat) : Int)) (v2 := .int .u32 ((num4 x5 x6 x7 x8 : Nat) : Int)) (v3 := .int .u32 ((num4 x9 x10 x11 x12 : Nat) : Int)) (v4 := .int .i64 u.flags) (v5 := .slice none 0 0) hR.out)
  have KU := hid (kept6 (v0 := .int .i64 u.kind) (v1 := .int .u32 ((num4 x1 x2 x3 x4 : Nat) : Int)) (v2 := .int .u32 ((num4 x5 x6 x7 x8 : Nat) : Int)) (v3 := .int .u32 ((num4 x9 x10 x11 x12 : Nat) : Int)) (v4 := .int .i64 u.flags) (v5 := .slice none 0 0) k6 (k4.size))
  have RU := hid (show w0.heap.size ≤ w4.heap.size from k4.size)
  generalize ((((((w6.setCell ⟨w4.heap.size, 0, none⟩ (.int .i64 u.kind)).setCell ⟨w4.heap.size, 1, none⟩ (.int .u32 ((num4 x1 x2 x3 x4 : Nat) : Int))).setCell ⟨w4.heap.size, 2, none⟩ (.int .u32 ((num4 x5 x6 x7 x8 : Nat) : Int))).setCell ⟨w4.heap.size, 3, none⟩ (.int .u32 ((num4 x9 x10 x11 x12 : Nat) : Int))).setCell ⟨w4.heap.size, 4, none⟩ (.int .i64 u.flags)).setCell ⟨w4.heap.size, 5, none⟩ (.slice none 0 0)) = wz at hU KU ⊢
  generalize w4.heap.size = R1 at hU RU ⊢
  rotate_left 1
  have hU := hid (has6 (v0 := .int .i64 u.kind) (v1 := .int .u32 ((num4 x1 x2 x3 x4 : Nat) : Int)) (v2 := .int .u32 ((num4 x5 x6 x7 x8 : Nat) : Int)) (v3 := .int .u32 ((num4 x9 x10 x11 x12 : Nat) : Int)) (v4 := .int .i64 u.flags) (v5 := .slice none 0 0) hR.out)
  have KU := hid (kept6 (v0 := .int .i64 u.kind) (v1 := .int .u32 ((num4 x1 x2 x3 x4 : Nat) : Int)) (v2 := .int .u32 ((num4 x5 x6 x7 x8 : Nat) : Int)) (v3 := .int .u32 ((num4 x9 x10 x11 x12 : Nat) : Int)) (v4 := .int .i64 u.flags) (v5 := .slice none 0 0) k6 (Nat.le_refl _))
  generalize ((((((w6.setCell ⟨w0.heap.size, 0, none⟩ (.int .i64 u.kind)).setCell ⟨w0.heap.size, 1, none⟩ (.int .u32 ((num4 x1 x2 x3 x4 : Nat) : Int))).setCell ⟨w0.heap.size, 2, none⟩ (.int .u32 ((num4 x5 x6 x7 x8 : Nat) : Int))).setCell ⟨w0.heap.size, 3, none⟩ (.int .u32 ((num4 x9 x10 x11 x12 : Nat) : Int))).setCell ⟨w0.heap.size, 4, none⟩ (.int .i64 u.flags)).setCell ⟨w0.heap.size, 5, none⟩ (.slice none 0 0)) = wz at hU KU ⊢
  generalize hR1 : w0.heap.size = R1 at hU ⊢
  have RU := hid (Nat.le_of_eq hR1)
  clear hR1
  rotate_left 1
  all_goals try clear k4 k5 k6 dw4 dw5 dw6
  all_goals try clear cz fz hR HN
  all_goals (
    have fz := FK.out _ KU.out
    have DZ := hid (fz.d (sc - 15) (by omega) (by omega))
    simp only [hf0.out.cc, hf0.out.ss, hf0.out.nn] at hU ⊢
    clear fz
    go_wp2_with (at_builtin; (try rw [show 15 + u.data.length - 15 = u.data.length by omega]); refine wpList_app rfl _ _ rfl wz (.slice (some ⟨b, off + 15, none⟩) u.data.length (sc - 15)) u.data _ rfl rfl rfl DZ.out (by have := RG.out.len; omega) ?_; intro v8 w8 k8 h8; obtain ⟨g8, hg8, ho8⟩ := h8; obtain ⟨c8, cu8, e8, _⟩ := id ho8; subst e8; have M8 := hid (show Made wz w8 (.slice (some ⟨g8, 0, none⟩) u.data.length c8) u.data from ⟨.inr ⟨g8, ho8⟩, fun i hi => by cases hi; exact hg8⟩); have K8 := hid k8; have hU8 := hid (k8.has hU.out (by simp)); clear k8 ho8 hg8; have y0 := hU8.out.cell 0 rfl; have y1 := hU8.out.cell 1 rfl; have y2 := hU8.out.cell 2 rfl; have y3 := hU8.out.cell 3 rfl; have y4 := hU8.out.cell 4 rfl; have y5 := hU8.out.cell 5 rfl; have y6 := hU8.out.free 5)
    clear y0 y1 y2 y3 y4 y5 y6
    refine (lawful_ref u LW.out _ c8 _).mono ?_
    rintro e w9 ⟨rfl, k9⟩
    have kS := Kept.set (Kept.refl [R1] w8) ⟨R1, 5, none⟩ (.slice (some ⟨g8, 0, none⟩) u.data.length c8) (by simp)
    have H9 := hid (k9.has (hU8.out.set 5 (.slice (some ⟨g8, 0, none⟩) u.data.length c8)) (by simp))
    have K9 := hid (((KU.out.trans K8.out).set ⟨R1, 5, none⟩ (.slice (some ⟨g8, 0, none⟩) u.data.length c8) (fun h => absurd h (Nat.not_lt.2 RU.out))).trans k9)
    have M9 := hid ((M8.out.kept kS (fun bb hbb => by simp only [List.mem_singleton]; exact Nat.ne_of_gt (Nat.lt_of_lt_of_le hU.out.lt (M8.out.2 bb hbb)))).kept k9 (by simp))
    clear kS k9
    have wl : IntKind.i64.wrap (u.data.length : Int) = u.data.length := i64_id (by omega) (by have := RG.out.len; omega)
    have b14 : (14 : Int) < (n : Int) := by omega
    have f14 := (FK.out _ K9.out).n
    have y5 := H9.out.cell 5 rfl
    go_wp2_with fail
    go_quiet (fail)
    have kq := (Kept.refl [] w9).drewN nq
    clear y5 f14
    generalize w9.drewN nq = wq at kq ⊢
    have Hq := kq.has H9.out (by simp)
    have y0 := Hq.cell 0 rfl
    have y1 := Hq.cell 1 rfl
    have y2 := Hq.cell 2 rfl
    have y3 := Hq.cell 3 rfl
    have y4 := Hq.cell 4 rfl
    have y5 := Hq.cell 5 rfl
    have KQ := hid (K9.out.trans kq)
    have MQ := hid (M9.out.kept kq (by simp))
    have hz := KQ.out.has H0.out (by simp)
    have z0 := hz.cell 0 rfl
    have z1 := hz.cell 1 rfl
    have z2 := hz.cell 2 rfl
    have z3 := hz.cell 3 rfl
    have z4 := hz.cell 4 rfl
    have z5 := hz.cell 5 rfl
    have fz := And.intro (hz.free 0) (And.intro (hz.free 1) (And.intro (hz.free 2) (And.intro (hz.free 3) (And.intro (hz.free 4) (hz.free 5)))))
    clear Hq hz kq
    go_wp2_with fail
    refine bodyPost_ret (v := .tuple #[uval u (.slice (some ⟨g8, 0, none⟩) u.data.length c8), .int .i64 0]) (by simp [results, Tryz.results22, go_sem, uval, *]) rfl ⟨_, rfl, kept6 (K0.out.trans KQ.out) RH.out, ?_⟩
    have mm := MQ.out.kept (kept6R wq R0 (.int .i64 u.kind) (.int .u32 u.code) (.int .u32 u.ses) (.int .u32 u.num) (.int .i64 u.flags) (.slice (some ⟨g8, 0, none⟩) u.data.length c8)) (fun bb hbb => by simp only [List.mem_singleton]; exact Nat.ne_of_gt (Nat.lt_of_lt_of_le H0.out.lt (Nat.le_trans KU.out.size (MQ.out.2 bb hbb))))
    exact ⟨mm.1, fun i hi => Nat.le_trans (K0.out.trans KU.out).size (mm.2 i hi)⟩)
end RfC
namespace TM
open Go ValveC
variable {h h' : H} {d d' : D} {sig : List Int} {u : U} {c : Cn} {m : Mv} {x : Wd}
theorem cn_next (x : Wd) (m : Mv) (h0 : 0 ≤ m.conn ∧ m.conn < x.cs.length) (k : Nat) : (x.next m).cn k = if (k : Int) = m.conn then (x.step m).1 else x.cn k := by
  unfold Wd.next Wd.cn
  simp only [List.getD_eq_getElem?_getD, List.getElem?_set]
  by_cases e : (k : Int) = m.conn
  · have e1 : m.conn.toNat = k := by omega
    rw [if_pos e, if_pos e1, if_pos (by omega)]; rfl
  · rw [if_neg e, if_neg (by omega)]
theorem all_play (I : Nat → Cn → Prop) (hf : x.fault m = 0 → 0 ≤ m.conn ∧ m.conn < x.cs.length) (h : ∀ k, I k (x.cn k)) (hk : x.fault m = 0 → ∀ (k : Nat) u, (k : Int) = m.conn → I k (x.cn k) → I k ((x.cn k).play m u).1) (k : Nat) : I k ((x.play m).cn k) := by
  unfold Wd.play
  split
  · rename_i e
    rw [cn_next x m (hf e)]
    split
    · rename_i e2
      have e1 : m.conn.toNat = k := by omega
      show I k ((x.cn m.conn.toNat).play m _).1
      rw [e1]
      exact hk e k _ e2 (h k)
    · exact h k
  · exact h k
theorem play_p : (c.play m u).1.h.p = c.h.p ∧ (c.play m u).1.d.p = c.d.p := by
  have dr : ∀ (u : U) (e : Int), (c.d.receive c.sig u e).1.p = c.d.p := fun u e => by
    rcases DT.receive (d := c.d) (sig := c.sig) (u := u) e with r | r
    · exact r.1.p
    · exact r.1.p
  unfold Cn.play Cn.deliver
  repeat' split
  all_goals first
    | exact ⟨rfl, rfl⟩
    | exact ⟨(HS.write _ _).1.p, rfl⟩
    | exact ⟨rfl, (DS.write _ _).1.p⟩
    | exact ⟨HS.send.1.p, rfl⟩
    | exact ⟨(HS.receive _).1.p, rfl⟩
    | exact ⟨rfl, dr _ _⟩
    | exact ⟨tick_p _, rfl⟩
    | exact ⟨rfl, dtick_p _⟩
    | exact ⟨rfl, dack_p⟩
    | exact ⟨rfl, (Dn.reset _).1.p⟩
def Codes (x : Wd) : Prop := ∀ k, k < x.cs.length → (x.cn k).h.p.code = 7 + (k : Int) ∧ (x.cn k).d.p.code = 7 + (k : Int)
theorem play_cs (x : Wd) (m : Mv) : (x.play m).cs.length = x.cs.length := by
  unfold Wd.play; split
  · simp [Wd.next]
  · rfl
theorem Codes.play (q : Codes x) (hf : x.fault m = 0 → 0 ≤ m.conn ∧ m.conn < x.cs.length) : Codes (x.play m) := by
  intro k hk
  rw [play_cs] at hk
  refine all_play (fun k c => k < x.cs.length → c.h.p.code = 7 + (k : Int) ∧ c.d.p.code = 7 + (k : Int)) hf q (fun _ k u _ i l => ?_) k hk
  rw [play_p.1, play_p.2]; exact i l
def mvF (c s : Nat) (f : Nat) : Mv := ⟨3, c, 1 + (s : Int), f, 0, 0, 0, false, []⟩
theorem deliver_fault (x : Wd) (c s f : Nat) (hm : x.moves < 4096) (hc : c < x.cs.length) (hs : s < 2) (hf : f < x.bag.length) : x.fault (mvF c s f) = 0 := by
  unfold Wd.fault mvF
  dsimp only
  rw [if_neg (by omega), if_neg (by omega), if_neg (by omega), if_neg (by omega), if_pos rfl, if_neg (by omega)]
def Same (c : Cn) (r : Cn × Option U × Int) (e : Int) : Prop := r.1.h = c.h ∧ r.1.d = c.d ∧ r.2.1 = none ∧ r.2.2 = e
theorem deliver_step (x : Wd) (c s f : Nat) : x.step (mvF c s f) = (x.cn c).deliver (1 + (s : Int)) (x.bag.getD f U.zero) 0 := by
  unfold Wd.step mvF Cn.play
  dsimp only
  rw [if_neg (by decide), if_neg (by decide), if_pos rfl, Int.toNat_natCast, Int.toNat_natCast]
theorem foreign_down (h2 : c.d.state = 6) : Same c (c.deliver (1 + (1 : Nat)) u 0) 70 := by
  unfold Cn.deliver
  rw [if_neg (by decide)]
  have e : c.d.receive c.sig u 0 = (c.d, none, 70) := by unfold D.receive; rw [if_pos h2]
  rw [e]; exact ⟨rfl, rfl, rfl, rfl⟩
theorem foreign_kindH (hk : 1 ≤ u.kind ∧ u.kind ≤ 5) : Same c (c.deliver (1 + (0 : Nat)) u 0) 43 := by
  unfold Cn.deliver
  rw [if_pos (by decide)]
  have e : c.h.receive c.sig u 0 = (c.h, 43) := by unfold H.receive; rw [if_neg (by decide), if_pos (by omega)]
  rw [e]; exact ⟨rfl, rfl, rfl, rfl⟩
theorem foreign_kindD (h2 : c.d.state ≠ 6) (hk : ¬ (1 ≤ u.kind ∧ u.kind ≤ 5)) : Same c (c.deliver (1 + (1 : Nat)) u 0) 43 := by
  unfold Cn.deliver
  rw [if_neg (by decide)]
  have e : c.d.receive c.sig u 0 = (c.d, none, 43) := by unfold D.receive; rw [if_neg h2, if_neg (by decide), if_pos hk]
  rw [e]; exact ⟨rfl, rfl, rfl, rfl⟩
theorem foreign_codeH (hk : 17 ≤ u.kind ∧ u.kind ≤ 22) (hc : u.code ≠ c.h.p.code) : Same c (c.deliver (1 + (0 : Nat)) u 0) 44 := by
  unfold Cn.deliver
  rw [if_pos (by decide)]
  have e : c.h.receive c.sig u 0 = (c.h, 44) := by unfold H.receive; rw [if_neg (by decide), if_neg (by omega), if_pos hc]
  rw [e]; exact ⟨rfl, rfl, rfl, rfl⟩
theorem foreign_codeD (h2 : c.d.state ≠ 6) (hk : 1 ≤ u.kind ∧ u.kind ≤ 5) (hc : u.code ≠ c.d.p.code) : Same c (c.deliver (1 + (1 : Nat)) u 0) 44 := by
  unfold Cn.deliver
  rw [if_neg (by decide)]
  have e : c.d.receive c.sig u 0 = (c.d, none, 44) := by unfold D.receive; rw [if_neg h2, if_neg (by decide), if_neg (by omega), if_pos hc]
  rw [e]; exact ⟨rfl, rfl, rfl, rfl⟩
def Free (e : Int) : Prop := e ≠ 43 ∧ e ≠ 44 ∧ e ≠ 42
theorem fr0 : Free 0 := ⟨by decide, by decide, by decide⟩
theorem fr70 : Free 70 := ⟨by decide, by decide, by decide⟩
theorem fr80 : Free 80 := ⟨by decide, by decide, by decide⟩
theorem fr91 : Free 91 := ⟨by decide, by decide, by decide⟩
theorem fr130 : Free 130 := ⟨by decide, by decide, by decide⟩
theorem free_begin : Free (d.begin sig).2.2 := by
  unfold D.begin
  repeat' split
  all_goals first | exact fr0 | exact fr130 | exact fr91 | exact fr80 | exact fr70
theorem free_asked : Free (d.asked sig u).2.2 := by
  unfold D.asked
  repeat' split
  all_goals first
    | exact free_begin
    | exact fr0
    | exact fr130
    | exact fr91
theorem free_take : Free (d.take sig u).2.2 := by
  unfold D.take
  split
  · exact free_asked
  split
  · unfold D.echoed; split <;> first | exact fr0 | exact fr91
  repeat' split
  all_goals first | exact fr0 | exact fr130 | exact fr91 | exact fr80 | exact fr70
theorem free_H (hk : 17 ≤ u.kind ∧ u.kind ≤ 22) (hc : u.code = c.h.p.code) : Free (c.deliver (1 + (0 : Nat)) u 0).2.2 := by
  unfold Cn.deliver
  rw [if_pos (by decide)]
  show Free (c.h.receive c.sig u 0).2
  unfold H.receive
  rw [if_neg (by decide), if_neg (by omega), if_neg (by omega)]
  split
  · unfold H.offered; repeat' split
    all_goals first | exact fr0 | exact fr130 | exact fr91 | exact fr80 | exact fr70
  split
  · exact fr130
  · unfold H.take; repeat' split
    all_goals first | exact fr0 | exact fr130 | exact fr91 | exact fr80 | exact fr70
theorem free_D (h2 : c.d.state ≠ 6) (hk : 1 ≤ u.kind ∧ u.kind ≤ 5) (hc : u.code = c.d.p.code) : Free (c.deliver (1 + (1 : Nat)) u 0).2.2 := by
  unfold Cn.deliver
  rw [if_neg (by decide)]
  show Free (c.d.receive c.sig u 0).2.2
  unfold D.receive
  rw [if_neg h2, if_neg (by decide), if_neg (by omega), if_neg (by omega)]
  exact free_take
end TM
namespace TopC
open Go Go.RowKit Gf Hp Sl Ow Rw TM ParW WdC NetC EncW HostC DevC ValveC UEnc Fit
variable {X X' : Nat → Prop} {w w' : World} {b : Nat} {x : Wd} {k : Nat} {mv : Mv}
theorem net0_codes (n : Nat) (h : n ≤ 8) : Codes (net0 (pairs n) 50) := by
  intro k hk
  have hk' : k < n := by have : k < (pairs n).length := by simpa [net0] using hk
                         simpa [pairs_len] using this
  rw [net0_cn _ _ _ _ (pairs_at n k hk')]
  exact ⟨rfl, rfl⟩
def GR (W : World) (X : Nat → Prop) (b len cs : Nat) (Q : Wd → Prop) (i : Value) (w : World) : Prop :=
  ∃ (k : Nat) (x : Wd), k ≤ len ∧ k ≤ 300 ∧ i = .int .i64 k ∧ Kept [] W w ∧ LW X w b x ∧ x.moves ≤ k ∧ x.cs.length = cs ∧ Q x
theorem fault_conn {x : Wd} {mv : Mv} (e : x.fault mv = 0) : 0 ≤ mv.conn ∧ mv.conn < x.cs.length := (fault_ok e).2.2.1
def want (c : Cn) (s : Nat) (u : U) (cj : Nat) : Int := if s = 1 ∧ c.d.state = 6 then 70 else if (s = 1) ≠ (1 ≤ u.kind ∧ u.kind ≤ 5) then 43 else if u.code ≠ 7 + (cj : Int) then 44 else 0
theorem law_kind {u : U} (h : UnW.Law u) : (1 ≤ u.kind ∧ u.kind ≤ 5) ∨ (17 ≤ u.kind ∧ u.kind ≤ 22) := by
  rcases h with ⟨h, _⟩ | ⟨h, _⟩ | ⟨h, _⟩ | ⟨h, _⟩ | ⟨h, _⟩ | ⟨h, _⟩ | ⟨h, _⟩ | ⟨h, _⟩ | ⟨h, _⟩ | ⟨h, _⟩ | ⟨h, _⟩ <;> omega
theorem foreign_told {x : Wd} (q : Codes x) (c s f : Nat) (hc : c < x.cs.length) (hs : s < 2) {u : U} (hu : x.bag.getD f U.zero = u) (hl : UnW.Law u) :
    (want (x.cn c) s u c ≠ 0 ∧ Same (x.cn c) (x.step (mvF c s f)) (want (x.cn c) s u c)) ∨ (want (x.cn c) s u c = 0 ∧ Free (x.step (mvF c s f)).2.2) := by
  obtain ⟨q1, q2⟩ := q c hc
  have hk := law_kind hl
  rw [deliver_step, hu]
  unfold want
  by_cases h1 : s = 1
  · subst h1
    by_cases h2 : (x.cn c).d.state = 6
    · rw [if_pos ⟨rfl, h2⟩]; exact .inl ⟨by decide, foreign_down h2⟩
    rw [if_neg (by omega)]
    by_cases h3 : 1 ≤ u.kind ∧ u.kind ≤ 5
    · rw [if_neg (by simp [h3])]
      by_cases h4 : u.code = 7 + (c : Int)
      · rw [if_neg (by simp [h4])]; exact .inr ⟨rfl, free_D h2 h3 (by rw [q2, h4])⟩
      · rw [if_pos h4]; exact .inl ⟨by decide, foreign_codeD h2 h3 (by rw [q2]; exact h4)⟩
    · rw [if_pos (by simp [h3])]; exact .inl ⟨by decide, foreign_kindD h2 h3⟩
  · have h1 : s = 0 := by omega
    subst h1
    rw [if_neg (by omega)]
    by_cases h3 : 1 ≤ u.kind ∧ u.kind ≤ 5
    · rw [if_pos (by simp [h3])]; exact .inl ⟨by decide, foreign_kindH h3⟩
    · have h5 : 17 ≤ u.kind ∧ u.kind ≤ 22 := by omega
      rw [if_neg (by simp [h3])]
      by_cases h4 : u.code = 7 + (c : Int)
      · rw [if_neg (by simp [h4])]; exact .inr ⟨rfl, free_H h5 (by rw [q1, h4])⟩
      · rw [if_pos h4]; exact .inl ⟨by decide, foreign_codeH h5 (by rw [q1]; exact h4)⟩
theorem mvF_ok (c s f : Nat) : MvOk (mvF c s f) := ⟨fun z hz => by simp [mvF] at hz, by simp [mvF], by simp [mvF], by simp [mvF]⟩
theorem hb_true {k : Int} (h : 1 ≤ k ∧ k ≤ 5) : (decide (1 ≤ k) && decide (k ≤ 5)) = true := by simp [h.1, h.2]
theorem hb_false {k : Int} (h : ¬ (1 ≤ k ∧ k ≤ 5)) : (decide (1 ≤ k) && decide (k ≤ 5)) = false := by simp; omega
theorem want_down {c : Cn} {s cj : Nat} {u : U} (h : s = 1 ∧ c.d.state = 6) : want c s u cj = 70 := if_pos h
theorem want_kind {c : Cn} {s cj : Nat} {u : U} (h : ¬ (s = 1 ∧ c.d.state = 6)) (h2 : (s = 1) ≠ (1 ≤ u.kind ∧ u.kind ≤ 5)) : want c s u cj = 43 := by unfold want; rw [if_neg h, if_pos h2]
theorem want_code {c : Cn} {s cj : Nat} {u : U} (h : ¬ (s = 1 ∧ c.d.state = 6)) (h2 : ¬ (s = 1) ≠ (1 ≤ u.kind ∧ u.kind ≤ 5)) (h3 : u.code ≠ 7 + (cj : Int)) : want c s u cj = 44 := by unfold want; rw [if_neg h, if_neg h2, if_pos h3]
theorem want_zero {c : Cn} {s cj : Nat} {u : U} (h : ¬ (s = 1 ∧ c.d.state = 6)) (h2 : ¬ (s = 1) ≠ (1 ≤ u.kind ∧ u.kind ≤ 5)) (h3 : ¬ u.code ≠ 7 + (cj : Int)) : want c s u cj = 0 := by unfold want; rw [if_neg h, if_neg h2, if_neg h3]
set_option maxRecDepth 100000 in
set_option maxHeartbeats 6400000 in
theorem TopForeign_walk (xp : Option Addr) (len cap : Nat) (a1 a2 a3 : Int) (w : World) (hm : len ≤ maxLen) (hp : len = 0 ∨ ∃ b off, xp = some ⟨b, off, none⟩ ∧ ∀ i, i < len → ∃ mv dp dc, MvAt w b off i mv dp dc)
    (r1 : -9223372036854775808 ≤ a1 ∧ a1 < 9223372036854775808) (r2 : -9223372036854775808 ≤ a2 ∧ a2 < 9223372036854775808) (r3 : -9223372036854775808 ≤ a3 ∧ a3 < 9223372036854775808) :
    Calls Tryz.prog 8 #[.slice xp len cap, .int .i64 a1, .int .i64 a2, .int .i64 a3] w fun e w' => e = .returned (.bool true) ∧ Below w.heap.size w w' := by
  unfold maxLen at hm
  have P' := hid hp
  have O' := hid (And.intro r1 (And.intro r2 r3))
  clear hp r1 r2 r3
  go_enter Tryz.func8, Tryz.ntmps8
  go_wp2_with fail
  refine (net2 _).mono ?_
  rintro e w1 ⟨v, rfl, hv⟩
  have K1 := hid (show Kept [] w w1 from by obtain ⟨_, _, _, _, _, _, q, _⟩ := hv; exact q)
  have NW := hid (new_world v (pairs 3) w hv (pairs_good 3 (by decide)) (by decide) (by decide))
  clear hv
  go_wp2_with fail
  refine NW.out.mono ?_
  rintro e w2 ⟨b, rfl, k2, lw⟩
  have K2 := hid (K1.out.trans k2)
  have L2 := hid (lw.weak (X' := fun i => i < w.heap.size) (fun i hi => by
    have := K1.out.size
    show i < w1.heap.size
    exact Nat.lt_of_lt_of_le hi this))
  clear k2 lw NW K1
  go_wp2_with fail
  refine (awake_call _).mono ?_
  rintro e w3 ⟨rfl, k3⟩
  have K3 := hid (K2.out.trans k3)
  have L3 := hid (L2.out.nil k3)
  clear k3 L2 K2
  go_upto_block 0 with (fail)
  go_cut [] (fun wx => ∃ (k : Nat) (x : Wd), k ≤ 300 ∧ Kept [] w wx ∧ LW (fun i => i < w.heap.size) wx b x ∧ x.moves ≤ k ∧ x.cs.length = 3 ∧ Codes x)
  case first =>
    go_wp2_with fail
    go_loopw [11] (GR w (fun i => i < w.heap.size) b len 3 Codes) (fun i _ => len - (intOf i).toNat)
    case atStart => exact ⟨0, _, Nat.zero_le _, by omega, rfl, K3.out, L3.out, by decide, rfl, net0_codes 3 (by decide)⟩
    case round =>
      clear K3 L3
      obtain ⟨k, x, hk, hk5, rfl, kr, lr, hmv, hcs, hq⟩ := hrel
      rename_i wr
      have KR := hid kr
      have LR := hid lr
      have MC := hid (And.intro hmv (And.intro hcs hq))
      clear kr lr hmv hcs hq
      by_cases hlt : k < len ∧ k < 300
      · obtain ⟨hlt, hlt5⟩ := hlt
        obtain ⟨bs, off, rfl, hel⟩ := P'.out.resolve_left (by omega)
        obtain ⟨mv, dp, dc, hop⟩ := hel k hlt
        clear hel
        have q0 : wr.cell? ⟨bs, off + k * 9, none⟩ = some (.int .i64 mv.kind) := hop.cell KR.out 0 (by decide)
        have q1 : wr.cell? ⟨bs, off + k * 9 + 1, none⟩ = some (.int .i64 mv.conn) := hop.cell KR.out 1 (by decide)
        have q2 : wr.cell? ⟨bs, off + k * 9 + 2, none⟩ = some (.int .i64 mv.side) := hop.cell KR.out 2 (by decide)
        have q3 : wr.cell? ⟨bs, off + k * 9 + 3, none⟩ = some (.int .i64 mv.frame) := hop.cell KR.out 3 (by decide)
        have q4 : wr.cell? ⟨bs, off + k * 9 + 4, none⟩ = some (.int .i64 mv.at') := hop.cell KR.out 4 (by decide)
        have q5 : wr.cell? ⟨bs, off + k * 9 + 5, none⟩ = some (.int .u32 mv.word) := hop.cell KR.out 5 (by decide)
        have q6 : wr.cell? ⟨bs, off + k * 9 + 6, none⟩ = some (.int .i64 mv.n) := hop.cell KR.out 6 (by decide)
        have q7 : wr.cell? ⟨bs, off + k * 9 + 7, none⟩ = some (.bool mv.hold) := hop.cell KR.out 7 (by decide)
        have q8 : wr.cell? ⟨bs, off + k * 9 + 8, none⟩ = some (.slice dp mv.data.length dc) := hop.cell KR.out 8 (by decide)
        have hbw : bs < wr.heap.size := by have := hop.block; have := KR.out.size; omega
        have CC := hid (copied_call dp dc (hop.bytes.kept KR.out (by simp)) hop.ok.len)
        have OK := hid hop.ok
        clear hop
        go_wp2_with fail
        refine CC.out.mono ?_
        rintro e w2' ⟨ep, ec, rfl, k2, hmd⟩
        have PP := hid (LW.playM LR.out k2 OK.out hmd)
        have K2 := hid k2
        clear CC k2 hmd q0 q1 q2 q3 q4 q5 q6 q7 q8
        go_wp2_with fail
        refine PP.out.mono ?_
        rintro e w3' ⟨mp, ml, mc, code, sent, hh, s1, l1, c1, dd, s2, l2, c2, mv', rfl, sp, lw, _⟩
        have K3 := hid (sp.nil (KR.out.trans K2.out) (fun i hi => hi))
        have L3 := hid lw
        have ML := hid (play_len x mv)
        clear sp lw PP LR KR K2
        go_wp2_with fail
        go_roundw
        case rel => exact ⟨k + 1, x.play mv, by omega, by omega, by go_num, K3.out, L3.out, by have := ML.out.2; have := MC.out.1; omega, ML.out.1.trans MC.out.2.1, MC.out.2.2.play fault_conn⟩
        case measure => simp [intOf]; omega
      · go_wp2_with fail
        all_goals go_meet
        all_goals exact ⟨k, x, hk5, KR.out, LR.out, MC.out.1, MC.out.2.1, MC.out.2.2⟩
  obtain ⟨k, x, hk5, kr, lr, hmv, hcs, hq⟩ := hcut
  have KR := hid kr
  have LR := hid lr
  have MC := hid (And.intro hmv (And.intro hcs (And.intro hk5 hq)))
  clear kr lr hmv hcs hk5 hq K3 L3
  have FC := hid LR.out.frames
  by_cases hb : x.bag.length = 0
  · rw [hb] at FC
    go_wp2_with fail
    refine FC.out.mono ?_
    rintro e w5 ⟨rfl, rfl⟩
    go_wp2_with fail
    go_ret
    exact ⟨rfl, KR.out.toBelow (by simp)⟩
  obtain ⟨n, hn⟩ : ∃ n, x.bag.length = n := ⟨_, rfl⟩
  have hle : (n : Int) ≤ 300 := by have := LW.ok LR.out |>.few; have := MC.out; omega
  rw [hn] at hb FC
  have hb0 : ((n : Int) == 0) = false := by simp; omega
  go_wp2_with fail
  refine FC.out.mono ?_
  rintro e w5 ⟨rfl, rfl⟩
  go_upto_region 10 with (fail)
  have hn0 : ¬ ((n : Int) = 0) := by omega
  have hwz : IntKind.u64.wrap (n : Int) = (n : Int) := by simp [IntKind.wrap, IntKind.bits, IntKind.signed]; omega
  go_wp2_with fail
  refine FC.out.mono ?_
  rintro e w6 ⟨rfl, rfl⟩
  clear FC
  go_upto_region 11 with (fail)
  obtain ⟨cj, hcj, ecj⟩ := umod a2 3 (by decide) (by decide)
  obtain ⟨sj, hsj, esj⟩ := umod a3 2 (by decide) (by decide)
  obtain ⟨fj, hfj, efj⟩ := umod a1 (n : Int) (by omega) (by omega)
  rw [ecj, esj, efj, show wrap64 (1 + (sj : Int)) = 1 + (sj : Int) from by unfold wrap64; omega]
  have CJ := hid (show cj < 3 ∧ sj < 2 ∧ fj < n from ⟨by omega, by omega, by omega⟩)
  have k7 := (Kept.refl [] w6).alloc (.cells #[.int .i64 3, .int .i64 (cj : Int), .int .i64 (1 + (sj : Int)), .int .i64 (fj : Int), .int .i64 0, .int .u32 0, .int .i64 0, .bool false, .slice none 0 0] 38)
  have K7 := hid k7
  have L7 := hid (LR.out.nil k7)
  have M7 := hid (Has.new w6 38 [.int .i64 3, .int .i64 (cj : Int), .int .i64 (1 + (sj : Int)), .int .i64 (fj : Int), .int .i64 0, .int .u32 0, .int .i64 0, .bool false, .slice none 0 0])
  generalize w6.alloc (.cells #[.int .i64 3, .int .i64 (cj : Int), .int .i64 (1 + (sj : Int)), .int .i64 (fj : Int), .int .i64 0, .int .u32 0, .int .i64 0, .bool false, .slice none 0 0] 38) = w7 at k7 K7 L7 M7 ⊢
  obtain ⟨R, hR⟩ : ∃ R, R = w6.heap.size := ⟨_, rfl⟩
  rw [← hR] at M7 ⊢
  have RB := hid (Nat.le_of_eq hR.symm)
  clear hR k7 ecj esj efj hcj hsj hfj
  have FF := hid (L7.out.frame fj (by have := CJ.out; rw [hn]; omega))
  have HU := hid (bag_at L7.out.ok.bag fj (by have := CJ.out; rw [hn]; omega))
  have HN := hid hn
  clear hn hb hb0 hle hn0 hwz
  obtain ⟨u, hu⟩ : ∃ u, x.bag.getD fj U.zero = u := ⟨_, rfl⟩
  rw [hu] at FF HU
  have EU := hid hu
  clear hu
  have n3 := M7.out.cell 3 rfl
  go_wp2_with fail
  refine FF.out.mono ?_
  rintro e w8 ⟨y, rfl, k8, hy⟩
  obtain ⟨yp, yc, rfl⟩ := hy.shape
  have K8 := hid (K7.out.trans k8)
  have L8 := hid (L7.out.nil k8)
  have M8 := hid (k8.has M7.out (by simp))
  have DD := hid (RfC.decode_ref u HU.out.1 HU.out.2 _ w8 hy.bytes)
  clear n3 k8 hy FF K7 L7 M7
  go_wp2_with fail
  refine DD.out.mono ?_
  rintro e w9 ⟨y2, rfl, k9, hy2⟩
  unfold UnW.uval
  obtain ⟨y2p, y2c, rfl⟩ := hy2.shape
  have K9 := hid (K8.out.trans k9)
  have L9 := hid (L8.out.nil k9)
  have M9 := hid (k9.has M8.out (by simp))
  clear k9 hy2 DD K8 L8 M8
  go_upto_region 13 with (fail)
  have UA := hid (Has.new w9 63 [.int .i64 u.kind, .int .u32 u.code, .int .u32 u.ses, .int .u32 u.num, .int .i64 u.flags, .slice y2p u.data.length y2c])
  have ka := (Kept.refl [] w9).alloc (.cells #[.int .i64 u.kind, .int .u32 u.code, .int .u32 u.ses, .int .u32 u.num, .int .i64 u.flags, .slice y2p u.data.length y2c] 63)
  have KA := hid (K9.out.trans ka)
  have LA := hid (L9.out.nil ka)
  have MA := hid (ka.has M9.out (by simp))
  generalize w9.alloc (.cells #[.int .i64 u.kind, .int .u32 u.code, .int .u32 u.ses, .int .u32 u.num, .int .i64 u.flags, .slice y2p u.data.length y2c] 63) = wa at ka UA KA LA MA ⊢
  have RU := hid K9.out.size
  generalize w9.heap.size = Y at UA RU ⊢
  clear ka K9 L9 M9
  have EN := hid (LW.ends (k := cj) LA.out (by have := MC.out; have := CJ.out; omega))
  have n1 := MA.out.cell 1 rfl
  go_wp2_with fail
  refine EN.out.mono ?_
  rintro e wb ⟨k1, c1, k2, c2, rfl, kk, g1, g2, o1, o2⟩
  have O1 := hid o1
  have O2 := hid o2
  have KB := hid (KA.out.trans kk)
  have LB := hid (LA.out.nil kk)
  have MB := hid (kk.has MA.out (by simp))
  have UB := hid (kk.has UA.out (by simp))
  have GG := hid (And.intro (Nat.le_trans KA.out.size g1) (Nat.le_trans KA.out.size g2))
  clear kk g1 g2 o1 o2 EN n1 MA UA LA KA
  obtain ⟨h7, hh7⟩ : ∃ h7, (x.cn cj).h.see = h7 := ⟨_, rfl⟩
  obtain ⟨d7, hd7⟩ : ∃ d7, (x.cn cj).d.see = d7 := ⟨_, rfl⟩
  obtain ⟨y1, hy1⟩ : ∃ y1, (x.cn cj).h.v.out = y1 := ⟨_, rfl⟩
  obtain ⟨y2, hy2⟩ : ∃ y2, (x.cn cj).d.v.out = y2 := ⟨_, rfl⟩
  rw [hh7, hd7, hy1, hy2]
  rw [hy1] at O1
  rw [hy2] at O2
  have EQ := hid (And.intro hh7 (And.intro hd7 (And.intro hy1 hy2)))
  clear hh7 hd7 hy1 hy2
  unfold eval'
  go_upto_region 14 with (fail)
  have K8 := hid (((Kept.refl [] wb).alloc (.cells #[.int .i64 h7.state, .int .u32 h7.ses, .int .u32 h7.num, .int .u32 h7.sent, .int .i64 h7.since, .int .i64 h7.latched, .bool h7.request, .bool h7.on, .slice (some ⟨k1, 0, none⟩) y1.length c1] 42)).alloc (.cells #[.int .i64 d7.state, .int .u32 d7.ses, .int .u32 d7.num, .int .u32 d7.sent, .int .i64 d7.since, .int .i64 d7.latched, .bool d7.request, .bool d7.on, .slice (some ⟨k2, 0, none⟩) y2.length c2] 42))
  have H8 := hid ((Has.new wb 42 [.int .i64 h7.state, .int .u32 h7.ses, .int .u32 h7.num, .int .u32 h7.sent, .int .i64 h7.since, .int .i64 h7.latched, .bool h7.request, .bool h7.on, .slice (some ⟨k1, 0, none⟩) y1.length c1]).alloc (.cells #[.int .i64 d7.state, .int .u32 d7.ses, .int .u32 d7.num, .int .u32 d7.sent, .int .i64 d7.since, .int .i64 d7.latched, .bool d7.request, .bool d7.on, .slice (some ⟨k2, 0, none⟩) y2.length c2] 42))
  have D8 := hid (Has.new (wb.alloc (.cells #[.int .i64 h7.state, .int .u32 h7.ses, .int .u32 h7.num, .int .u32 h7.sent, .int .i64 h7.since, .int .i64 h7.latched, .bool h7.request, .bool h7.on, .slice (some ⟨k1, 0, none⟩) y1.length c1] 42)) 42 [.int .i64 d7.state, .int .u32 d7.ses, .int .u32 d7.num, .int .u32 d7.sent, .int .i64 d7.since, .int .i64 d7.latched, .bool d7.request, .bool d7.on, .slice (some ⟨k2, 0, none⟩) y2.length c2])
  rw [show (wb.alloc (.cells #[.int .i64 h7.state, .int .u32 h7.ses, .int .u32 h7.num, .int .u32 h7.sent, .int .i64 h7.since, .int .i64 h7.latched, .bool h7.request, .bool h7.on, .slice (some ⟨k1, 0, none⟩) y1.length c1] 42)).heap.size = wb.heap.size + 1 by simp] at D8
  generalize (wb.alloc (.cells #[.int .i64 h7.state, .int .u32 h7.ses, .int .u32 h7.num, .int .u32 h7.sent, .int .i64 h7.since, .int .i64 h7.latched, .bool h7.request, .bool h7.on, .slice (some ⟨k1, 0, none⟩) y1.length c1] 42)).alloc (.cells #[.int .i64 d7.state, .int .u32 d7.ses, .int .u32 d7.num, .int .u32 d7.sent, .int .i64 d7.since, .int .i64 d7.latched, .bool d7.request, .bool d7.on, .slice (some ⟨k2, 0, none⟩) y2.length c2] 42) = wc at K8 H8 D8 ⊢
  obtain ⟨RH, hRH⟩ : ∃ R, R = wb.heap.size := ⟨_, rfl⟩
  obtain ⟨RD, hRD⟩ : ∃ R, R = wb.heap.size + 1 := ⟨_, rfl⟩
  rw [← hRH] at H8
  rw [← hRD] at D8
  rw [← hRD, ← hRH]
  have RS := hid (And.intro (Nat.le_of_eq hRH.symm) (show wb.heap.size ≤ RD by omega))
  clear hRH hRD
  have M8 := hid (K8.out.has MB.out (by simp))
  have U8 := hid (K8.out.has UB.out (by simp))
  have P1 := hid (O1.out.kept K8.out (by simp))
  have P2 := hid (O2.out.kept K8.out (by simp))
  have J8 := hid (KB.out.trans K8.out)
  have Q8 := hid (KR.out.trans J8.out)
  have L8 := hid (LR.out.step (X' := fun i => i < w.heap.size ∨ i = R ∨ i = Y ∨ i = RH ∨ i = RD ∨ i = k1 ∨ i = k2) J8.out (by simp) (fun i hi => by
    have a1 := H8.out.lt; have a2 := D8.out.lt; have a3 := K8.out.size; have a4 := KB.out.size; have a5 := P1.out.lt; have a6 := P2.out.lt; have a7 := RS.out; have a8 := GG.out; have a9 := RB.out; have b1 := RU.out; have b2 := M8.out.lt; have b3 := U8.out.lt
    rcases hi with hi | rfl | rfl | rfl | rfl | rfl | rfl
    · exact .inl hi
    all_goals (refine .inr ⟨?_, ?_⟩ <;> omega)))
  clear O1 O2 MB UB KB LB GG RS K8 LR J8 KR
  have DF := hid (deliver_fault x cj sj fj (by have := MC.out; omega) (by have := MC.out; have := CJ.out; omega) CJ.out.2.1 (by rw [HN.out]; exact CJ.out.2.2))
  have PP : Hid (Calls Tryz.prog 14 #[.pointer (some ⟨b, 0, none⟩), .agg #[.int .i64 3, .int .i64 (cj : Int), .int .i64 (1 + (sj : Int)), .int .i64 (fj : Int), .int .i64 0, .int .u32 0, .int .i64 0, .bool false, .slice none 0 0]] wc _) := hid (LW.play (mv := mvF cj sj fj) (dp := none) (dc := 0) L8.out (mvF_ok cj sj fj) (.inl ⟨rfl, rfl⟩) (by intro b' off n c e; cases e))
  have m0 := M8.out.cell 0 rfl
  have m1 := M8.out.cell 1 rfl
  have m2 := M8.out.cell 2 rfl
  have m3 := M8.out.cell 3 rfl
  have m4 := M8.out.cell 4 rfl
  have m5 := M8.out.cell 5 rfl
  have m6 := M8.out.cell 6 rfl
  have m7 := M8.out.cell 7 rfl
  have m8 := M8.out.cell 8 rfl
  go_wp2_with fail
  refine PP.out.mono ?_
  rintro e wp ⟨mp, ml, mc, code, sent, hh, s1, l1, c3, dd, s2, l2, c4, mv', rfl, sp, _, hr⟩
  rw [DF.out] at hr ⊢
  have HR := hid (hr rfl)
  have QP := hid (sp.nil Q8.out (fun i hi => .inl hi))
  have HP := hid (sp.has H8.out (.inr (.inr (.inr (.inl rfl)))))
  have DP := hid (sp.has D8.out (.inr (.inr (.inr (.inr (.inl rfl))))))
  have MP := hid (sp.has M8.out (.inr (.inl rfl)))
  have UP := hid (sp.has U8.out (.inr (.inr (.inl rfl))))
  have PA := hid (sp.own P1.out (.inr (.inr (.inr (.inr (.inr (.inl rfl)))))))
  have PB := hid (sp.own P2.out (.inr (.inr (.inr (.inr (.inr (.inr rfl)))))))
  have HT := hid (foreign_told (x := x) MC.out.2.2.2 cj sj fj (by have := MC.out; have := CJ.out; omega) CJ.out.2.1 EU.out HU.out.2)
  clear hr sp PP m0 m1 m2 m3 m4 m5 m6 m7 m8 L8 Q8 H8 D8 M8 U8 P1 P2
  rw [rowV_L]
  unfold rowL
  iterate 14 (first | go_values | go_skip | go_guarded | go_step | go_upon | go_back | (simp only [Int.not_lt, Int.not_le] at *; go_simp) | (go_values <;> (try go_simp)))
  refine wpList_put (o := 0) (Has.new wp 44 [.int .i64 0, .int .i64 0, .int .i64 0, .int .i64 0, .int .i64 0, .int .u32 0, .int .i64 0, .bool false, .slice none 0 0, .int .i64 0, .int .i64 0, .int .i64 0, .int .u32 0, .int .u32 0, .int .u32 0, .int .i64 0, .int .i64 0, .bool false, .bool false, .slice none 0 0, .int .i64 0, .int .u32 0, .int .u32 0, .int .u32 0, .int .i64 0, .int .i64 0, .bool false, .bool false, .slice none 0 0]) [.int .i64 mv'.kind, .int .i64 mv'.conn, .int .i64 mv'.side, .int .i64 mv'.frame, .int .i64 mv'.at', .int .u32 mv'.word, .int .i64 mv'.n, .bool mv'.hold, .slice mp ml mc, .int .i64 code, .int .i64 sent, .int .i64 hh.state, .int .u32 hh.ses, .int .u32 hh.num, .int .u32 hh.sent, .int .i64 hh.since, .int .i64 hh.latched, .bool hh.request, .bool hh.on, .slice s1 l1 c3, .int .i64 dd.state, .int .u32 dd.ses, .int .u32 dd.num, .int .u32 dd.sent, .int .i64 dd.since, .int .i64 dd.latched, .bool dd.request, .bool dd.on, .slice s2 l2 c4] 44 (.tmp 19) (.tmp 92) rfl rfl rfl rfl (Nat.le_refl 29) infoR rfl ?_
  obtain ⟨ew, qw⟩ := puts_all [.int .i64 mv'.kind, .int .i64 mv'.conn, .int .i64 mv'.side, .int .i64 mv'.frame, .int .i64 mv'.at', .int .u32 mv'.word, .int .i64 mv'.n, .bool mv'.hold, .slice mp ml mc, .int .i64 code, .int .i64 sent, .int .i64 hh.state, .int .u32 hh.ses, .int .u32 hh.num, .int .u32 hh.sent, .int .i64 hh.since, .int .i64 hh.latched, .bool hh.request, .bool hh.on, .slice s1 l1 c3, .int .i64 dd.state, .int .u32 dd.ses, .int .u32 dd.num, .int .u32 dd.sent, .int .i64 dd.since, .int .i64 dd.latched, .bool dd.request, .bool dd.on, .slice s2 l2 c4] (Has.new wp 44 [.int .i64 0, .int .i64 0, .int .i64 0, .int .i64 0, .int .i64 0, .int .u32 0, .int .i64 0, .bool false, .slice none 0 0, .int .i64 0, .int .i64 0, .int .i64 0, .int .u32 0, .int .u32 0, .int .u32 0, .int .i64 0, .int .i64 0, .bool false, .bool false, .slice none 0 0, .int .i64 0, .int .u32 0, .int .u32 0, .int .u32 0, .int .i64 0, .int .i64 0, .bool false, .bool false, .slice none 0 0]) rfl
  have QW := hid (((Kept.refl [] wp).alloc (.cells #[.int .i64 0, .int .i64 0, .int .i64 0, .int .i64 0, .int .i64 0, .int .u32 0, .int .i64 0, .bool false, .slice none 0 0, .int .i64 0, .int .i64 0, .int .i64 0, .int .u32 0, .int .u32 0, .int .u32 0, .int .i64 0, .int .i64 0, .bool false, .bool false, .slice none 0 0, .int .i64 0, .int .u32 0, .int .u32 0, .int .u32 0, .int .i64 0, .int .i64 0, .bool false, .bool false, .slice none 0 0] 44)).fresh qw (by intro i hi hl; simp at hi; omega))
  have EW := hid ew
  clear ew qw
  generalize (wp.alloc (.cells #[.int .i64 0, .int .i64 0, .int .i64 0, .int .i64 0, .int .i64 0, .int .u32 0, .int .i64 0, .bool false, .slice none 0 0, .int .i64 0, .int .i64 0, .int .i64 0, .int .u32 0, .int .u32 0, .int .u32 0, .int .i64 0, .int .i64 0, .bool false, .bool false, .slice none 0 0, .int .i64 0, .int .u32 0, .int .u32 0, .int .u32 0, .int .i64 0, .int .i64 0, .bool false, .bool false, .slice none 0 0] 44)).setCells wp.heap.size 0 [.int .i64 mv'.kind, .int .i64 mv'.conn, .int .i64 mv'.side, .int .i64 mv'.frame, .int .i64 mv'.at', .int .u32 mv'.word, .int .i64 mv'.n, .bool mv'.hold, .slice mp ml mc, .int .i64 code, .int .i64 sent, .int .i64 hh.state, .int .u32 hh.ses, .int .u32 hh.num, .int .u32 hh.sent, .int .i64 hh.since, .int .i64 hh.latched, .bool hh.request, .bool hh.on, .slice s1 l1 c3, .int .i64 dd.state, .int .u32 dd.ses, .int .u32 dd.num, .int .u32 dd.sent, .int .i64 dd.since, .int .i64 dd.latched, .bool dd.request, .bool dd.on, .slice s2 l2 c4] = wz at QW EW ⊢
  generalize wp.heap.size = RA at EW ⊢
  have QZ := hid (QP.out.trans QW.out)
  have MZ := hid (QW.out.has MP.out (by simp))
  have UZ := hid (QW.out.has UP.out (by simp))
  have HZ := hid (QW.out.has HP.out (by simp))
  have DZ := hid (QW.out.has DP.out (by simp))
  have A1 := hid (show Bytes wz (.slice (some ⟨k1, 0, none⟩) y1.length c1) y1 from (Own.bytes PA.out).kept QW.out (by simp))
  have A2 := hid (show Bytes wz (.slice (some ⟨k2, 0, none⟩) y2.length c2) y2 from (Own.bytes PB.out).kept QW.out (by simp))
  have DS := hid (show (x.cn cj).d.state = d7.state from by rw [← EQ.out.2.1]; rfl)
  have CK := hid (show wrap64 (7 + (cj : Int)) % 4294967296 = 7 + (cj : Int) from by have := CJ.out; unfold wrap64; omega)
  have UR := hid (law_kind HU.out.2)
  clear MP UP HP DP PA PB
  rcases HT.out with ⟨hw, hs1, hs2, hs3, hs4⟩ | ⟨hw, hfr⟩
  · obtain ⟨⟨hm1, hm2, hc, hs, hh', hd', hl1, hl2⟩, o1, o2⟩ := HR.out
    clear hm1 hm2 hl1 hl2
    have es : sent = -1 := by rw [hs]; show (if _ then _ else _) = _; rw [hs3]; rfl
    have eh : h7 = hh := by symm; rw [hh', ← EQ.out.1]; show (x.step _).1.h.see = _; rw [hs1]
    have ed : d7 = dd := by symm; rw [hd', ← EQ.out.2.1]; show (x.step _).1.d.see = _; rw [hs2]
    have ec : code = want (x.cn cj) sj u cj := by rw [hc]; exact hs4
    have e1 : h7.out = y1 := by rw [← EQ.out.1, ← EQ.out.2.2.1]; rfl
    have e2 : d7.out = y2 := by rw [← EQ.out.2.1, ← EQ.out.2.2.2]; rfl
    subst es eh ed
    have B1 := hid (show Bytes wz (.slice s1 l1 c3) y1 from by obtain ⟨_, _, o⟩ := o1; rw [← e1]; exact (Own.bytes o).kept QW.out (by simp))
    have B2 := hid (show Bytes wz (.slice s2 l2 c4) y2 from by obtain ⟨_, _, o⟩ := o2; rw [← e2]; exact (Own.bytes o).kept QW.out (by simp))
    have HW := hid (And.intro hw ec)
    clear o1 o2 hc hs hh' hd' e1 e2 hs1 hs2 hs3 hs4 hw ec HR EQ
    go_upto_block 2 with (fail)
    go_cut [20] (fun s wx => s = .int .i64 code ∧ Kept [] wz wx)
    case first =>
      have r2 := MZ.out.cell 2 rfl
      have d0 := DZ.out.cell 0 rfl
      by_cases hA : sj = 1 ∧ d7.state = 6
      · obtain ⟨rfl, hA2⟩ := hA
        have ds : (d7.state == 6) = true := by simp [hA2]
        have hc : code = 70 := by rw [HW.out.2]; exact want_down ⟨rfl, by rw [DS.out]; exact hA2⟩
        clear hA2
        subst hc
        go_wp2_with fail
        go_meet
        exact ⟨rfl, Kept.refl _ _⟩
      · have r1 := MZ.out.cell 1 rfl
        have u0 := UZ.out.cell 0 rfl
        have u1 := UZ.out.cell 1 rfl
        have HC := hid hA
        have UQ := UR.out
        by_cases h1 : sj = 1
        · subst h1
          have ds : (d7.state == 6) = false := by have := HC.out; simp at this ⊢; exact this
          by_cases h3 : 1 ≤ u.kind ∧ u.kind ≤ 5
          · by_cases h4 : u.code = 7 + (cj : Int)
            · exact absurd (want_zero (by have := HC.out; rw [DS.out]; omega) (by simp [h3]) (by simp [h4])) HW.out.1
            · have hc : code = 44 := by rw [HW.out.2]; exact want_code (by have := HC.out; rw [DS.out]; omega) (by simp [h3]) h4
              have e4 : (u.code != wrap64 (7 + (cj : Int)) % 4294967296) = true := by rw [CK.out]; simp [h4]
              subst hc
              have HF := hid (show ∀ W : World, Calls Tryz.prog 23 #[.int .i64 u.kind] W fun e w' => e = .returned (.bool true) ∧ w' = W from fun W => by have := RfC.host_ref u.kind W; rw [hb_true h3] at this; exact this)
              clear h3
              (try clear h4)

              go_wp2_with fail
              go_quiet ((go_at_call 23; exact Calls.quiet_of_same (HF.out _)))
              have kq := (Kept.refl [] wz).drewN nq
              clear r2 d0 r1 u0 u1
              generalize wz.drewN nq = wq at kq ⊢
              have r1 := (kq.has MZ.out (by simp)).cell 1 rfl
              have u1 := (kq.has UZ.out (by simp)).cell 1 rfl
              go_wp2_with fail
              go_meet
              exact ⟨rfl, kq⟩
          · have hc : code = 43 := by rw [HW.out.2]; exact want_kind (by have := HC.out; rw [DS.out]; omega) (by simp [h3])
            subst hc
            have HF := hid (show ∀ W : World, Calls Tryz.prog 23 #[.int .i64 u.kind] W fun e w' => e = .returned (.bool false) ∧ w' = W from fun W => by have := RfC.host_ref u.kind W; rw [hb_false h3] at this; exact this)
            clear h3
            (try clear h4)

            go_wp2_with fail
            go_quiet ((go_at_call 23; exact Calls.quiet_of_same (HF.out _)))
            have kq := (Kept.refl [] wz).drewN nq
            clear r2 d0 r1 u0 u1
            generalize wz.drewN nq = wq at kq ⊢
            have r1 := (kq.has MZ.out (by simp)).cell 1 rfl
            have u1 := (kq.has UZ.out (by simp)).cell 1 rfl
            go_wp2_with fail
            go_meet
            exact ⟨rfl, kq⟩
        · have h0 : sj = 0 := by have := CJ.out; omega
          subst h0
          by_cases h3 : 1 ≤ u.kind ∧ u.kind ≤ 5
          · have hc : code = 43 := by rw [HW.out.2]; exact want_kind (by have := HC.out; rw [DS.out]; omega) (by simp [h3])
            subst hc
            have HF := hid (show ∀ W : World, Calls Tryz.prog 23 #[.int .i64 u.kind] W fun e w' => e = .returned (.bool true) ∧ w' = W from fun W => by have := RfC.host_ref u.kind W; rw [hb_true h3] at this; exact this)
            clear h3
            (try clear h4)

            go_wp2_with fail
            go_quiet ((go_at_call 23; exact Calls.quiet_of_same (HF.out _)))
            have kq := (Kept.refl [] wz).drewN nq
            clear r2 d0 r1 u0 u1
            generalize wz.drewN nq = wq at kq ⊢
            have r1 := (kq.has MZ.out (by simp)).cell 1 rfl
            have u1 := (kq.has UZ.out (by simp)).cell 1 rfl
            go_wp2_with fail
            go_meet
            exact ⟨rfl, kq⟩
          · by_cases h4 : u.code = 7 + (cj : Int)
            · exact absurd (want_zero (by have := HC.out; rw [DS.out]; omega) (by simp [h3]) (by simp [h4])) HW.out.1
            · have hc : code = 44 := by rw [HW.out.2]; exact want_code (by have := HC.out; rw [DS.out]; omega) (by simp [h3]) h4
              have e4 : (u.code != wrap64 (7 + (cj : Int)) % 4294967296) = true := by rw [CK.out]; simp [h4]
              subst hc
              have HF := hid (show ∀ W : World, Calls Tryz.prog 23 #[.int .i64 u.kind] W fun e w' => e = .returned (.bool false) ∧ w' = W from fun W => by have := RfC.host_ref u.kind W; rw [hb_false h3] at this; exact this)
              clear h3
              (try clear h4)

              go_wp2_with fail
              go_quiet ((go_at_call 23; exact Calls.quiet_of_same (HF.out _)))
              have kq := (Kept.refl [] wz).drewN nq
              clear r2 d0 r1 u0 u1
              generalize wz.drewN nq = wq at kq ⊢
              have r1 := (kq.has MZ.out (by simp)).cell 1 rfl
              have u1 := (kq.has UZ.out (by simp)).cell 1 rfl
              go_wp2_with fail
              go_meet
              exact ⟨rfl, kq⟩
    obtain ⟨rfl, kx⟩ := hcut
    have KX := hid kx
    clear kx
    have S1 : Hid (Calls Tryz.prog 18 #[.agg #[.int .i64 h7.state, .int .u32 h7.ses, .int .u32 h7.num, .int .u32 h7.sent, .int .i64 h7.since, .int .i64 h7.latched, .bool h7.request, .bool h7.on, .slice (some ⟨k1, 0, none⟩) y1.length c1], .agg #[.int .i64 h7.state, .int .u32 h7.ses, .int .u32 h7.num, .int .u32 h7.sent, .int .i64 h7.since, .int .i64 h7.latched, .bool h7.request, .bool h7.on, .slice s1 l1 c3]] wc fun r w' => r = .returned (.bool true) ∧ Kept [] wc w') := hid (same_call h7 (some ⟨k1, 0, none⟩) s1 y1.length c1 l1 c3 y1 (A1.out.kept KX.out (by simp)) (B1.out.kept KX.out (by simp)))
    have S2 : Hid (∀ w', Kept [] wz w' → Calls Tryz.prog 18 #[.agg #[.int .i64 d7.state, .int .u32 d7.ses, .int .u32 d7.num, .int .u32 d7.sent, .int .i64 d7.since, .int .i64 d7.latched, .bool d7.request, .bool d7.on, .slice (some ⟨k2, 0, none⟩) y2.length c2], .agg #[.int .i64 d7.state, .int .u32 d7.ses, .int .u32 d7.num, .int .u32 d7.sent, .int .i64 d7.since, .int .i64 d7.latched, .bool d7.request, .bool d7.on, .slice s2 l2 c4]] w' fun r w'' => r = .returned (.bool true) ∧ Kept [] w' w'') := hid (fun w' q => same_call d7 (some ⟨k2, 0, none⟩) s2 y2.length c2 l2 c4 y2 (A2.out.kept q (by simp)) (B2.out.kept q (by simp)))
    have a0 := (KX.out.has HZ.out (by simp)).cell 0 rfl
    have a1 := (KX.out.has HZ.out (by simp)).cell 1 rfl
    have a2 := (KX.out.has HZ.out (by simp)).cell 2 rfl
    have a3 := (KX.out.has HZ.out (by simp)).cell 3 rfl
    have a4 := (KX.out.has HZ.out (by simp)).cell 4 rfl
    have a5 := (KX.out.has HZ.out (by simp)).cell 5 rfl
    have a6 := (KX.out.has HZ.out (by simp)).cell 6 rfl
    have a7 := (KX.out.has HZ.out (by simp)).cell 7 rfl
    have a8 := (KX.out.has HZ.out (by simp)).cell 8 rfl
    have b0 := (KX.out.has EW.out (by simp)).cell 11 rfl
    have b1 := (KX.out.has EW.out (by simp)).cell 12 rfl
    have b2 := (KX.out.has EW.out (by simp)).cell 13 rfl
    have b3 := (KX.out.has EW.out (by simp)).cell 14 rfl
    have b4 := (KX.out.has EW.out (by simp)).cell 15 rfl
    have b5 := (KX.out.has EW.out (by simp)).cell 16 rfl
    have b6 := (KX.out.has EW.out (by simp)).cell 17 rfl
    have b7 := (KX.out.has EW.out (by simp)).cell 18 rfl
    have b8 := (KX.out.has EW.out (by simp)).cell 19 rfl
    have c9 := (KX.out.has EW.out (by simp)).cell 9 rfl
    have c10 := (KX.out.has EW.out (by simp)).cell 10 rfl
    go_wp2_with fail
    refine S1.out.mono ?_
    rintro e w1' ⟨rfl, k1'⟩
    have K1' := hid (KX.out.trans k1')
    clear k1' c9 c10
    clear a0 a1 a2 a3 a4 a5 a6 a7 a8 b0 b1 b2 b3 b4 b5 b6 b7 b8
    have a0 := (K1'.out.has DZ.out (by simp)).cell 0 rfl
    have a1 := (K1'.out.has DZ.out (by simp)).cell 1 rfl
    have a2 := (K1'.out.has DZ.out (by simp)).cell 2 rfl
    have a3 := (K1'.out.has DZ.out (by simp)).cell 3 rfl
    have a4 := (K1'.out.has DZ.out (by simp)).cell 4 rfl
    have a5 := (K1'.out.has DZ.out (by simp)).cell 5 rfl
    have a6 := (K1'.out.has DZ.out (by simp)).cell 6 rfl
    have a7 := (K1'.out.has DZ.out (by simp)).cell 7 rfl
    have a8 := (K1'.out.has DZ.out (by simp)).cell 8 rfl
    have b0 := (K1'.out.has EW.out (by simp)).cell 20 rfl
    have b1 := (K1'.out.has EW.out (by simp)).cell 21 rfl
    have b2 := (K1'.out.has EW.out (by simp)).cell 22 rfl
    have b3 := (K1'.out.has EW.out (by simp)).cell 23 rfl
    have b4 := (K1'.out.has EW.out (by simp)).cell 24 rfl
    have b5 := (K1'.out.has EW.out (by simp)).cell 25 rfl
    have b6 := (K1'.out.has EW.out (by simp)).cell 26 rfl
    have b7 := (K1'.out.has EW.out (by simp)).cell 27 rfl
    have b8 := (K1'.out.has EW.out (by simp)).cell 28 rfl
    go_wp2_with fail
    refine (S2.out _ K1'.out).mono ?_
    rintro e w2' ⟨rfl, k2'⟩
    go_wp2_with fail
    go_ret
    exact ⟨rfl, ((QZ.out.trans K1'.out).trans k2').toBelow (by simp)⟩
  · obtain ⟨⟨hm1, hm2, hc, hs, hh', hd', hl1, hl2⟩, o1, o2⟩ := HR.out
    have ed : d7.state = d7.state := rfl
    have FR := hid (show Free code from by rw [hc]; exact hfr)
    have HW := hid hw
    clear hm1 hm2 hl1 hl2 hc hs hh' hd' o1 o2 hfr hw ed HR
    go_upto_block 2 with (fail)
    have r2 := MZ.out.cell 2 rfl
    have d0 := DZ.out.cell 0 rfl
    by_cases hA : sj = 1 ∧ d7.state = 6
    · exact absurd HW.out (by rw [want_down ⟨hA.1, by rw [DS.out]; exact hA.2⟩]; decide)
    · have r1 := MZ.out.cell 1 rfl
      have u0 := UZ.out.cell 0 rfl
      have u1 := UZ.out.cell 1 rfl
      have HC := hid hA
      have UQ := UR.out
      by_cases h1 : sj = 1
      · subst h1
        have ds : (d7.state == 6) = false := by have := HC.out; simp at this ⊢; exact this
        by_cases h3 : 1 ≤ u.kind ∧ u.kind ≤ 5
        · by_cases h4 : u.code = 7 + (cj : Int)
          · have e4 : (u.code != wrap64 (7 + (cj : Int)) % 4294967296) = false := by rw [CK.out]; simp [h4]
            have HF := hid (show ∀ W : World, Calls Tryz.prog 23 #[.int .i64 u.kind] W fun e w' => e = .returned (.bool true) ∧ w' = W from fun W => by have := RfC.host_ref u.kind W; rw [hb_true h3] at this; exact this)
            clear h3
            (try clear h4)

            go_wp2_with fail
            go_quiet ((go_at_call 23; exact Calls.quiet_of_same (HF.out _)))
            have kq := (Kept.refl [] wz).drewN nq
            clear r2 d0 r1 u0 u1
            generalize wz.drewN nq = wq at kq ⊢
            have r1 := (kq.has MZ.out (by simp)).cell 1 rfl
            have u1 := (kq.has UZ.out (by simp)).cell 1 rfl
            have z9 := (kq.has EW.out (by simp)).cell 9 rfl
            have f1 := FR.out.1
            have f2 := FR.out.2.1
            have f3 := FR.out.2.2
            have b1 : (code != 43) = true := by simp [f1]
            have b2 : (code != 44) = true := by simp [f2]
            have b3 : (code != 42) = true := by simp [f3]
            clear f1 f2 f3
            go_wp2_with fail
            go_ret
            exact ⟨rfl, (QZ.out.trans kq).toBelow (by simp)⟩
          · exact absurd HW.out (by rw [want_code (by have := HC.out; rw [DS.out]; omega) (by simp [h3]) h4]; decide)
        · exact absurd HW.out (by rw [want_kind (by have := HC.out; rw [DS.out]; omega) (by simp [h3])]; decide)
      · have h0 : sj = 0 := by have := CJ.out; omega
        subst h0
        by_cases h3 : 1 ≤ u.kind ∧ u.kind ≤ 5
        · exact absurd HW.out (by rw [want_kind (by have := HC.out; rw [DS.out]; omega) (by simp [h3])]; decide)
        · by_cases h4 : u.code = 7 + (cj : Int)
          · have e4 : (u.code != wrap64 (7 + (cj : Int)) % 4294967296) = false := by rw [CK.out]; simp [h4]
            have HF := hid (show ∀ W : World, Calls Tryz.prog 23 #[.int .i64 u.kind] W fun e w' => e = .returned (.bool false) ∧ w' = W from fun W => by have := RfC.host_ref u.kind W; rw [hb_false h3] at this; exact this)
            clear h3
            (try clear h4)

            go_wp2_with fail
            go_quiet ((go_at_call 23; exact Calls.quiet_of_same (HF.out _)))
            have kq := (Kept.refl [] wz).drewN nq
            clear r2 d0 r1 u0 u1
            generalize wz.drewN nq = wq at kq ⊢
            have r1 := (kq.has MZ.out (by simp)).cell 1 rfl
            have u1 := (kq.has UZ.out (by simp)).cell 1 rfl
            have z9 := (kq.has EW.out (by simp)).cell 9 rfl
            have f1 := FR.out.1
            have f2 := FR.out.2.1
            have f3 := FR.out.2.2
            have b1 : (code != 43) = true := by simp [f1]
            have b2 : (code != 44) = true := by simp [f2]
            have b3 : (code != 42) = true := by simp [f3]
            clear f1 f2 f3
            go_wp2_with fail
            go_ret
            exact ⟨rfl, (QZ.out.trans kq).toBelow (by simp)⟩
          · exact absurd HW.out (by rw [want_code (by have := HC.out; rw [DS.out]; omega) (by simp [h3]) h4]; decide)
end TopC
namespace TopC
open Go Go.RowKit Hp Sl TM WdC Fit
theorem TopForeign_law (xp : Option Addr) (len cap : Nat) (a1 a2 a3 : Int) (w : World) (hf : ∃ n, Fits Tryz.prog w n 22 [.slice xp len cap]) (h1 : (Lit.int .i64 a1).wf = true) (h2 : (Lit.int .i64 a2).wf = true) (h3 : (Lit.int .i64 a3).wf = true) :
    Calls Tryz.prog 8 #[.slice xp len cap, .int .i64 a1, .int .i64 a2, .int .i64 a3] w fun e w' => e = .returned (.bool true) ∧ Below w.heap.size w w' := by
  obtain ⟨_, hf⟩ := hf
  obtain ⟨hm, hp⟩ := mv_at hf
  exact TopForeign_walk xp len cap a1 a2 a3 w hm hp (i64_of h1) (i64_of h2) (i64_of h3)
end TopC
end Go.Proofs.YtinaliblnihpbaaGreat
