/- The walks and the plain laws of WdT. -/
import Derived.Test.YtinaliblnihpbaaGreatV17
set_option linter.unusedVariables false
set_option linter.unusedSimpArgs false
open Go.Lib (hid)
namespace Go.Proofs.YtinaliblnihpbaaGreat
namespace WdC
open Go Go.RowKit Gf Hp Sl Ow Rw TM BagC HostC DevC MemC ValveC EncW UEnc UDecW UnW ParW SlC
variable {G G' : Nat → Prop} {lab : Nat → Nat} {w w' : World} {a j : Nat} {b : Nat} {nh nd : Value} {mx : Int} {cv : Value} {ca : Nat} {cs : List CP} {bb : Nat} {fv : Value} {fa : Option Nat} {n : Nat} {xs : List Value} {x y : Wd}
theorem WAt.temps (h : WAt G lab w b nh nd mx cv ca cs bb fv fa n xs x) (hc : cs.length ≤ 40) (k : Kept [] w w') : WAt G (relab lab w 99) w' b nh nd mx cv ca cs bb fv fa n xs x := by
  have kg : KG (hand G lab w 99) w w' := .nil k
  have hl : ∀ i q, cs[i]? = some q → i < 40 := fun i q hq => Nat.lt_of_lt_of_le (List.getElem?_eq_some_iff.1 hq).1 hc
  exact ⟨(part_top ..).other h.t0 kg (by omega), (part_bag ..).other h.bag kg (by omega), h.len, fun i q hq => (part_host ..).other (h.host i q hq) kg (by have := hl i q hq; omega), fun i q hq => (part_dev ..).other (h.dev i q hq) kg (by have := hl i q hq; omega)⟩
theorem not_hand {w0 w : World} {i : Nat} (h1 : w0.heap.size ≤ i) (h2 : i < w.heap.size) (hne : 99 ≠ a) : ¬ hand G (relab lab w0 99) w a i := by
  rintro ⟨_, q | q⟩
  · omega
  · unfold relab at q; rw [if_neg (by omega)] at q; exact hne q
theorem keepD {R b i j : Nat} {u u' : Value} {w : World} (h : w.cell? ⟨b, j, none⟩ = some u) (hne : b ≠ R) : (w.setCell ⟨R, i, none⟩ u').drew.cell? ⟨b, j, none⟩ = some u := keepS h hne
theorem keepD2 {R b i i' j : Nat} {u u' u'' : Value} {w : World} (h : w.cell? ⟨b, j, none⟩ = some u) (hne : b ≠ R) : ((w.setCell ⟨R, i, none⟩ u').setCell ⟨R, i', none⟩ u'').drew.cell? ⟨b, j, none⟩ = some u := keepS (keepS h hne) hne
theorem three {w : World} {R : Nat} {T : TypeId} {v0 v1 v2 : Value} (h : Has w R T [v0, v1, v2]) : w.cell? ⟨R, 0, none⟩ = some v0 ∧ w.cell? ⟨R, 1, none⟩ = some v1 ∧ w.cell? ⟨R, 2, none⟩ = some v2 := ⟨h.cell 0 rfl, h.cell 1 rfl, h.cell 2 rfl⟩
theorem WAt.at0 {k : Nat} {p : CP} (h : WAt G lab w b nh nd mx cv ca cs bb fv fa n xs x) (hp : cs[k]? = some p) : w.cell? ⟨ca, k * 3, none⟩ = some (.pointer (some ⟨p.h, 0, none⟩)) ∧ w.cell? ⟨ca, k * 3 + 1, none⟩ = some (.pointer (some ⟨p.d, 0, none⟩)) ∧ w.cell? ⟨ca, k * 3 + 2, none⟩ = some (.pointer (some ⟨p.m, 0, none⟩)) := by
  obtain ⟨_, _, _, _, h1, h2, h3⟩ := h.at_ hp; exact ⟨h1, h2, h3⟩
theorem skT {R k cap : Nat} {p : CP} {mv : Mv} {dp : Option Addr} {dl dc : Nat} (HA : Hid (WAt G lab w b nh nd mx (.slice (some ⟨ca, 0, none⟩) cs.length cap) ca cs bb fv fa n xs x)) (MA : Hid (Has w R 38 [.int .i64 mv.kind, .int .i64 (k : Int), .int .i64 mv.side, .int .i64 mv.frame, .int .i64 mv.at', .int .u32 mv.word, .int .i64 mv.n, .bool mv.hold, .slice dp dl dc])) (HP : Hid (cs[k]? = some p)) : ∀ w', Kept [] w w' → (w'.cell? ⟨b, 3, none⟩ = some (.slice (some ⟨ca, 0, none⟩) cs.length cap) ∧ w'.cell? ⟨R, 1, none⟩ = some (.int .i64 (k : Int)) ∧ w'.cell? ⟨ca, k * 3, none⟩ = some (.pointer (some ⟨p.h, 0, none⟩)) ∧ w'.cell? ⟨ca, k * 3 + 1, none⟩ = some (.pointer (some ⟨p.d, 0, none⟩)) ∧ w'.cell? ⟨ca, k * 3 + 2, none⟩ = some (.pointer (some ⟨p.m, 0, none⟩))) := fun w' q => ⟨(q.has HA.out.t0.top (by simp)).cell 3 rfl, (q.has MA.out (by simp)).cell 1 rfl, ((HA.out.nil q).at0 HP.out).1, ((HA.out.nil q).at0 HP.out).2.1, ((HA.out.nil q).at0 HP.out).2.2⟩
set_option maxRecDepth 100000 in
set_option maxHeartbeats 1600000 in
theorem touch5h {k : Nat} {p : CP} (hG : Opn G w) (h : WAt G lab w b nh nd mx cv ca cs bb fv fa n xs x) (hp : cs[k]? = some p) (hn : n ≤ 1000000) (mv : Mv) (dp : Option Addr) (dl dc : Nat) (hk : mv.conn = (k : Int)) (hc : cs.length ≤ 40) (h1 : mv.kind = 5) (h2 : mv.side = 1) (h3 : 0 ≤ mv.n ∧ mv.n ≤ 1048576) :
    Calls Tryz.prog 42 #[.pointer (some ⟨b, 0, none⟩), mvV mv dp dl dc] w fun e w' => e = .returned (.int .i64 (0)) ∧ KG G w w' ∧ ∃ n', n' ≤ n + 1 ∧ WF G w' b nh nd mx cv ca cs bb n' (x.setC k { x.cn k with h := (x.cn k).h.tick mv.n }) := by
  obtain ⟨cap, rfl, hle, hkl, _, _, _⟩ := h.at_ hp
  have HH := hid h
  have HG := hid hG
  have HP := hid hp
  have HN := hid hn
  have q3 : (k : Int) < (cs.length : Int) := by omega
  have q4 : (0 : Int) ≤ (k : Int) := by omega
  have Xhc := hid hc
  have Xh1 := hid h1
  have Xh2 := hid h2
  have Xh3 := hid h3
  unfold mvV
  rw [hk]
  clear h hG hp hn hk hc h1 h2 h3
  go_enter Tryz.func42, Tryz.ntmps42
  go_wp2_with fail
  have KA := hid ((Kept.refl [] w).alloc (.cells #[.int .i64 mv.kind, .int .i64 (k : Int), .int .i64 mv.side, .int .i64 mv.frame, .int .i64 mv.at', .int .u32 mv.word, .int .i64 mv.n, .bool mv.hold, .slice dp dl dc] 38))
  have MA := hid (Has.new w 38 [.int .i64 mv.kind, .int .i64 (k : Int), .int .i64 mv.side, .int .i64 mv.frame, .int .i64 mv.at', .int .u32 mv.word, .int .i64 mv.n, .bool mv.hold, .slice dp dl dc])
  have HA := hid (HH.out.nil KA.out)
  generalize w.alloc (.cells #[.int .i64 mv.kind, .int .i64 (k : Int), .int .i64 mv.side, .int .i64 mv.frame, .int .i64 mv.at', .int .u32 mv.word, .int .i64 mv.n, .bool mv.hold, .slice dp dl dc] 38) = wa at KA MA HA ⊢
  obtain ⟨R, hR⟩ : ∃ R, R = w.heap.size := ⟨_, rfl⟩
  rw [← hR] at MA ⊢
  have RR := hid (Nat.le_of_eq hR.symm)
  clear hR
  have SK := hid (skT HA MA HP)
  have dd := SK.out _ ((Kept.refl [] wa).drew)
  have KZ := hid ((Kept.refl [] wa).alloc (.cells #[.pointer none, .pointer none, .pointer none] 92))
  have KC := hid (((Kept.refl [] wa).alloc (.cells #[.pointer (some ⟨p.h, 0, none⟩), .pointer (some ⟨p.d, 0, none⟩), .pointer (some ⟨p.m, 0, none⟩)] 92)))
  go_region_held3 (fun w' => w'.cell? ⟨b, 3, none⟩ = some (.slice (some ⟨ca, 0, none⟩) cs.length cap) ∧ w'.cell? ⟨R, 1, none⟩ = some (.int .i64 (k : Int)) ∧ w'.cell? ⟨ca, k * 3, none⟩ = some (.pointer (some ⟨p.h, 0, none⟩)) ∧ w'.cell? ⟨ca, k * 3 + 1, none⟩ = some (.pointer (some ⟨p.d, 0, none⟩)) ∧ w'.cell? ⟨ca, k * 3 + 2, none⟩ = some (.pointer (some ⟨p.m, 0, none⟩))) (first | with_reducible assumption | with_reducible exact SK.out _ KZ.out.drew | with_reducible exact SK.out _ KC.out.drew | with_reducible exact SK.out _ KC.out | go_keep) (fail)
  clear dd
  change Exit.then _ _ Exit.normal _ (wa.alloc (.cells #[.pointer (some ⟨p.h, 0, none⟩), .pointer (some ⟨p.d, 0, none⟩), .pointer (some ⟨p.m, 0, none⟩)] 92)).drew
  have CB := hid ((Has.new wa 92 [.pointer (some ⟨p.h, 0, none⟩), .pointer (some ⟨p.d, 0, none⟩), .pointer (some ⟨p.m, 0, none⟩)]).drew)
  have MB := hid (KC.out.drew.has MA.out (by simp))
  have HB := hid (HA.out.nil KC.out.drew)
  have KB := hid (KA.out.trans KC.out.drew)
  have CB : Hid (Has (wa.alloc (.cells #[.pointer (some ⟨p.h, 0, none⟩), .pointer (some ⟨p.d, 0, none⟩), .pointer (some ⟨p.m, 0, none⟩)] 92)).drew wa.heap.size 92 [.pointer (some ⟨p.h, 0, none⟩), .pointer (some ⟨p.d, 0, none⟩), .pointer (some ⟨p.m, 0, none⟩)]) := CB
  generalize (wa.alloc (.cells #[.pointer (some ⟨p.h, 0, none⟩), .pointer (some ⟨p.d, 0, none⟩), .pointer (some ⟨p.m, 0, none⟩)] 92)).drew = wb at CB MB HB KB ⊢
  generalize wa.heap.size = Z at CB ⊢
  obtain ⟨z0, z1, z2⟩ := three CB.out
  have m0 := MB.out.cell 0 rfl
  have m1 := MB.out.cell 1 rfl
  have m2 := MB.out.cell 2 rfl
  have m3 := MB.out.cell 3 rfl
  have m4 := MB.out.cell 4 rfl
  have m5 := MB.out.cell 5 rfl
  have m6 := MB.out.cell 6 rfl
  have m7 := MB.out.cell 7 rfl
  have m8 := MB.out.cell 8 rfl
  have bz := CB.out.lt
  have br := MB.out.lt
  have k5 : (mv.kind == 5) = true := by have := Xh1.out; simp [this]
  go_wp2_with fail
  have KF := hid ((Kept.refl [] wb).alloc (.cells #[.int .i64 0, .int .i64 (k : Int), .int .i64 mv.side, .int .u32 0, .int .u32 0, .bool false, .int .i64 0, .slice none 0 0] 153))
  have FB := hid (Has.new wb 153 [.int .i64 0, .int .i64 (k : Int), .int .i64 mv.side, .int .u32 0, .int .u32 0, .bool false, .int .i64 0, .slice none 0 0])
  have CC := hid (KF.out.has CB.out (by simp))
  have MC := hid (KF.out.has MB.out (by simp))
  have KC2 := hid (KB.out.trans KF.out)
  clear z0 z1 z2 m0 m1 m2 m3 m4 m5 m6 m7 m8 bz br
  generalize wb.alloc (.cells #[.int .i64 0, .int .i64 (k : Int), .int .i64 mv.side, .int .u32 0, .int .u32 0, .bool false, .int .i64 0, .slice none 0 0] 153) = wc at FB CC MC KC2 ⊢
  have FR := hid KB.out.size
  generalize wb.heap.size = F at FB FR ⊢
  have f0 := FB.out.cell 0 rfl
  have g0 := FB.out.free 0
  have f4 := FB.out.cell 4 rfl
  have g4 := FB.out.free 4
  have fd0 : wc.drew.cell? ⟨F, 0, none⟩ = some (.int .i64 0) := f0
  have gd0 : wc.drew.frozen? ⟨F, 0, none⟩ = false := g0
  have fd4 : wc.drew.cell? ⟨F, 4, none⟩ = some (.int .u32 0) := f4
  have gd4 : wc.drew.frozen? ⟨F, 4, none⟩ = false := g4
  have m6 : wc.cell? ⟨R, 6, none⟩ = some (.int .i64 mv.n) := MC.out.cell 6 rfl
  have dd : wc.drew.cell? ⟨R, 6, none⟩ = some (.int .i64 mv.n) := m6
  have nR : R ≠ F := Ow.Has.ne MC.out FB.out (by decide)
  go_region_held3 (fun w' => w'.cell? ⟨R, 6, none⟩ = some (.int .i64 mv.n)) (first | with_reducible assumption | with_reducible exact keepD m6 nR | with_reducible exact keepD2 m6 nR) (fail)
  clear f0 g0 f4 g4 fd0 gd0 fd4 gd4 m6 dd nR
  obtain ⟨nn, hnn⟩ : ∃ nn, nn = IntKind.u32.wrap mv.n := ⟨_, rfl⟩
  rw [← hnn]
  clear hnn
  have ks := hid ((((Kept.refl [F] wc).set ⟨F, 0, none⟩ (.int .i64 5) (by simp)).set ⟨F, 4, none⟩ (.int .u32 nn) (by simp)).drew)
  have FD := hid (((FB.out.set 0 (.int .i64 5)).set 4 (.int .u32 nn)).drew)
  have FD : Hid (Has ((wc.setCell ⟨F, 0, none⟩ (.int .i64 5)).setCell ⟨F, 4, none⟩ (.int .u32 nn)).drew F 153 [.int .i64 5, .int .i64 (k : Int), .int .i64 mv.side, .int .u32 0, .int .u32 nn, .bool false, .int .i64 0, .slice none 0 0]) := FD
  generalize ((wc.setCell ⟨F, 0, none⟩ (.int .i64 5)).setCell ⟨F, 4, none⟩ (.int .u32 nn)).drew = wd at ks FD ⊢
  have KD := hid (KC2.out.fresh ks.out (fun i hi hl => by simp at hi; subst hi; exact absurd hl (Nat.not_lt.2 FR.out)))
  have CD := hid (ks.out.has CC.out (by simpa using Ow.Has.ne CC.out FB.out (by decide)))
  have MD := hid (ks.out.has MC.out (by simpa using Ow.Has.ne MC.out FB.out (by decide)))
  have HD := hid (HH.out.temps Xhc.out KD.out)
  have GD := hid (HG.out.step KD.out.size)
  have FRw := hid (show w.heap.size ≤ F ∧ w.heap.size ≤ R from ⟨FR.out, RR.out⟩)
  obtain ⟨z0, z1, z2⟩ := three CD.out
  have m2 := MD.out.cell 2 rfl
  have m6 := MD.out.cell 6 rfl
  have e2 : (mv.side == 1) = true := by have := Xh2.out; simp [this]
  go_wp2_with fail
  refine (host_tick (opn_hand (lab := relab lab w 99) (a := 2 + 2 * k) GD.out) ((part_host ..).pre (HD.out.host k p HP.out)) mv.n Xh3.out.1 Xh3.out.2).mono ?_
  rintro e we ⟨rfl, k1, h1⟩
  have H1 := hid (HD.out.setH HP.out k1 h1)
  have K1 := hid ((KG.nil KD.out).trans (kg_hand k1))
  have F1 := hid (k1.has FD.out (not_hand FRw.out.1 FD.out.lt (by have := Xhc.out; have := q3; omega)))
  have M1 := hid (k1.has MD.out (not_hand FRw.out.2 MD.out.lt (by have := Xhc.out; have := q3; omega)))
  clear k1 h1 z0 z1 z2 m2 m6
  have m0 := M1.out.cell 0 rfl
  have NC := hid (note_call (HG.out.kg K1.out) H1.out HN.out 5 (k : Int) mv.side 0 nn false 0 none 0 0)
  unfold fval at NC
  have f0 := F1.out.cell 0 rfl
  have f1 := F1.out.cell 1 rfl
  have f2 := F1.out.cell 2 rfl
  have f3 := F1.out.cell 3 rfl
  have f4 := F1.out.cell 4 rfl
  have f5 := F1.out.cell 5 rfl
  have f6 := F1.out.cell 6 rfl
  have f7 := F1.out.cell 7 rfl
  go_wp2_with fail
  refine NC.out.mono ?_
  rintro e wf ⟨rfl, k2, h2⟩
  have K2 := hid (K1.out.trans k2)
  have H2 := hid h2
  clear k2 h2
  go_wp2_with fail
  go_ret
  exact ⟨rfl, K2.out, n + 1, Nat.le_refl _, H2.out⟩
set_option maxRecDepth 100000 in
set_option maxHeartbeats 1600000 in
theorem touch5dy {k : Nat} {p : CP} (hG : Opn G w) (h : WAt G lab w b nh nd mx cv ca cs bb fv fa n xs x) (hp : cs[k]? = some p) (hn : n ≤ 1000000) (mv : Mv) (dp : Option Addr) (dl dc : Nat) (hk : mv.conn = (k : Int)) (hc : cs.length ≤ 40) (h1 : mv.kind = 5) (h2 : mv.side ≠ 1) (h3 : 0 ≤ mv.n ∧ mv.n ≤ 1048576) (hr : ((x.cn k).d.tick mv.n).2 = 0) :
    Calls Tryz.prog 42 #[.pointer (some ⟨b, 0, none⟩), mvV mv dp dl dc] w fun e w' => e = .returned (.int .i64 (((x.cn k).d.tick mv.n).2)) ∧ KG G w w' ∧ ∃ n', n' ≤ n + 1 ∧ WF G w' b nh nd mx cv ca cs bb n' (x.setC k { x.cn k with d := ((x.cn k).d.tick mv.n).1 }) := by
  obtain ⟨cap, rfl, hle, hkl, _, _, _⟩ := h.at_ hp
  have HH := hid h
  have HG := hid hG
  have HP := hid hp
  have HN := hid hn
  have q3 : (k : Int) < (cs.length : Int) := by omega
  have q4 : (0 : Int) ≤ (k : Int) := by omega
  have Xhc := hid hc
  have Xh1 := hid h1
  have Xh2 := hid h2
  have Xh3 := hid h3
  have Xhr := hid hr
  unfold mvV
  rw [hk]
  clear h hG hp hn hk hc h1 h2 h3 hr
  go_enter Tryz.func42, Tryz.ntmps42
  go_wp2_with fail
  have KA := hid ((Kept.refl [] w).alloc (.cells #[.int .i64 mv.kind, .int .i64 (k : Int), .int .i64 mv.side, .int .i64 mv.frame, .int .i64 mv.at', .int .u32 mv.word, .int .i64 mv.n, .bool mv.hold, .slice dp dl dc] 38))
  have MA := hid (Has.new w 38 [.int .i64 mv.kind, .int .i64 (k : Int), .int .i64 mv.side, .int .i64 mv.frame, .int .i64 mv.at', .int .u32 mv.word, .int .i64 mv.n, .bool mv.hold, .slice dp dl dc])
  have HA := hid (HH.out.nil KA.out)
  generalize w.alloc (.cells #[.int .i64 mv.kind, .int .i64 (k : Int), .int .i64 mv.side, .int .i64 mv.frame, .int .i64 mv.at', .int .u32 mv.word, .int .i64 mv.n, .bool mv.hold, .slice dp dl dc] 38) = wa at KA MA HA ⊢
  obtain ⟨R, hR⟩ : ∃ R, R = w.heap.size := ⟨_, rfl⟩
  rw [← hR] at MA ⊢
  have RR := hid (Nat.le_of_eq hR.symm)
  clear hR
  have SK := hid (skT HA MA HP)
  have dd := SK.out _ ((Kept.refl [] wa).drew)
  have KZ := hid ((Kept.refl [] wa).alloc (.cells #[.pointer none, .pointer none, .pointer none] 92))
  have KC := hid (((Kept.refl [] wa).alloc (.cells #[.pointer (some ⟨p.h, 0, none⟩), .pointer (some ⟨p.d, 0, none⟩), .pointer (some ⟨p.m, 0, none⟩)] 92)))
  go_region_held3 (fun w' => w'.cell? ⟨b, 3, none⟩ = some (.slice (some ⟨ca, 0, none⟩) cs.length cap) ∧ w'.cell? ⟨R, 1, none⟩ = some (.int .i64 (k : Int)) ∧ w'.cell? ⟨ca, k * 3, none⟩ = some (.pointer (some ⟨p.h, 0, none⟩)) ∧ w'.cell? ⟨ca, k * 3 + 1, none⟩ = some (.pointer (some ⟨p.d, 0, none⟩)) ∧ w'.cell? ⟨ca, k * 3 + 2, none⟩ = some (.pointer (some ⟨p.m, 0, none⟩))) (first | with_reducible assumption | with_reducible exact SK.out _ KZ.out.drew | with_reducible exact SK.out _ KC.out.drew | with_reducible exact SK.out _ KC.out | go_keep) (fail)
  clear dd
  change Exit.then _ _ Exit.normal _ (wa.alloc (.cells #[.pointer (some ⟨p.h, 0, none⟩), .pointer (some ⟨p.d, 0, none⟩), .pointer (some ⟨p.m, 0, none⟩)] 92)).drew
  have CB := hid ((Has.new wa 92 [.pointer (some ⟨p.h, 0, none⟩), .pointer (some ⟨p.d, 0, none⟩), .pointer (some ⟨p.m, 0, none⟩)]).drew)
  have MB := hid (KC.out.drew.has MA.out (by simp))
  have HB := hid (HA.out.nil KC.out.drew)
  have KB := hid (KA.out.trans KC.out.drew)
  have CB : Hid (Has (wa.alloc (.cells #[.pointer (some ⟨p.h, 0, none⟩), .pointer (some ⟨p.d, 0, none⟩), .pointer (some ⟨p.m, 0, none⟩)] 92)).drew wa.heap.size 92 [.pointer (some ⟨p.h, 0, none⟩), .pointer (some ⟨p.d, 0, none⟩), .pointer (some ⟨p.m, 0, none⟩)]) := CB
  generalize (wa.alloc (.cells #[.pointer (some ⟨p.h, 0, none⟩), .pointer (some ⟨p.d, 0, none⟩), .pointer (some ⟨p.m, 0, none⟩)] 92)).drew = wb at CB MB HB KB ⊢
  generalize wa.heap.size = Z at CB ⊢
  obtain ⟨z0, z1, z2⟩ := three CB.out
  have m0 := MB.out.cell 0 rfl
  have m1 := MB.out.cell 1 rfl
  have m2 := MB.out.cell 2 rfl
  have m3 := MB.out.cell 3 rfl
  have m4 := MB.out.cell 4 rfl
  have m5 := MB.out.cell 5 rfl
  have m6 := MB.out.cell 6 rfl
  have m7 := MB.out.cell 7 rfl
  have m8 := MB.out.cell 8 rfl
  have bz := CB.out.lt
  have br := MB.out.lt
  have k5 : (mv.kind == 5) = true := by have := Xh1.out; simp [this]
  have eR : (((x.cn k).d.tick mv.n).2 == 0) = true := by have := Xhr.out; simp [this]
  go_wp2_with fail
  have KF := hid ((Kept.refl [] wb).alloc (.cells #[.int .i64 0, .int .i64 (k : Int), .int .i64 mv.side, .int .u32 0, .int .u32 0, .bool false, .int .i64 0, .slice none 0 0] 153))
  have FB := hid (Has.new wb 153 [.int .i64 0, .int .i64 (k : Int), .int .i64 mv.side, .int .u32 0, .int .u32 0, .bool false, .int .i64 0, .slice none 0 0])
  have CC := hid (KF.out.has CB.out (by simp))
  have MC := hid (KF.out.has MB.out (by simp))
  have KC2 := hid (KB.out.trans KF.out)
  clear z0 z1 z2 m0 m1 m2 m3 m4 m5 m6 m7 m8 bz br
  generalize wb.alloc (.cells #[.int .i64 0, .int .i64 (k : Int), .int .i64 mv.side, .int .u32 0, .int .u32 0, .bool false, .int .i64 0, .slice none 0 0] 153) = wc at FB CC MC KC2 ⊢
  have FR := hid KB.out.size
  generalize wb.heap.size = F at FB FR ⊢
  have f0 := FB.out.cell 0 rfl
  have g0 := FB.out.free 0
  have f4 := FB.out.cell 4 rfl
  have g4 := FB.out.free 4
  have fd0 : wc.drew.cell? ⟨F, 0, none⟩ = some (.int .i64 0) := f0
  have gd0 : wc.drew.frozen? ⟨F, 0, none⟩ = false := g0
  have fd4 : wc.drew.cell? ⟨F, 4, none⟩ = some (.int .u32 0) := f4
  have gd4 : wc.drew.frozen? ⟨F, 4, none⟩ = false := g4
  have m6 : wc.cell? ⟨R, 6, none⟩ = some (.int .i64 mv.n) := MC.out.cell 6 rfl
  have dd : wc.drew.cell? ⟨R, 6, none⟩ = some (.int .i64 mv.n) := m6
  have nR : R ≠ F := Ow.Has.ne MC.out FB.out (by decide)
  go_region_held3 (fun w' => w'.cell? ⟨R, 6, none⟩ = some (.int .i64 mv.n)) (first | with_reducible assumption | with_reducible exact keepD m6 nR | with_reducible exact keepD2 m6 nR) (fail)
  clear f0 g0 f4 g4 fd0 gd0 fd4 gd4 m6 dd nR
  obtain ⟨nn, hnn⟩ : ∃ nn, nn = IntKind.u32.wrap mv.n := ⟨_, rfl⟩
  rw [← hnn]
  clear hnn
  have ks := hid ((((Kept.refl [F] wc).set ⟨F, 0, none⟩ (.int .i64 5) (by simp)).set ⟨F, 4, none⟩ (.int .u32 nn) (by simp)).drew)
  have FD := hid (((FB.out.set 0 (.int .i64 5)).set 4 (.int .u32 nn)).drew)
  have FD : Hid (Has ((wc.setCell ⟨F, 0, none⟩ (.int .i64 5)).setCell ⟨F, 4, none⟩ (.int .u32 nn)).drew F 153 [.int .i64 5, .int .i64 (k : Int), .int .i64 mv.side, .int .u32 0, .int .u32 nn, .bool false, .int .i64 0, .slice none 0 0]) := FD
  generalize ((wc.setCell ⟨F, 0, none⟩ (.int .i64 5)).setCell ⟨F, 4, none⟩ (.int .u32 nn)).drew = wd at ks FD ⊢
  have KD := hid (KC2.out.fresh ks.out (fun i hi hl => by simp at hi; subst hi; exact absurd hl (Nat.not_lt.2 FR.out)))
  have CD := hid (ks.out.has CC.out (by simpa using Ow.Has.ne CC.out FB.out (by decide)))
  have MD := hid (ks.out.has MC.out (by simpa using Ow.Has.ne MC.out FB.out (by decide)))
  have HD := hid (HH.out.temps Xhc.out KD.out)
  have GD := hid (HG.out.step KD.out.size)
  have FRw := hid (show w.heap.size ≤ F ∧ w.heap.size ≤ R from ⟨FR.out, RR.out⟩)
  obtain ⟨z0, z1, z2⟩ := three CD.out
  have m2 := MD.out.cell 2 rfl
  have m6 := MD.out.cell 6 rfl
  have e2 : (mv.side == 1) = false := by have := Xh2.out; simp [this]
  go_wp2_with fail
  refine (devM_tick (opn_hand (lab := relab lab w 99) (a := 3 + 2 * k) GD.out) ((part_dev ..).pre (HD.out.dev k p HP.out)) mv.n Xh3.out.1 Xh3.out.2).mono ?_
  rintro e we ⟨rfl, k1, h1⟩
  have H1 := hid (HD.out.setD HP.out k1 h1)
  have K1 := hid ((KG.nil KD.out).trans (kg_hand k1))
  have F1 := hid (k1.has FD.out (not_hand FRw.out.1 FD.out.lt (by have := Xhc.out; have := q3; omega)))
  have M1 := hid (k1.has MD.out (not_hand FRw.out.2 MD.out.lt (by have := Xhc.out; have := q3; omega)))
  clear k1 h1 z0 z1 z2 m2 m6
  have m0 := M1.out.cell 0 rfl
  have NC := hid (note_call (HG.out.kg K1.out) H1.out HN.out 5 (k : Int) mv.side 0 nn false 0 none 0 0)
  unfold fval at NC
  have f0 := F1.out.cell 0 rfl
  have f1 := F1.out.cell 1 rfl
  have f2 := F1.out.cell 2 rfl
  have f3 := F1.out.cell 3 rfl
  have f4 := F1.out.cell 4 rfl
  have f5 := F1.out.cell 5 rfl
  have f6 := F1.out.cell 6 rfl
  have f7 := F1.out.cell 7 rfl
  go_wp2_with fail
  refine NC.out.mono ?_
  rintro e wf ⟨rfl, k2, h2⟩
  have K2 := hid (K1.out.trans k2)
  have H2 := hid h2
  clear k2 h2
  go_wp2_with fail
  go_ret
  exact ⟨rfl, K2.out, n + 1, Nat.le_refl _, H2.out⟩
set_option maxRecDepth 100000 in
set_option maxHeartbeats 1600000 in
theorem touch5dn {k : Nat} {p : CP} (hG : Opn G w) (h : WAt G lab w b nh nd mx cv ca cs bb fv fa n xs x) (hp : cs[k]? = some p) (hn : n ≤ 1000000) (mv : Mv) (dp : Option Addr) (dl dc : Nat) (hk : mv.conn = (k : Int)) (hc : cs.length ≤ 40) (h1 : mv.kind = 5) (h2 : mv.side ≠ 1) (h3 : 0 ≤ mv.n ∧ mv.n ≤ 1048576) (hr : ((x.cn k).d.tick mv.n).2 ≠ 0) :
    Calls Tryz.prog 42 #[.pointer (some ⟨b, 0, none⟩), mvV mv dp dl dc] w fun e w' => e = .returned (.int .i64 (((x.cn k).d.tick mv.n).2)) ∧ KG G w w' ∧ ∃ n', n' ≤ n + 1 ∧ WF G w' b nh nd mx cv ca cs bb n' (x.setC k { x.cn k with d := ((x.cn k).d.tick mv.n).1 }) := by
  obtain ⟨cap, rfl, hle, hkl, _, _, _⟩ := h.at_ hp
  have HH := hid h
  have HG := hid hG
  have HP := hid hp
  have HN := hid hn
  have q3 : (k : Int) < (cs.length : Int) := by omega
  have q4 : (0 : Int) ≤ (k : Int) := by omega
  have Xhc := hid hc
  have Xh1 := hid h1
  have Xh2 := hid h2
  have Xh3 := hid h3
  have Xhr := hid hr
  unfold mvV
  rw [hk]
  clear h hG hp hn hk hc h1 h2 h3 hr
  go_enter Tryz.func42, Tryz.ntmps42
  go_wp2_with fail
  have KA := hid ((Kept.refl [] w).alloc (.cells #[.int .i64 mv.kind, .int .i64 (k : Int), .int .i64 mv.side, .int .i64 mv.frame, .int .i64 mv.at', .int .u32 mv.word, .int .i64 mv.n, .bool mv.hold, .slice dp dl dc] 38))
  have MA := hid (Has.new w 38 [.int .i64 mv.kind, .int .i64 (k : Int), .int .i64 mv.side, .int .i64 mv.frame, .int .i64 mv.at', .int .u32 mv.word, .int .i64 mv.n, .bool mv.hold, .slice dp dl dc])
  have HA := hid (HH.out.nil KA.out)
  generalize w.alloc (.cells #[.int .i64 mv.kind, .int .i64 (k : Int), .int .i64 mv.side, .int .i64 mv.frame, .int .i64 mv.at', .int .u32 mv.word, .int .i64 mv.n, .bool mv.hold, .slice dp dl dc] 38) = wa at KA MA HA ⊢
  obtain ⟨R, hR⟩ : ∃ R, R = w.heap.size := ⟨_, rfl⟩
  rw [← hR] at MA ⊢
  have RR := hid (Nat.le_of_eq hR.symm)
  clear hR
  have SK := hid (skT HA MA HP)
  have dd := SK.out _ ((Kept.refl [] wa).drew)
  have KZ := hid ((Kept.refl [] wa).alloc (.cells #[.pointer none, .pointer none, .pointer none] 92))
  have KC := hid (((Kept.refl [] wa).alloc (.cells #[.pointer (some ⟨p.h, 0, none⟩), .pointer (some ⟨p.d, 0, none⟩), .pointer (some ⟨p.m, 0, none⟩)] 92)))
  go_region_held3 (fun w' => w'.cell? ⟨b, 3, none⟩ = some (.slice (some ⟨ca, 0, none⟩) cs.length cap) ∧ w'.cell? ⟨R, 1, none⟩ = some (.int .i64 (k : Int)) ∧ w'.cell? ⟨ca, k * 3, none⟩ = some (.pointer (some ⟨p.h, 0, none⟩)) ∧ w'.cell? ⟨ca, k * 3 + 1, none⟩ = some (.pointer (some ⟨p.d, 0, none⟩)) ∧ w'.cell? ⟨ca, k * 3 + 2, none⟩ = some (.pointer (some ⟨p.m, 0, none⟩))) (first | with_reducible assumption | with_reducible exact SK.out _ KZ.out.drew | with_reducible exact SK.out _ KC.out.drew | with_reducible exact SK.out _ KC.out | go_keep) (fail)
  clear dd
  change Exit.then _ _ Exit.normal _ (wa.alloc (.cells #[.pointer (some ⟨p.h, 0, none⟩), .pointer (some ⟨p.d, 0, none⟩), .pointer (some ⟨p.m, 0, none⟩)] 92)).drew
  have CB := hid ((Has.new wa 92 [.pointer (some ⟨p.h, 0, none⟩), .pointer (some ⟨p.d, 0, none⟩), .pointer (some ⟨p.m, 0, none⟩)]).drew)
  have MB := hid (KC.out.drew.has MA.out (by simp))
  have HB := hid (HA.out.nil KC.out.drew)
  have KB := hid (KA.out.trans KC.out.drew)
  have CB : Hid (Has (wa.alloc (.cells #[.pointer (some ⟨p.h, 0, none⟩), .pointer (some ⟨p.d, 0, none⟩), .pointer (some ⟨p.m, 0, none⟩)] 92)).drew wa.heap.size 92 [.pointer (some ⟨p.h, 0, none⟩), .pointer (some ⟨p.d, 0, none⟩), .pointer (some ⟨p.m, 0, none⟩)]) := CB
  generalize (wa.alloc (.cells #[.pointer (some ⟨p.h, 0, none⟩), .pointer (some ⟨p.d, 0, none⟩), .pointer (some ⟨p.m, 0, none⟩)] 92)).drew = wb at CB MB HB KB ⊢
  generalize wa.heap.size = Z at CB ⊢
  obtain ⟨z0, z1, z2⟩ := three CB.out
  have m0 := MB.out.cell 0 rfl
  have m1 := MB.out.cell 1 rfl
  have m2 := MB.out.cell 2 rfl
  have m3 := MB.out.cell 3 rfl
  have m4 := MB.out.cell 4 rfl
  have m5 := MB.out.cell 5 rfl
  have m6 := MB.out.cell 6 rfl
  have m7 := MB.out.cell 7 rfl
  have m8 := MB.out.cell 8 rfl
  have bz := CB.out.lt
  have br := MB.out.lt
  have k5 : (mv.kind == 5) = true := by have := Xh1.out; simp [this]
  have eR : (((x.cn k).d.tick mv.n).2 == 0) = false := by have := Xhr.out; simp [this]
  go_wp2_with fail
  have KF := hid ((Kept.refl [] wb).alloc (.cells #[.int .i64 0, .int .i64 (k : Int), .int .i64 mv.side, .int .u32 0, .int .u32 0, .bool false, .int .i64 0, .slice none 0 0] 153))
  have FB := hid (Has.new wb 153 [.int .i64 0, .int .i64 (k : Int), .int .i64 mv.side, .int .u32 0, .int .u32 0, .bool false, .int .i64 0, .slice none 0 0])
  have CC := hid (KF.out.has CB.out (by simp))
  have MC := hid (KF.out.has MB.out (by simp))
  have KC2 := hid (KB.out.trans KF.out)
  clear z0 z1 z2 m0 m1 m2 m3 m4 m5 m6 m7 m8 bz br
  generalize wb.alloc (.cells #[.int .i64 0, .int .i64 (k : Int), .int .i64 mv.side, .int .u32 0, .int .u32 0, .bool false, .int .i64 0, .slice none 0 0] 153) = wc at FB CC MC KC2 ⊢
  have FR := hid KB.out.size
  generalize wb.heap.size = F at FB FR ⊢
  have f0 := FB.out.cell 0 rfl
  have g0 := FB.out.free 0
  have f4 := FB.out.cell 4 rfl
  have g4 := FB.out.free 4
  have fd0 : wc.drew.cell? ⟨F, 0, none⟩ = some (.int .i64 0) := f0
  have gd0 : wc.drew.frozen? ⟨F, 0, none⟩ = false := g0
  have fd4 : wc.drew.cell? ⟨F, 4, none⟩ = some (.int .u32 0) := f4
  have gd4 : wc.drew.frozen? ⟨F, 4, none⟩ = false := g4
  have m6 : wc.cell? ⟨R, 6, none⟩ = some (.int .i64 mv.n) := MC.out.cell 6 rfl
  have dd : wc.drew.cell? ⟨R, 6, none⟩ = some (.int .i64 mv.n) := m6
  have nR : R ≠ F := Ow.Has.ne MC.out FB.out (by decide)
  go_region_held3 (fun w' => w'.cell? ⟨R, 6, none⟩ = some (.int .i64 mv.n)) (first | with_reducible assumption | with_reducible exact keepD m6 nR | with_reducible exact keepD2 m6 nR) (fail)
  clear f0 g0 f4 g4 fd0 gd0 fd4 gd4 m6 dd nR
  obtain ⟨nn, hnn⟩ : ∃ nn, nn = IntKind.u32.wrap mv.n := ⟨_, rfl⟩
  rw [← hnn]
  clear hnn
  have ks := hid ((((Kept.refl [F] wc).set ⟨F, 0, none⟩ (.int .i64 5) (by simp)).set ⟨F, 4, none⟩ (.int .u32 nn) (by simp)).drew)
  have FD := hid (((FB.out.set 0 (.int .i64 5)).set 4 (.int .u32 nn)).drew)
  have FD : Hid (Has ((wc.setCell ⟨F, 0, none⟩ (.int .i64 5)).setCell ⟨F, 4, none⟩ (.int .u32 nn)).drew F 153 [.int .i64 5, .int .i64 (k : Int), .int .i64 mv.side, .int .u32 0, .int .u32 nn, .bool false, .int .i64 0, .slice none 0 0]) := FD
  generalize ((wc.setCell ⟨F, 0, none⟩ (.int .i64 5)).setCell ⟨F, 4, none⟩ (.int .u32 nn)).drew = wd at ks FD ⊢
  have KD := hid (KC2.out.fresh ks.out (fun i hi hl => by simp at hi; subst hi; exact absurd hl (Nat.not_lt.2 FR.out)))
  have CD := hid (ks.out.has CC.out (by simpa using Ow.Has.ne CC.out FB.out (by decide)))
  have MD := hid (ks.out.has MC.out (by simpa using Ow.Has.ne MC.out FB.out (by decide)))
  have HD := hid (HH.out.temps Xhc.out KD.out)
  have GD := hid (HG.out.step KD.out.size)
  have FRw := hid (show w.heap.size ≤ F ∧ w.heap.size ≤ R from ⟨FR.out, RR.out⟩)
  obtain ⟨z0, z1, z2⟩ := three CD.out
  have m2 := MD.out.cell 2 rfl
  have m6 := MD.out.cell 6 rfl
  have e2 : (mv.side == 1) = false := by have := Xh2.out; simp [this]
  go_wp2_with fail
  refine (devM_tick (opn_hand (lab := relab lab w 99) (a := 3 + 2 * k) GD.out) ((part_dev ..).pre (HD.out.dev k p HP.out)) mv.n Xh3.out.1 Xh3.out.2).mono ?_
  rintro e we ⟨rfl, k1, h1⟩
  have H1 := hid (HD.out.setD HP.out k1 h1)
  have K1 := hid ((KG.nil KD.out).trans (kg_hand k1))
  have F1 := hid (k1.has FD.out (not_hand FRw.out.1 FD.out.lt (by have := Xhc.out; have := q3; omega)))
  have M1 := hid (k1.has MD.out (not_hand FRw.out.2 MD.out.lt (by have := Xhc.out; have := q3; omega)))
  clear k1 h1 z0 z1 z2 m2 m6
  have m0 := M1.out.cell 0 rfl
  go_wp2_with fail
  go_ret
  exact ⟨rfl, K1.out, n, Nat.le_succ _, _, _, _, _, H1.out⟩
set_option maxRecDepth 100000 in
set_option maxHeartbeats 1600000 in
theorem touch6hy {k : Nat} {p : CP} (hG : Opn G w) (h : WAt G lab w b nh nd mx cv ca cs bb fv fa n xs x) (hp : cs[k]? = some p) (hn : n ≤ 1000000) (mv : Mv) (dp : Option Addr) (dl dc : Nat) (hk : mv.conn = (k : Int)) (hc : cs.length ≤ 40) (h1 : mv.kind = 6) (h2 : mv.side = 1) (hr : (x.cn k).h.ack.2 = 0) :
    Calls Tryz.prog 42 #[.pointer (some ⟨b, 0, none⟩), mvV mv dp dl dc] w fun e w' => e = .returned (.int .i64 ((x.cn k).h.ack.2)) ∧ KG G w w' ∧ ∃ n', n' ≤ n + 1 ∧ WF G w' b nh nd mx cv ca cs bb n' (x.setC k { x.cn k with h := (x.cn k).h.ack.1 }) := by
  obtain ⟨cap, rfl, hle, hkl, _, _, _⟩ := h.at_ hp
  have HH := hid h
  have HG := hid hG
  have HP := hid hp
  have HN := hid hn
  have q3 : (k : Int) < (cs.length : Int) := by omega
  have q4 : (0 : Int) ≤ (k : Int) := by omega
  have Xhc := hid hc
  have Xh1 := hid h1
  have Xh2 := hid h2
  have Xhr := hid hr
  unfold mvV
  rw [hk]
  clear h hG hp hn hk hc h1 h2 hr
  go_enter Tryz.func42, Tryz.ntmps42
  go_wp2_with fail
  have KA := hid ((Kept.refl [] w).alloc (.cells #[.int .i64 mv.kind, .int .i64 (k : Int), .int .i64 mv.side, .int .i64 mv.frame, .int .i64 mv.at', .int .u32 mv.word, .int .i64 mv.n, .bool mv.hold, .slice dp dl dc] 38))
  have MA := hid (Has.new w 38 [.int .i64 mv.kind, .int .i64 (k : Int), .int .i64 mv.side, .int .i64 mv.frame, .int .i64 mv.at', .int .u32 mv.word, .int .i64 mv.n, .bool mv.hold, .slice dp dl dc])
  have HA := hid (HH.out.nil KA.out)
  generalize w.alloc (.cells #[.int .i64 mv.kind, .int .i64 (k : Int), .int .i64 mv.side, .int .i64 mv.frame, .int .i64 mv.at', .int .u32 mv.word, .int .i64 mv.n, .bool mv.hold, .slice dp dl dc] 38) = wa at KA MA HA ⊢
  obtain ⟨R, hR⟩ : ∃ R, R = w.heap.size := ⟨_, rfl⟩
  rw [← hR] at MA ⊢
  have RR := hid (Nat.le_of_eq hR.symm)
  clear hR
  have SK := hid (skT HA MA HP)
  have dd := SK.out _ ((Kept.refl [] wa).drew)
  have KZ := hid ((Kept.refl [] wa).alloc (.cells #[.pointer none, .pointer none, .pointer none] 92))
  have KC := hid (((Kept.refl [] wa).alloc (.cells #[.pointer (some ⟨p.h, 0, none⟩), .pointer (some ⟨p.d, 0, none⟩), .pointer (some ⟨p.m, 0, none⟩)] 92)))
  go_region_held3 (fun w' => w'.cell? ⟨b, 3, none⟩ = some (.slice (some ⟨ca, 0, none⟩) cs.length cap) ∧ w'.cell? ⟨R, 1, none⟩ = some (.int .i64 (k : Int)) ∧ w'.cell? ⟨ca, k * 3, none⟩ = some (.pointer (some ⟨p.h, 0, none⟩)) ∧ w'.cell? ⟨ca, k * 3 + 1, none⟩ = some (.pointer (some ⟨p.d, 0, none⟩)) ∧ w'.cell? ⟨ca, k * 3 + 2, none⟩ = some (.pointer (some ⟨p.m, 0, none⟩))) (first | with_reducible assumption | with_reducible exact SK.out _ KZ.out.drew | with_reducible exact SK.out _ KC.out.drew | with_reducible exact SK.out _ KC.out | go_keep) (fail)
  clear dd
  change Exit.then _ _ Exit.normal _ (wa.alloc (.cells #[.pointer (some ⟨p.h, 0, none⟩), .pointer (some ⟨p.d, 0, none⟩), .pointer (some ⟨p.m, 0, none⟩)] 92)).drew
  have CB := hid ((Has.new wa 92 [.pointer (some ⟨p.h, 0, none⟩), .pointer (some ⟨p.d, 0, none⟩), .pointer (some ⟨p.m, 0, none⟩)]).drew)
  have MB := hid (KC.out.drew.has MA.out (by simp))
  have HB := hid (HA.out.nil KC.out.drew)
  have KB := hid (KA.out.trans KC.out.drew)
  have CB : Hid (Has (wa.alloc (.cells #[.pointer (some ⟨p.h, 0, none⟩), .pointer (some ⟨p.d, 0, none⟩), .pointer (some ⟨p.m, 0, none⟩)] 92)).drew wa.heap.size 92 [.pointer (some ⟨p.h, 0, none⟩), .pointer (some ⟨p.d, 0, none⟩), .pointer (some ⟨p.m, 0, none⟩)]) := CB
  generalize (wa.alloc (.cells #[.pointer (some ⟨p.h, 0, none⟩), .pointer (some ⟨p.d, 0, none⟩), .pointer (some ⟨p.m, 0, none⟩)] 92)).drew = wb at CB MB HB KB ⊢
  generalize wa.heap.size = Z at CB ⊢
  obtain ⟨z0, z1, z2⟩ := three CB.out
  have m0 := MB.out.cell 0 rfl
  have m1 := MB.out.cell 1 rfl
  have m2 := MB.out.cell 2 rfl
  have m3 := MB.out.cell 3 rfl
  have m4 := MB.out.cell 4 rfl
  have m5 := MB.out.cell 5 rfl
  have m6 := MB.out.cell 6 rfl
  have m7 := MB.out.cell 7 rfl
  have m8 := MB.out.cell 8 rfl
  have bz := CB.out.lt
  have br := MB.out.lt
  have k5 : (mv.kind == 5) = false := by have := Xh1.out; simp [this]
  have k6 : (mv.kind == 6) = true := by have := Xh1.out; simp [this]
  have eR : ((x.cn k).h.ack.2 == 0) = true := by have := Xhr.out; simp [this]
  have e2 : (mv.side == 1) = true := by have := Xh2.out; simp [this]
  go_wp2_with fail
  have KF := hid ((Kept.refl [] wb).alloc (.cells #[.int .i64 6, .int .i64 (k : Int), .int .i64 mv.side, .int .u32 0, .int .u32 0, .bool false, .int .i64 0, .slice none 0 0] 153))
  have FB := hid (Has.new wb 153 [.int .i64 6, .int .i64 (k : Int), .int .i64 mv.side, .int .u32 0, .int .u32 0, .bool false, .int .i64 0, .slice none 0 0])
  have CC := hid (KF.out.has CB.out (by simp))
  have MC := hid (KF.out.has MB.out (by simp))
  have KC2 := hid (KB.out.trans KF.out)
  clear z0 z1 z2 m0 m1 m2 m3 m4 m5 m6 m7 m8 bz br
  generalize wb.alloc (.cells #[.int .i64 6, .int .i64 (k : Int), .int .i64 mv.side, .int .u32 0, .int .u32 0, .bool false, .int .i64 0, .slice none 0 0] 153) = wd at FB CC MC KC2 ⊢
  have FR := hid KB.out.size
  generalize wb.heap.size = F at FB FR ⊢
  have ks := hid (Kept.refl [F] wd)
  have FD := hid FB.out
  have KD := hid (KC2.out.fresh ks.out (fun i hi hl => by simp at hi; subst hi; exact absurd hl (Nat.not_lt.2 FR.out)))
  have CD := hid (ks.out.has CC.out (by simpa using Ow.Has.ne CC.out FB.out (by decide)))
  have MD := hid (ks.out.has MC.out (by simpa using Ow.Has.ne MC.out FB.out (by decide)))
  have HD := hid (HH.out.temps Xhc.out KD.out)
  have GD := hid (HG.out.step KD.out.size)
  have FRw := hid (show w.heap.size ≤ F ∧ w.heap.size ≤ R from ⟨FR.out, RR.out⟩)
  obtain ⟨z0, z1, z2⟩ := three CD.out
  have m2 := MD.out.cell 2 rfl
  have m6 := MD.out.cell 6 rfl
  have e2 : (mv.side == 1) = true := by have := Xh2.out; simp [this]
  refine (host_ack (opn_hand (lab := relab lab w 99) (a := 2 + 2 * k) GD.out) ((part_host ..).pre (HD.out.host k p HP.out))).mono ?_
  rintro e we ⟨rfl, k1, h1⟩
  have H1 := hid (HD.out.setH HP.out k1 h1)
  have K1 := hid ((KG.nil KD.out).trans (kg_hand k1))
  have F1 := hid (k1.has FD.out (not_hand FRw.out.1 FD.out.lt (by have := Xhc.out; have := q3; omega)))
  have M1 := hid (k1.has MD.out (not_hand FRw.out.2 MD.out.lt (by have := Xhc.out; have := q3; omega)))
  clear k1 h1 z0 z1 z2 m2 m6
  have m0 := M1.out.cell 0 rfl
  have NC := hid (note_call (HG.out.kg K1.out) H1.out HN.out 6 (k : Int) mv.side 0 0 false 0 none 0 0)
  unfold fval at NC
  have f0 := F1.out.cell 0 rfl
  have f1 := F1.out.cell 1 rfl
  have f2 := F1.out.cell 2 rfl
  have f3 := F1.out.cell 3 rfl
  have f4 := F1.out.cell 4 rfl
  have f5 := F1.out.cell 5 rfl
  have f6 := F1.out.cell 6 rfl
  have f7 := F1.out.cell 7 rfl
  go_wp2_with fail
  refine NC.out.mono ?_
  rintro e wf ⟨rfl, k2, h2⟩
  have K2 := hid (K1.out.trans k2)
  have H2 := hid h2
  clear k2 h2
  go_wp2_with fail
  go_ret
  exact ⟨rfl, K2.out, n + 1, Nat.le_refl _, H2.out⟩
set_option maxRecDepth 100000 in
set_option maxHeartbeats 1600000 in
theorem touch6hn {k : Nat} {p : CP} (hG : Opn G w) (h : WAt G lab w b nh nd mx cv ca cs bb fv fa n xs x) (hp : cs[k]? = some p) (hn : n ≤ 1000000) (mv : Mv) (dp : Option Addr) (dl dc : Nat) (hk : mv.conn = (k : Int)) (hc : cs.length ≤ 40) (h1 : mv.kind = 6) (h2 : mv.side = 1) (hr : (x.cn k).h.ack.2 ≠ 0) :
    Calls Tryz.prog 42 #[.pointer (some ⟨b, 0, none⟩), mvV mv dp dl dc] w fun e w' => e = .returned (.int .i64 ((x.cn k).h.ack.2)) ∧ KG G w w' ∧ ∃ n', n' ≤ n + 1 ∧ WF G w' b nh nd mx cv ca cs bb n' (x.setC k { x.cn k with h := (x.cn k).h.ack.1 }) := by
  obtain ⟨cap, rfl, hle, hkl, _, _, _⟩ := h.at_ hp
  have HH := hid h
  have HG := hid hG
  have HP := hid hp
  have HN := hid hn
  have q3 : (k : Int) < (cs.length : Int) := by omega
  have q4 : (0 : Int) ≤ (k : Int) := by omega
  have Xhc := hid hc
  have Xh1 := hid h1
  have Xh2 := hid h2
  have Xhr := hid hr
  unfold mvV
  rw [hk]
  clear h hG hp hn hk hc h1 h2 hr
  go_enter Tryz.func42, Tryz.ntmps42
  go_wp2_with fail
  have KA := hid ((Kept.refl [] w).alloc (.cells #[.int .i64 mv.kind, .int .i64 (k : Int), .int .i64 mv.side, .int .i64 mv.frame, .int .i64 mv.at', .int .u32 mv.word, .int .i64 mv.n, .bool mv.hold, .slice dp dl dc] 38))
  have MA := hid (Has.new w 38 [.int .i64 mv.kind, .int .i64 (k : Int), .int .i64 mv.side, .int .i64 mv.frame, .int .i64 mv.at', .int .u32 mv.word, .int .i64 mv.n, .bool mv.hold, .slice dp dl dc])
  have HA := hid (HH.out.nil KA.out)
  generalize w.alloc (.cells #[.int .i64 mv.kind, .int .i64 (k : Int), .int .i64 mv.side, .int .i64 mv.frame, .int .i64 mv.at', .int .u32 mv.word, .int .i64 mv.n, .bool mv.hold, .slice dp dl dc] 38) = wa at KA MA HA ⊢
  obtain ⟨R, hR⟩ : ∃ R, R = w.heap.size := ⟨_, rfl⟩
  rw [← hR] at MA ⊢
  have RR := hid (Nat.le_of_eq hR.symm)
  clear hR
  have SK := hid (skT HA MA HP)
  have dd := SK.out _ ((Kept.refl [] wa).drew)
  have KZ := hid ((Kept.refl [] wa).alloc (.cells #[.pointer none, .pointer none, .pointer none] 92))
  have KC := hid (((Kept.refl [] wa).alloc (.cells #[.pointer (some ⟨p.h, 0, none⟩), .pointer (some ⟨p.d, 0, none⟩), .pointer (some ⟨p.m, 0, none⟩)] 92)))
  go_region_held3 (fun w' => w'.cell? ⟨b, 3, none⟩ = some (.slice (some ⟨ca, 0, none⟩) cs.length cap) ∧ w'.cell? ⟨R, 1, none⟩ = some (.int .i64 (k : Int)) ∧ w'.cell? ⟨ca, k * 3, none⟩ = some (.pointer (some ⟨p.h, 0, none⟩)) ∧ w'.cell? ⟨ca, k * 3 + 1, none⟩ = some (.pointer (some ⟨p.d, 0, none⟩)) ∧ w'.cell? ⟨ca, k * 3 + 2, none⟩ = some (.pointer (some ⟨p.m, 0, none⟩))) (first | with_reducible assumption | with_reducible exact SK.out _ KZ.out.drew | with_reducible exact SK.out _ KC.out.drew | with_reducible exact SK.out _ KC.out | go_keep) (fail)
  clear dd
  change Exit.then _ _ Exit.normal _ (wa.alloc (.cells #[.pointer (some ⟨p.h, 0, none⟩), .pointer (some ⟨p.d, 0, none⟩), .pointer (some ⟨p.m, 0, none⟩)] 92)).drew
  have CB := hid ((Has.new wa 92 [.pointer (some ⟨p.h, 0, none⟩), .pointer (some ⟨p.d, 0, none⟩), .pointer (some ⟨p.m, 0, none⟩)]).drew)
  have MB := hid (KC.out.drew.has MA.out (by simp))
  have HB := hid (HA.out.nil KC.out.drew)
  have KB := hid (KA.out.trans KC.out.drew)
  have CB : Hid (Has (wa.alloc (.cells #[.pointer (some ⟨p.h, 0, none⟩), .pointer (some ⟨p.d, 0, none⟩), .pointer (some ⟨p.m, 0, none⟩)] 92)).drew wa.heap.size 92 [.pointer (some ⟨p.h, 0, none⟩), .pointer (some ⟨p.d, 0, none⟩), .pointer (some ⟨p.m, 0, none⟩)]) := CB
  generalize (wa.alloc (.cells #[.pointer (some ⟨p.h, 0, none⟩), .pointer (some ⟨p.d, 0, none⟩), .pointer (some ⟨p.m, 0, none⟩)] 92)).drew = wb at CB MB HB KB ⊢
  generalize wa.heap.size = Z at CB ⊢
  obtain ⟨z0, z1, z2⟩ := three CB.out
  have m0 := MB.out.cell 0 rfl
  have m1 := MB.out.cell 1 rfl
  have m2 := MB.out.cell 2 rfl
  have m3 := MB.out.cell 3 rfl
  have m4 := MB.out.cell 4 rfl
  have m5 := MB.out.cell 5 rfl
  have m6 := MB.out.cell 6 rfl
  have m7 := MB.out.cell 7 rfl
  have m8 := MB.out.cell 8 rfl
  have bz := CB.out.lt
  have br := MB.out.lt
  have k5 : (mv.kind == 5) = false := by have := Xh1.out; simp [this]
  have k6 : (mv.kind == 6) = true := by have := Xh1.out; simp [this]
  have eR : ((x.cn k).h.ack.2 == 0) = false := by have := Xhr.out; simp [this]
  have e2 : (mv.side == 1) = true := by have := Xh2.out; simp [this]
  go_wp2_with fail
  have KF := hid ((Kept.refl [] wb).alloc (.cells #[.int .i64 6, .int .i64 (k : Int), .int .i64 mv.side, .int .u32 0, .int .u32 0, .bool false, .int .i64 0, .slice none 0 0] 153))
  have FB := hid (Has.new wb 153 [.int .i64 6, .int .i64 (k : Int), .int .i64 mv.side, .int .u32 0, .int .u32 0, .bool false, .int .i64 0, .slice none 0 0])
  have CC := hid (KF.out.has CB.out (by simp))
  have MC := hid (KF.out.has MB.out (by simp))
  have KC2 := hid (KB.out.trans KF.out)
  clear z0 z1 z2 m0 m1 m2 m3 m4 m5 m6 m7 m8 bz br
  generalize wb.alloc (.cells #[.int .i64 6, .int .i64 (k : Int), .int .i64 mv.side, .int .u32 0, .int .u32 0, .bool false, .int .i64 0, .slice none 0 0] 153) = wd at FB CC MC KC2 ⊢
  have FR := hid KB.out.size
  generalize wb.heap.size = F at FB FR ⊢
  have ks := hid (Kept.refl [F] wd)
  have FD := hid FB.out
  have KD := hid (KC2.out.fresh ks.out (fun i hi hl => by simp at hi; subst hi; exact absurd hl (Nat.not_lt.2 FR.out)))
  have CD := hid (ks.out.has CC.out (by simpa using Ow.Has.ne CC.out FB.out (by decide)))
  have MD := hid (ks.out.has MC.out (by simpa using Ow.Has.ne MC.out FB.out (by decide)))
  have HD := hid (HH.out.temps Xhc.out KD.out)
  have GD := hid (HG.out.step KD.out.size)
  have FRw := hid (show w.heap.size ≤ F ∧ w.heap.size ≤ R from ⟨FR.out, RR.out⟩)
  obtain ⟨z0, z1, z2⟩ := three CD.out
  have m2 := MD.out.cell 2 rfl
  have m6 := MD.out.cell 6 rfl
  have e2 : (mv.side == 1) = true := by have := Xh2.out; simp [this]
  refine (host_ack (opn_hand (lab := relab lab w 99) (a := 2 + 2 * k) GD.out) ((part_host ..).pre (HD.out.host k p HP.out))).mono ?_
  rintro e we ⟨rfl, k1, h1⟩
  have H1 := hid (HD.out.setH HP.out k1 h1)
  have K1 := hid ((KG.nil KD.out).trans (kg_hand k1))
  have F1 := hid (k1.has FD.out (not_hand FRw.out.1 FD.out.lt (by have := Xhc.out; have := q3; omega)))
  have M1 := hid (k1.has MD.out (not_hand FRw.out.2 MD.out.lt (by have := Xhc.out; have := q3; omega)))
  clear k1 h1 z0 z1 z2 m2 m6
  have m0 := M1.out.cell 0 rfl
  go_wp2_with fail
  go_ret
  exact ⟨rfl, K1.out, n, Nat.le_succ _, _, _, _, _, H1.out⟩
set_option maxRecDepth 100000 in
set_option maxHeartbeats 1600000 in
theorem touch6dy {k : Nat} {p : CP} (hG : Opn G w) (h : WAt G lab w b nh nd mx cv ca cs bb fv fa n xs x) (hp : cs[k]? = some p) (hn : n ≤ 1000000) (mv : Mv) (dp : Option Addr) (dl dc : Nat) (hk : mv.conn = (k : Int)) (hc : cs.length ≤ 40) (h1 : mv.kind = 6) (h2 : mv.side ≠ 1) (hr : (x.cn k).d.ack.2 = 0) :
    Calls Tryz.prog 42 #[.pointer (some ⟨b, 0, none⟩), mvV mv dp dl dc] w fun e w' => e = .returned (.int .i64 ((x.cn k).d.ack.2)) ∧ KG G w w' ∧ ∃ n', n' ≤ n + 1 ∧ WF G w' b nh nd mx cv ca cs bb n' (x.setC k { x.cn k with d := (x.cn k).d.ack.1 }) := by
  obtain ⟨cap, rfl, hle, hkl, _, _, _⟩ := h.at_ hp
  have HH := hid h
  have HG := hid hG
  have HP := hid hp
  have HN := hid hn
  have q3 : (k : Int) < (cs.length : Int) := by omega
  have q4 : (0 : Int) ≤ (k : Int) := by omega
  have Xhc := hid hc
  have Xh1 := hid h1
  have Xh2 := hid h2
  have Xhr := hid hr
  unfold mvV
  rw [hk]
  clear h hG hp hn hk hc h1 h2 hr
  go_enter Tryz.func42, Tryz.ntmps42
  go_wp2_with fail
  have KA := hid ((Kept.refl [] w).alloc (.cells #[.int .i64 mv.kind, .int .i64 (k : Int), .int .i64 mv.side, .int .i64 mv.frame, .int .i64 mv.at', .int .u32 mv.word, .int .i64 mv.n, .bool mv.hold, .slice dp dl dc] 38))
  have MA := hid (Has.new w 38 [.int .i64 mv.kind, .int .i64 (k : Int), .int .i64 mv.side, .int .i64 mv.frame, .int .i64 mv.at', .int .u32 mv.word, .int .i64 mv.n, .bool mv.hold, .slice dp dl dc])
  have HA := hid (HH.out.nil KA.out)
  generalize w.alloc (.cells #[.int .i64 mv.kind, .int .i64 (k : Int), .int .i64 mv.side, .int .i64 mv.frame, .int .i64 mv.at', .int .u32 mv.word, .int .i64 mv.n, .bool mv.hold, .slice dp dl dc] 38) = wa at KA MA HA ⊢
  obtain ⟨R, hR⟩ : ∃ R, R = w.heap.size := ⟨_, rfl⟩
  rw [← hR] at MA ⊢
  have RR := hid (Nat.le_of_eq hR.symm)
  clear hR
  have SK := hid (skT HA MA HP)
  have dd := SK.out _ ((Kept.refl [] wa).drew)
  have KZ := hid ((Kept.refl [] wa).alloc (.cells #[.pointer none, .pointer none, .pointer none] 92))
  have KC := hid (((Kept.refl [] wa).alloc (.cells #[.pointer (some ⟨p.h, 0, none⟩), .pointer (some ⟨p.d, 0, none⟩), .pointer (some ⟨p.m, 0, none⟩)] 92)))
  go_region_held3 (fun w' => w'.cell? ⟨b, 3, none⟩ = some (.slice (some ⟨ca, 0, none⟩) cs.length cap) ∧ w'.cell? ⟨R, 1, none⟩ = some (.int .i64 (k : Int)) ∧ w'.cell? ⟨ca, k * 3, none⟩ = some (.pointer (some ⟨p.h, 0, none⟩)) ∧ w'.cell? ⟨ca, k * 3 + 1, none⟩ = some (.pointer (some ⟨p.d, 0, none⟩)) ∧ w'.cell? ⟨ca, k * 3 + 2, none⟩ = some (.pointer (some ⟨p.m, 0, none⟩))) (first | with_reducible assumption | with_reducible exact SK.out _ KZ.out.drew | with_reducible exact SK.out _ KC.out.drew | with_reducible exact SK.out _ KC.out | go_keep) (fail)
  clear dd
  change Exit.then _ _ Exit.normal _ (wa.alloc (.cells #[.pointer (some ⟨p.h, 0, none⟩), .pointer (some ⟨p.d, 0, none⟩), .pointer (some ⟨p.m, 0, none⟩)] 92)).drew
  have CB := hid ((Has.new wa 92 [.pointer (some ⟨p.h, 0, none⟩), .pointer (some ⟨p.d, 0, none⟩), .pointer (some ⟨p.m, 0, none⟩)]).drew)
  have MB := hid (KC.out.drew.has MA.out (by simp))
  have HB := hid (HA.out.nil KC.out.drew)
  have KB := hid (KA.out.trans KC.out.drew)
  have CB : Hid (Has (wa.alloc (.cells #[.pointer (some ⟨p.h, 0, none⟩), .pointer (some ⟨p.d, 0, none⟩), .pointer (some ⟨p.m, 0, none⟩)] 92)).drew wa.heap.size 92 [.pointer (some ⟨p.h, 0, none⟩), .pointer (some ⟨p.d, 0, none⟩), .pointer (some ⟨p.m, 0, none⟩)]) := CB
  generalize (wa.alloc (.cells #[.pointer (some ⟨p.h, 0, none⟩), .pointer (some ⟨p.d, 0, none⟩), .pointer (some ⟨p.m, 0, none⟩)] 92)).drew = wb at CB MB HB KB ⊢
  generalize wa.heap.size = Z at CB ⊢
  obtain ⟨z0, z1, z2⟩ := three CB.out
  have m0 := MB.out.cell 0 rfl
  have m1 := MB.out.cell 1 rfl
  have m2 := MB.out.cell 2 rfl
  have m3 := MB.out.cell 3 rfl
  have m4 := MB.out.cell 4 rfl
  have m5 := MB.out.cell 5 rfl
  have m6 := MB.out.cell 6 rfl
  have m7 := MB.out.cell 7 rfl
  have m8 := MB.out.cell 8 rfl
  have bz := CB.out.lt
  have br := MB.out.lt
  have k5 : (mv.kind == 5) = false := by have := Xh1.out; simp [this]
  have k6 : (mv.kind == 6) = true := by have := Xh1.out; simp [this]
  have eR : ((x.cn k).d.ack.2 == 0) = true := by have := Xhr.out; simp [this]
  have e2 : (mv.side == 1) = false := by have := Xh2.out; simp [this]
  go_wp2_with fail
  have KF := hid ((Kept.refl [] wb).alloc (.cells #[.int .i64 6, .int .i64 (k : Int), .int .i64 mv.side, .int .u32 0, .int .u32 0, .bool false, .int .i64 0, .slice none 0 0] 153))
  have FB := hid (Has.new wb 153 [.int .i64 6, .int .i64 (k : Int), .int .i64 mv.side, .int .u32 0, .int .u32 0, .bool false, .int .i64 0, .slice none 0 0])
  have CC := hid (KF.out.has CB.out (by simp))
  have MC := hid (KF.out.has MB.out (by simp))
  have KC2 := hid (KB.out.trans KF.out)
  clear z0 z1 z2 m0 m1 m2 m3 m4 m5 m6 m7 m8 bz br
  generalize wb.alloc (.cells #[.int .i64 6, .int .i64 (k : Int), .int .i64 mv.side, .int .u32 0, .int .u32 0, .bool false, .int .i64 0, .slice none 0 0] 153) = wd at FB CC MC KC2 ⊢
  have FR := hid KB.out.size
  generalize wb.heap.size = F at FB FR ⊢
  have ks := hid (Kept.refl [F] wd)
  have FD := hid FB.out
  have KD := hid (KC2.out.fresh ks.out (fun i hi hl => by simp at hi; subst hi; exact absurd hl (Nat.not_lt.2 FR.out)))
  have CD := hid (ks.out.has CC.out (by simpa using Ow.Has.ne CC.out FB.out (by decide)))
  have MD := hid (ks.out.has MC.out (by simpa using Ow.Has.ne MC.out FB.out (by decide)))
  have HD := hid (HH.out.temps Xhc.out KD.out)
  have GD := hid (HG.out.step KD.out.size)
  have FRw := hid (show w.heap.size ≤ F ∧ w.heap.size ≤ R from ⟨FR.out, RR.out⟩)
  obtain ⟨z0, z1, z2⟩ := three CD.out
  have m2 := MD.out.cell 2 rfl
  have m6 := MD.out.cell 6 rfl
  have e2 : (mv.side == 1) = false := by have := Xh2.out; simp [this]
  refine (devM_ack (opn_hand (lab := relab lab w 99) (a := 3 + 2 * k) GD.out) ((part_dev ..).pre (HD.out.dev k p HP.out))).mono ?_
  rintro e we ⟨rfl, k1, h1⟩
  have H1 := hid (HD.out.setD HP.out k1 h1)
  have K1 := hid ((KG.nil KD.out).trans (kg_hand k1))
  have F1 := hid (k1.has FD.out (not_hand FRw.out.1 FD.out.lt (by have := Xhc.out; have := q3; omega)))
  have M1 := hid (k1.has MD.out (not_hand FRw.out.2 MD.out.lt (by have := Xhc.out; have := q3; omega)))
  clear k1 h1 z0 z1 z2 m2 m6
  have m0 := M1.out.cell 0 rfl
  have NC := hid (note_call (HG.out.kg K1.out) H1.out HN.out 6 (k : Int) mv.side 0 0 false 0 none 0 0)
  unfold fval at NC
  have f0 := F1.out.cell 0 rfl
  have f1 := F1.out.cell 1 rfl
  have f2 := F1.out.cell 2 rfl
  have f3 := F1.out.cell 3 rfl
  have f4 := F1.out.cell 4 rfl
  have f5 := F1.out.cell 5 rfl
  have f6 := F1.out.cell 6 rfl
  have f7 := F1.out.cell 7 rfl
  go_wp2_with fail
  refine NC.out.mono ?_
  rintro e wf ⟨rfl, k2, h2⟩
  have K2 := hid (K1.out.trans k2)
  have H2 := hid h2
  clear k2 h2
  go_wp2_with fail
  go_ret
  exact ⟨rfl, K2.out, n + 1, Nat.le_refl _, H2.out⟩
set_option maxRecDepth 100000 in
set_option maxHeartbeats 1600000 in
theorem touch6dn {k : Nat} {p : CP} (hG : Opn G w) (h : WAt G lab w b nh nd mx cv ca cs bb fv fa n xs x) (hp : cs[k]? = some p) (hn : n ≤ 1000000) (mv : Mv) (dp : Option Addr) (dl dc : Nat) (hk : mv.conn = (k : Int)) (hc : cs.length ≤ 40) (h1 : mv.kind = 6) (h2 : mv.side ≠ 1) (hr : (x.cn k).d.ack.2 ≠ 0) :
    Calls Tryz.prog 42 #[.pointer (some ⟨b, 0, none⟩), mvV mv dp dl dc] w fun e w' => e = .returned (.int .i64 ((x.cn k).d.ack.2)) ∧ KG G w w' ∧ ∃ n', n' ≤ n + 1 ∧ WF G w' b nh nd mx cv ca cs bb n' (x.setC k { x.cn k with d := (x.cn k).d.ack.1 }) := by
  obtain ⟨cap, rfl, hle, hkl, _, _, _⟩ := h.at_ hp
  have HH := hid h
  have HG := hid hG
  have HP := hid hp
  have HN := hid hn
  have q3 : (k : Int) < (cs.length : Int) := by omega
  have q4 : (0 : Int) ≤ (k : Int) := by omega
  have Xhc := hid hc
  have Xh1 := hid h1
  have Xh2 := hid h2
  have Xhr := hid hr
  unfold mvV
  rw [hk]
  clear h hG hp hn hk hc h1 h2 hr
  go_enter Tryz.func42, Tryz.ntmps42
  go_wp2_with fail
  have KA := hid ((Kept.refl [] w).alloc (.cells #[.int .i64 mv.kind, .int .i64 (k : Int), .int .i64 mv.side, .int .i64 mv.frame, .int .i64 mv.at', .int .u32 mv.word, .int .i64 mv.n, .bool mv.hold, .slice dp dl dc] 38))
  have MA := hid (Has.new w 38 [.int .i64 mv.kind, .int .i64 (k : Int), .int .i64 mv.side, .int .i64 mv.frame, .int .i64 mv.at', .int .u32 mv.word, .int .i64 mv.n, .bool mv.hold, .slice dp dl dc])
  have HA := hid (HH.out.nil KA.out)
  generalize w.alloc (.cells #[.int .i64 mv.kind, .int .i64 (k : Int), .int .i64 mv.side, .int .i64 mv.frame, .int .i64 mv.at', .int .u32 mv.word, .int .i64 mv.n, .bool mv.hold, .slice dp dl dc] 38) = wa at KA MA HA ⊢
  obtain ⟨R, hR⟩ : ∃ R, R = w.heap.size := ⟨_, rfl⟩
  rw [← hR] at MA ⊢
  have RR := hid (Nat.le_of_eq hR.symm)
  clear hR
  have SK := hid (skT HA MA HP)
  have dd := SK.out _ ((Kept.refl [] wa).drew)
  have KZ := hid ((Kept.refl [] wa).alloc (.cells #[.pointer none, .pointer none, .pointer none] 92))
  have KC := hid (((Kept.refl [] wa).alloc (.cells #[.pointer (some ⟨p.h, 0, none⟩), .pointer (some ⟨p.d, 0, none⟩), .pointer (some ⟨p.m, 0, none⟩)] 92)))
  go_region_held3 (fun w' => w'.cell? ⟨b, 3, none⟩ = some (.slice (some ⟨ca, 0, none⟩) cs.length cap) ∧ w'.cell? ⟨R, 1, none⟩ = some (.int .i64 (k : Int)) ∧ w'.cell? ⟨ca, k * 3, none⟩ = some (.pointer (some ⟨p.h, 0, none⟩)) ∧ w'.cell? ⟨ca, k * 3 + 1, none⟩ = some (.pointer (some ⟨p.d, 0, none⟩)) ∧ w'.cell? ⟨ca, k * 3 + 2, none⟩ = some (.pointer (some ⟨p.m, 0, none⟩))) (first | with_reducible assumption | with_reducible exact SK.out _ KZ.out.drew | with_reducible exact SK.out _ KC.out.drew | with_reducible exact SK.out _ KC.out | go_keep) (fail)
  clear dd
  change Exit.then _ _ Exit.normal _ (wa.alloc (.cells #[.pointer (some ⟨p.h, 0, none⟩), .pointer (some ⟨p.d, 0, none⟩), .pointer (some ⟨p.m, 0, none⟩)] 92)).drew
  have CB := hid ((Has.new wa 92 [.pointer (some ⟨p.h, 0, none⟩), .pointer (some ⟨p.d, 0, none⟩), .pointer (some ⟨p.m, 0, none⟩)]).drew)
  have MB := hid (KC.out.drew.has MA.out (by simp))
  have HB := hid (HA.out.nil KC.out.drew)
  have KB := hid (KA.out.trans KC.out.drew)
  have CB : Hid (Has (wa.alloc (.cells #[.pointer (some ⟨p.h, 0, none⟩), .pointer (some ⟨p.d, 0, none⟩), .pointer (some ⟨p.m, 0, none⟩)] 92)).drew wa.heap.size 92 [.pointer (some ⟨p.h, 0, none⟩), .pointer (some ⟨p.d, 0, none⟩), .pointer (some ⟨p.m, 0, none⟩)]) := CB
  generalize (wa.alloc (.cells #[.pointer (some ⟨p.h, 0, none⟩), .pointer (some ⟨p.d, 0, none⟩), .pointer (some ⟨p.m, 0, none⟩)] 92)).drew = wb at CB MB HB KB ⊢
  generalize wa.heap.size = Z at CB ⊢
  obtain ⟨z0, z1, z2⟩ := three CB.out
  have m0 := MB.out.cell 0 rfl
  have m1 := MB.out.cell 1 rfl
  have m2 := MB.out.cell 2 rfl
  have m3 := MB.out.cell 3 rfl
  have m4 := MB.out.cell 4 rfl
  have m5 := MB.out.cell 5 rfl
  have m6 := MB.out.cell 6 rfl
  have m7 := MB.out.cell 7 rfl
  have m8 := MB.out.cell 8 rfl
  have bz := CB.out.lt
  have br := MB.out.lt
  have k5 : (mv.kind == 5) = false := by have := Xh1.out; simp [this]
  have k6 : (mv.kind == 6) = true := by have := Xh1.out; simp [this]
  have eR : ((x.cn k).d.ack.2 == 0) = false := by have := Xhr.out; simp [this]
  have e2 : (mv.side == 1) = false := by have := Xh2.out; simp [this]
  go_wp2_with fail
  have KF := hid ((Kept.refl [] wb).alloc (.cells #[.int .i64 6, .int .i64 (k : Int), .int .i64 mv.side, .int .u32 0, .int .u32 0, .bool false, .int .i64 0, .slice none 0 0] 153))
  have FB := hid (Has.new wb 153 [.int .i64 6, .int .i64 (k : Int), .int .i64 mv.side, .int .u32 0, .int .u32 0, .bool false, .int .i64 0, .slice none 0 0])
  have CC := hid (KF.out.has CB.out (by simp))
  have MC := hid (KF.out.has MB.out (by simp))
  have KC2 := hid (KB.out.trans KF.out)
  clear z0 z1 z2 m0 m1 m2 m3 m4 m5 m6 m7 m8 bz br
  generalize wb.alloc (.cells #[.int .i64 6, .int .i64 (k : Int), .int .i64 mv.side, .int .u32 0, .int .u32 0, .bool false, .int .i64 0, .slice none 0 0] 153) = wd at FB CC MC KC2 ⊢
  have FR := hid KB.out.size
  generalize wb.heap.size = F at FB FR ⊢
  have ks := hid (Kept.refl [F] wd)
  have FD := hid FB.out
  have KD := hid (KC2.out.fresh ks.out (fun i hi hl => by simp at hi; subst hi; exact absurd hl (Nat.not_lt.2 FR.out)))
  have CD := hid (ks.out.has CC.out (by simpa using Ow.Has.ne CC.out FB.out (by decide)))
  have MD := hid (ks.out.has MC.out (by simpa using Ow.Has.ne MC.out FB.out (by decide)))
  have HD := hid (HH.out.temps Xhc.out KD.out)
  have GD := hid (HG.out.step KD.out.size)
  have FRw := hid (show w.heap.size ≤ F ∧ w.heap.size ≤ R from ⟨FR.out, RR.out⟩)
  obtain ⟨z0, z1, z2⟩ := three CD.out
  have m2 := MD.out.cell 2 rfl
  have m6 := MD.out.cell 6 rfl
  have e2 : (mv.side == 1) = false := by have := Xh2.out; simp [this]
  refine (devM_ack (opn_hand (lab := relab lab w 99) (a := 3 + 2 * k) GD.out) ((part_dev ..).pre (HD.out.dev k p HP.out))).mono ?_
  rintro e we ⟨rfl, k1, h1⟩
  have H1 := hid (HD.out.setD HP.out k1 h1)
  have K1 := hid ((KG.nil KD.out).trans (kg_hand k1))
  have F1 := hid (k1.has FD.out (not_hand FRw.out.1 FD.out.lt (by have := Xhc.out; have := q3; omega)))
  have M1 := hid (k1.has MD.out (not_hand FRw.out.2 MD.out.lt (by have := Xhc.out; have := q3; omega)))
  clear k1 h1 z0 z1 z2 m2 m6
  have m0 := M1.out.cell 0 rfl
  go_wp2_with fail
  go_ret
  exact ⟨rfl, K1.out, n, Nat.le_succ _, _, _, _, _, H1.out⟩
set_option maxRecDepth 100000 in
set_option maxHeartbeats 1600000 in
theorem touch7h {k : Nat} {p : CP} (hG : Opn G w) (h : WAt G lab w b nh nd mx cv ca cs bb fv fa n xs x) (hp : cs[k]? = some p) (hn : n ≤ 1000000) (mv : Mv) (dp : Option Addr) (dl dc : Nat) (hk : mv.conn = (k : Int)) (hc : cs.length ≤ 40) (h1 : mv.kind = 7) (h2 : mv.side = 1) (hx : HOk (x.cn k).h) :
    Calls Tryz.prog 42 #[.pointer (some ⟨b, 0, none⟩), mvV mv dp dl dc] w fun e w' => e = .returned (.int .i64 (0)) ∧ KG G w w' ∧ ∃ n', n' ≤ n + 1 ∧ WF G w' b nh nd mx cv ca cs bb n' (x.setC k { x.cn k with h := H.new (x.cn k).h.p }) := by
  obtain ⟨cap, rfl, hle, hkl, _, _, _⟩ := h.at_ hp
  have HH := hid h
  have HG := hid hG
  have HP := hid hp
  have HN := hid hn
  have q3 : (k : Int) < (cs.length : Int) := by omega
  have q4 : (0 : Int) ≤ (k : Int) := by omega
  have Xhc := hid hc
  have Xh1 := hid h1
  have Xh2 := hid h2
  have Xhx := hid hx
  unfold mvV
  rw [hk]
  clear h hG hp hn hk hc h1 h2 hx
  go_enter Tryz.func42, Tryz.ntmps42
  go_wp2_with fail
  have KA := hid ((Kept.refl [] w).alloc (.cells #[.int .i64 mv.kind, .int .i64 (k : Int), .int .i64 mv.side, .int .i64 mv.frame, .int .i64 mv.at', .int .u32 mv.word, .int .i64 mv.n, .bool mv.hold, .slice dp dl dc] 38))
  have MA := hid (Has.new w 38 [.int .i64 mv.kind, .int .i64 (k : Int), .int .i64 mv.side, .int .i64 mv.frame, .int .i64 mv.at', .int .u32 mv.word, .int .i64 mv.n, .bool mv.hold, .slice dp dl dc])
  have HA := hid (HH.out.nil KA.out)
  generalize w.alloc (.cells #[.int .i64 mv.kind, .int .i64 (k : Int), .int .i64 mv.side, .int .i64 mv.frame, .int .i64 mv.at', .int .u32 mv.word, .int .i64 mv.n, .bool mv.hold, .slice dp dl dc] 38) = wa at KA MA HA ⊢
  obtain ⟨R, hR⟩ : ∃ R, R = w.heap.size := ⟨_, rfl⟩
  rw [← hR] at MA ⊢
  have RR := hid (Nat.le_of_eq hR.symm)
  clear hR
  have SK := hid (skT HA MA HP)
  have dd := SK.out _ ((Kept.refl [] wa).drew)
  have KZ := hid ((Kept.refl [] wa).alloc (.cells #[.pointer none, .pointer none, .pointer none] 92))
  have KC := hid (((Kept.refl [] wa).alloc (.cells #[.pointer (some ⟨p.h, 0, none⟩), .pointer (some ⟨p.d, 0, none⟩), .pointer (some ⟨p.m, 0, none⟩)] 92)))
  go_region_held3 (fun w' => w'.cell? ⟨b, 3, none⟩ = some (.slice (some ⟨ca, 0, none⟩) cs.length cap) ∧ w'.cell? ⟨R, 1, none⟩ = some (.int .i64 (k : Int)) ∧ w'.cell? ⟨ca, k * 3, none⟩ = some (.pointer (some ⟨p.h, 0, none⟩)) ∧ w'.cell? ⟨ca, k * 3 + 1, none⟩ = some (.pointer (some ⟨p.d, 0, none⟩)) ∧ w'.cell? ⟨ca, k * 3 + 2, none⟩ = some (.pointer (some ⟨p.m, 0, none⟩))) (first | with_reducible assumption | with_reducible exact SK.out _ KZ.out.drew | with_reducible exact SK.out _ KC.out.drew | with_reducible exact SK.out _ KC.out | go_keep) (fail)
  clear dd
  change Exit.then _ _ Exit.normal _ (wa.alloc (.cells #[.pointer (some ⟨p.h, 0, none⟩), .pointer (some ⟨p.d, 0, none⟩), .pointer (some ⟨p.m, 0, none⟩)] 92)).drew
  have CB := hid ((Has.new wa 92 [.pointer (some ⟨p.h, 0, none⟩), .pointer (some ⟨p.d, 0, none⟩), .pointer (some ⟨p.m, 0, none⟩)]).drew)
  have MB := hid (KC.out.drew.has MA.out (by simp))
  have HB := hid (HA.out.nil KC.out.drew)
  have KB := hid (KA.out.trans KC.out.drew)
  have CB : Hid (Has (wa.alloc (.cells #[.pointer (some ⟨p.h, 0, none⟩), .pointer (some ⟨p.d, 0, none⟩), .pointer (some ⟨p.m, 0, none⟩)] 92)).drew wa.heap.size 92 [.pointer (some ⟨p.h, 0, none⟩), .pointer (some ⟨p.d, 0, none⟩), .pointer (some ⟨p.m, 0, none⟩)]) := CB
  generalize (wa.alloc (.cells #[.pointer (some ⟨p.h, 0, none⟩), .pointer (some ⟨p.d, 0, none⟩), .pointer (some ⟨p.m, 0, none⟩)] 92)).drew = wb at CB MB HB KB ⊢
  generalize wa.heap.size = Z at CB ⊢
  obtain ⟨z0, z1, z2⟩ := three CB.out
  have m0 := MB.out.cell 0 rfl
  have m1 := MB.out.cell 1 rfl
  have m2 := MB.out.cell 2 rfl
  have m3 := MB.out.cell 3 rfl
  have m4 := MB.out.cell 4 rfl
  have m5 := MB.out.cell 5 rfl
  have m6 := MB.out.cell 6 rfl
  have m7 := MB.out.cell 7 rfl
  have m8 := MB.out.cell 8 rfl
  have bz := CB.out.lt
  have br := MB.out.lt
  have k5 : (mv.kind == 5) = false := by have := Xh1.out; simp [this]
  have k6 : (mv.kind == 6) = false := by have := Xh1.out; simp [this]
  have k7 : (mv.kind == 7) = true := by have := Xh1.out; simp [this]
  have e2 : (mv.side == 1) = true := by have := Xh2.out; simp [this]
  go_wp2_with fail
  have KF := hid ((Kept.refl [] wb).alloc (.cells #[.int .i64 7, .int .i64 (k : Int), .int .i64 mv.side, .int .u32 0, .int .u32 0, .bool false, .int .i64 0, .slice none 0 0] 153))
  have FB := hid (Has.new wb 153 [.int .i64 7, .int .i64 (k : Int), .int .i64 mv.side, .int .u32 0, .int .u32 0, .bool false, .int .i64 0, .slice none 0 0])
  have CC := hid (KF.out.has CB.out (by simp))
  have MC := hid (KF.out.has MB.out (by simp))
  have KC2 := hid (KB.out.trans KF.out)
  clear z0 z1 z2 m0 m1 m2 m3 m4 m5 m6 m7 m8 bz br
  generalize wb.alloc (.cells #[.int .i64 7, .int .i64 (k : Int), .int .i64 mv.side, .int .u32 0, .int .u32 0, .bool false, .int .i64 0, .slice none 0 0] 153) = wd at FB CC MC KC2 ⊢
  have FR := hid KB.out.size
  generalize wb.heap.size = F at FB FR ⊢
  have ks := hid (Kept.refl [F] wd)
  have FD := hid FB.out
  have KD := hid (KC2.out.fresh ks.out (fun i hi hl => by simp at hi; subst hi; exact absurd hl (Nat.not_lt.2 FR.out)))
  have CD := hid (ks.out.has CC.out (by simpa using Ow.Has.ne CC.out FB.out (by decide)))
  have MD := hid (ks.out.has MC.out (by simpa using Ow.Has.ne MC.out FB.out (by decide)))
  have HD := hid (HH.out.temps Xhc.out KD.out)
  have GD := hid (HG.out.step KD.out.size)
  have FRw := hid (show w.heap.size ≤ F ∧ w.heap.size ≤ R from ⟨FR.out, RR.out⟩)
  obtain ⟨z0, z1, z2⟩ := three CD.out
  have m2 := MD.out.cell 2 rfl
  have m6 := MD.out.cell 6 rfl
  have e2 : (mv.side == 1) = true := by have := Xh2.out; simp [this]
  refine (host_reset (opn_hand (lab := relab lab w 99) (a := 2 + 2 * k) GD.out) ((part_host ..).pre (HD.out.host k p HP.out)) Xhx.out).mono ?_
  rintro e we ⟨rfl, k1, h1⟩
  have H1 := hid (HD.out.setH HP.out k1 h1)
  have K1 := hid ((KG.nil KD.out).trans (kg_hand k1))
  have F1 := hid (k1.has FD.out (not_hand FRw.out.1 FD.out.lt (by have := Xhc.out; have := q3; omega)))
  have M1 := hid (k1.has MD.out (not_hand FRw.out.2 MD.out.lt (by have := Xhc.out; have := q3; omega)))
  clear k1 h1 z0 z1 z2 m2 m6
  have m0 := M1.out.cell 0 rfl
  have NC := hid (note_call (HG.out.kg K1.out) H1.out HN.out 7 (k : Int) mv.side 0 0 false 0 none 0 0)
  unfold fval at NC
  have f0 := F1.out.cell 0 rfl
  have f1 := F1.out.cell 1 rfl
  have f2 := F1.out.cell 2 rfl
  have f3 := F1.out.cell 3 rfl
  have f4 := F1.out.cell 4 rfl
  have f5 := F1.out.cell 5 rfl
  have f6 := F1.out.cell 6 rfl
  have f7 := F1.out.cell 7 rfl
  go_wp2_with fail
  refine NC.out.mono ?_
  rintro e wf ⟨rfl, k2, h2⟩
  have K2 := hid (K1.out.trans k2)
  have H2 := hid h2
  clear k2 h2
  go_wp2_with fail
  go_ret
  exact ⟨rfl, K2.out, n + 1, Nat.le_refl _, H2.out⟩
set_option maxRecDepth 100000 in
set_option maxHeartbeats 1600000 in
theorem touch7dy {k : Nat} {p : CP} (hG : Opn G w) (h : WAt G lab w b nh nd mx cv ca cs bb fv fa n xs x) (hp : cs[k]? = some p) (hn : n ≤ 1000000) (mv : Mv) (dp : Option Addr) (dl dc : Nat) (hk : mv.conn = (k : Int)) (hc : cs.length ≤ 40) (h1 : mv.kind = 7) (h2 : mv.side ≠ 1) (hx : DOk (x.cn k).d) (h3 : 0 ≤ mv.n ∧ mv.n < 9223372036854775808) (hr : ((x.cn k).d.reset mv.n).2 = 0) :
    Calls Tryz.prog 42 #[.pointer (some ⟨b, 0, none⟩), mvV mv dp dl dc] w fun e w' => e = .returned (.int .i64 (((x.cn k).d.reset mv.n).2)) ∧ KG G w w' ∧ ∃ n', n' ≤ n + 1 ∧ WF G w' b nh nd mx cv ca cs bb n' (x.setC k { x.cn k with d := ((x.cn k).d.reset mv.n).1 }) := by
  obtain ⟨cap, rfl, hle, hkl, _, _, _⟩ := h.at_ hp
  have HH := hid h
  have HG := hid hG
  have HP := hid hp
  have HN := hid hn
  have q3 : (k : Int) < (cs.length : Int) := by omega
  have q4 : (0 : Int) ≤ (k : Int) := by omega
  have Xhc := hid hc
  have Xh1 := hid h1
  have Xh2 := hid h2
  have Xhx := hid hx
  have Xh3 := hid h3
  have Xhr := hid hr
  unfold mvV
  rw [hk]
  clear h hG hp hn hk hc h1 h2 hx h3 hr
  go_enter Tryz.func42, Tryz.ntmps42
  go_wp2_with fail
  have KA := hid ((Kept.refl [] w).alloc (.cells #[.int .i64 mv.kind, .int .i64 (k : Int), .int .i64 mv.side, .int .i64 mv.frame, .int .i64 mv.at', .int .u32 mv.word, .int .i64 mv.n, .bool mv.hold, .slice dp dl dc] 38))
  have MA := hid (Has.new w 38 [.int .i64 mv.kind, .int .i64 (k : Int), .int .i64 mv.side, .int .i64 mv.frame, .int .i64 mv.at', .int .u32 mv.word, .int .i64 mv.n, .bool mv.hold, .slice dp dl dc])
  have HA := hid (HH.out.nil KA.out)
  generalize w.alloc (.cells #[.int .i64 mv.kind, .int .i64 (k : Int), .int .i64 mv.side, .int .i64 mv.frame, .int .i64 mv.at', .int .u32 mv.word, .int .i64 mv.n, .bool mv.hold, .slice dp dl dc] 38) = wa at KA MA HA ⊢
  obtain ⟨R, hR⟩ : ∃ R, R = w.heap.size := ⟨_, rfl⟩
  rw [← hR] at MA ⊢
  have RR := hid (Nat.le_of_eq hR.symm)
  clear hR
  have SK := hid (skT HA MA HP)
  have dd := SK.out _ ((Kept.refl [] wa).drew)
  have KZ := hid ((Kept.refl [] wa).alloc (.cells #[.pointer none, .pointer none, .pointer none] 92))
  have KC := hid (((Kept.refl [] wa).alloc (.cells #[.pointer (some ⟨p.h, 0, none⟩), .pointer (some ⟨p.d, 0, none⟩), .pointer (some ⟨p.m, 0, none⟩)] 92)))
  go_region_held3 (fun w' => w'.cell? ⟨b, 3, none⟩ = some (.slice (some ⟨ca, 0, none⟩) cs.length cap) ∧ w'.cell? ⟨R, 1, none⟩ = some (.int .i64 (k : Int)) ∧ w'.cell? ⟨ca, k * 3, none⟩ = some (.pointer (some ⟨p.h, 0, none⟩)) ∧ w'.cell? ⟨ca, k * 3 + 1, none⟩ = some (.pointer (some ⟨p.d, 0, none⟩)) ∧ w'.cell? ⟨ca, k * 3 + 2, none⟩ = some (.pointer (some ⟨p.m, 0, none⟩))) (first | with_reducible assumption | with_reducible exact SK.out _ KZ.out.drew | with_reducible exact SK.out _ KC.out.drew | with_reducible exact SK.out _ KC.out | go_keep) (fail)
  clear dd
  change Exit.then _ _ Exit.normal _ (wa.alloc (.cells #[.pointer (some ⟨p.h, 0, none⟩), .pointer (some ⟨p.d, 0, none⟩), .pointer (some ⟨p.m, 0, none⟩)] 92)).drew
  have CB := hid ((Has.new wa 92 [.pointer (some ⟨p.h, 0, none⟩), .pointer (some ⟨p.d, 0, none⟩), .pointer (some ⟨p.m, 0, none⟩)]).drew)
  have MB := hid (KC.out.drew.has MA.out (by simp))
  have HB := hid (HA.out.nil KC.out.drew)
  have KB := hid (KA.out.trans KC.out.drew)
  have CB : Hid (Has (wa.alloc (.cells #[.pointer (some ⟨p.h, 0, none⟩), .pointer (some ⟨p.d, 0, none⟩), .pointer (some ⟨p.m, 0, none⟩)] 92)).drew wa.heap.size 92 [.pointer (some ⟨p.h, 0, none⟩), .pointer (some ⟨p.d, 0, none⟩), .pointer (some ⟨p.m, 0, none⟩)]) := CB
  generalize (wa.alloc (.cells #[.pointer (some ⟨p.h, 0, none⟩), .pointer (some ⟨p.d, 0, none⟩), .pointer (some ⟨p.m, 0, none⟩)] 92)).drew = wb at CB MB HB KB ⊢
  generalize wa.heap.size = Z at CB ⊢
  obtain ⟨z0, z1, z2⟩ := three CB.out
  have m0 := MB.out.cell 0 rfl
  have m1 := MB.out.cell 1 rfl
  have m2 := MB.out.cell 2 rfl
  have m3 := MB.out.cell 3 rfl
  have m4 := MB.out.cell 4 rfl
  have m5 := MB.out.cell 5 rfl
  have m6 := MB.out.cell 6 rfl
  have m7 := MB.out.cell 7 rfl
  have m8 := MB.out.cell 8 rfl
  have bz := CB.out.lt
  have br := MB.out.lt
  have k5 : (mv.kind == 5) = false := by have := Xh1.out; simp [this]
  have k6 : (mv.kind == 6) = false := by have := Xh1.out; simp [this]
  have k7 : (mv.kind == 7) = true := by have := Xh1.out; simp [this]
  have eR : (((x.cn k).d.reset mv.n).2 == 0) = true := by have := Xhr.out; simp [this]
  have e2 : (mv.side == 1) = false := by have := Xh2.out; simp [this]
  go_wp2_with fail
  have KF := hid ((Kept.refl [] wb).alloc (.cells #[.int .i64 7, .int .i64 (k : Int), .int .i64 mv.side, .int .u32 0, .int .u32 0, .bool false, .int .i64 0, .slice none 0 0] 153))
  have FB := hid (Has.new wb 153 [.int .i64 7, .int .i64 (k : Int), .int .i64 mv.side, .int .u32 0, .int .u32 0, .bool false, .int .i64 0, .slice none 0 0])
  have CC := hid (KF.out.has CB.out (by simp))
  have MC := hid (KF.out.has MB.out (by simp))
  have KC2 := hid (KB.out.trans KF.out)
  clear z0 z1 z2 m0 m1 m2 m3 m4 m5 m6 m7 m8 bz br
  generalize wb.alloc (.cells #[.int .i64 7, .int .i64 (k : Int), .int .i64 mv.side, .int .u32 0, .int .u32 0, .bool false, .int .i64 0, .slice none 0 0] 153) = wd at FB CC MC KC2 ⊢
  have FR := hid KB.out.size
  generalize wb.heap.size = F at FB FR ⊢
  have ks := hid (Kept.refl [F] wd)
  have FD := hid FB.out
  have KD := hid (KC2.out.fresh ks.out (fun i hi hl => by simp at hi; subst hi; exact absurd hl (Nat.not_lt.2 FR.out)))
  have CD := hid (ks.out.has CC.out (by simpa using Ow.Has.ne CC.out FB.out (by decide)))
  have MD := hid (ks.out.has MC.out (by simpa using Ow.Has.ne MC.out FB.out (by decide)))
  have HD := hid (HH.out.temps Xhc.out KD.out)
  have GD := hid (HG.out.step KD.out.size)
  have FRw := hid (show w.heap.size ≤ F ∧ w.heap.size ≤ R from ⟨FR.out, RR.out⟩)
  obtain ⟨z0, z1, z2⟩ := three CD.out
  have m2 := MD.out.cell 2 rfl
  have m6 := MD.out.cell 6 rfl
  have e2 : (mv.side == 1) = false := by have := Xh2.out; simp [this]
  refine (devM_reset (opn_hand (lab := relab lab w 99) (a := 3 + 2 * k) GD.out) ((part_dev ..).pre (HD.out.dev k p HP.out)) Xhx.out mv.n Xh3.out.1 Xh3.out.2).mono ?_
  rintro e we ⟨rfl, k1, h1⟩
  have H1 := hid (HD.out.setD HP.out k1 h1)
  have K1 := hid ((KG.nil KD.out).trans (kg_hand k1))
  have F1 := hid (k1.has FD.out (not_hand FRw.out.1 FD.out.lt (by have := Xhc.out; have := q3; omega)))
  have M1 := hid (k1.has MD.out (not_hand FRw.out.2 MD.out.lt (by have := Xhc.out; have := q3; omega)))
  clear k1 h1 z0 z1 z2 m2 m6
  have m0 := M1.out.cell 0 rfl
  have NC := hid (note_call (HG.out.kg K1.out) H1.out HN.out 7 (k : Int) mv.side 0 0 false 0 none 0 0)
  unfold fval at NC
  have f0 := F1.out.cell 0 rfl
  have f1 := F1.out.cell 1 rfl
  have f2 := F1.out.cell 2 rfl
  have f3 := F1.out.cell 3 rfl
  have f4 := F1.out.cell 4 rfl
  have f5 := F1.out.cell 5 rfl
  have f6 := F1.out.cell 6 rfl
  have f7 := F1.out.cell 7 rfl
  go_wp2_with fail
  refine NC.out.mono ?_
  rintro e wf ⟨rfl, k2, h2⟩
  have K2 := hid (K1.out.trans k2)
  have H2 := hid h2
  clear k2 h2
  go_wp2_with fail
  go_ret
  exact ⟨rfl, K2.out, n + 1, Nat.le_refl _, H2.out⟩
set_option maxRecDepth 100000 in
set_option maxHeartbeats 1600000 in
theorem touch7dn {k : Nat} {p : CP} (hG : Opn G w) (h : WAt G lab w b nh nd mx cv ca cs bb fv fa n xs x) (hp : cs[k]? = some p) (hn : n ≤ 1000000) (mv : Mv) (dp : Option Addr) (dl dc : Nat) (hk : mv.conn = (k : Int)) (hc : cs.length ≤ 40) (h1 : mv.kind = 7) (h2 : mv.side ≠ 1) (hx : DOk (x.cn k).d) (h3 : 0 ≤ mv.n ∧ mv.n < 9223372036854775808) (hr : ((x.cn k).d.reset mv.n).2 ≠ 0) :
    Calls Tryz.prog 42 #[.pointer (some ⟨b, 0, none⟩), mvV mv dp dl dc] w fun e w' => e = .returned (.int .i64 (((x.cn k).d.reset mv.n).2)) ∧ KG G w w' ∧ ∃ n', n' ≤ n + 1 ∧ WF G w' b nh nd mx cv ca cs bb n' (x.setC k { x.cn k with d := ((x.cn k).d.reset mv.n).1 }) := by
  obtain ⟨cap, rfl, hle, hkl, _, _, _⟩ := h.at_ hp
  have HH := hid h
  have HG := hid hG
  have HP := hid hp
  have HN := hid hn
  have q3 : (k : Int) < (cs.length : Int) := by omega
  have q4 : (0 : Int) ≤ (k : Int) := by omega
  have Xhc := hid hc
  have Xh1 := hid h1
  have Xh2 := hid h2
  have Xhx := hid hx
  have Xh3 := hid h3
  have Xhr := hid hr
  unfold mvV
  rw [hk]
  clear h hG hp hn hk hc h1 h2 hx h3 hr
  go_enter Tryz.func42, Tryz.ntmps42
  go_wp2_with fail
  have KA := hid ((Kept.refl [] w).alloc (.cells #[.int .i64 mv.kind, .int .i64 (k : Int), .int .i64 mv.side, .int .i64 mv.frame, .int .i64 mv.at', .int .u32 mv.word, .int .i64 mv.n, .bool mv.hold, .slice dp dl dc] 38))
  have MA := hid (Has.new w 38 [.int .i64 mv.kind, .int .i64 (k : Int), .int .i64 mv.side, .int .i64 mv.frame, .int .i64 mv.at', .int .u32 mv.word, .int .i64 mv.n, .bool mv.hold, .slice dp dl dc])
  have HA := hid (HH.out.nil KA.out)
  generalize w.alloc (.cells #[.int .i64 mv.kind, .int .i64 (k : Int), .int .i64 mv.side, .int .i64 mv.frame, .int .i64 mv.at', .int .u32 mv.word, .int .i64 mv.n, .bool mv.hold, .slice dp dl dc] 38) = wa at KA MA HA ⊢
  obtain ⟨R, hR⟩ : ∃ R, R = w.heap.size := ⟨_, rfl⟩
  rw [← hR] at MA ⊢
  have RR := hid (Nat.le_of_eq hR.symm)
  clear hR
  have SK := hid (skT HA MA HP)
  have dd := SK.out _ ((Kept.refl [] wa).drew)
  have KZ := hid ((Kept.refl [] wa).alloc (.cells #[.pointer none, .pointer none, .pointer none] 92))
  have KC := hid (((Kept.refl [] wa).alloc (.cells #[.pointer (some ⟨p.h, 0, none⟩), .pointer (some ⟨p.d, 0, none⟩), .pointer (some ⟨p.m, 0, none⟩)] 92)))
  go_region_held3 (fun w' => w'.cell? ⟨b, 3, none⟩ = some (.slice (some ⟨ca, 0, none⟩) cs.length cap) ∧ w'.cell? ⟨R, 1, none⟩ = some (.int .i64 (k : Int)) ∧ w'.cell? ⟨ca, k * 3, none⟩ = some (.pointer (some ⟨p.h, 0, none⟩)) ∧ w'.cell? ⟨ca, k * 3 + 1, none⟩ = some (.pointer (some ⟨p.d, 0, none⟩)) ∧ w'.cell? ⟨ca, k * 3 + 2, none⟩ = some (.pointer (some ⟨p.m, 0, none⟩))) (first | with_reducible assumption | with_reducible exact SK.out _ KZ.out.drew | with_reducible exact SK.out _ KC.out.drew | with_reducible exact SK.out _ KC.out | go_keep) (fail)
  clear dd
  change Exit.then _ _ Exit.normal _ (wa.alloc (.cells #[.pointer (some ⟨p.h, 0, none⟩), .pointer (some ⟨p.d, 0, none⟩), .pointer (some ⟨p.m, 0, none⟩)] 92)).drew
  have CB := hid ((Has.new wa 92 [.pointer (some ⟨p.h, 0, none⟩), .pointer (some ⟨p.d, 0, none⟩), .pointer (some ⟨p.m, 0, none⟩)]).drew)
  have MB := hid (KC.out.drew.has MA.out (by simp))
  have HB := hid (HA.out.nil KC.out.drew)
  have KB := hid (KA.out.trans KC.out.drew)
  have CB : Hid (Has (wa.alloc (.cells #[.pointer (some ⟨p.h, 0, none⟩), .pointer (some ⟨p.d, 0, none⟩), .pointer (some ⟨p.m, 0, none⟩)] 92)).drew wa.heap.size 92 [.pointer (some ⟨p.h, 0, none⟩), .pointer (some ⟨p.d, 0, none⟩), .pointer (some ⟨p.m, 0, none⟩)]) := CB
  generalize (wa.alloc (.cells #[.pointer (some ⟨p.h, 0, none⟩), .pointer (some ⟨p.d, 0, none⟩), .pointer (some ⟨p.m, 0, none⟩)] 92)).drew = wb at CB MB HB KB ⊢
  generalize wa.heap.size = Z at CB ⊢
  obtain ⟨z0, z1, z2⟩ := three CB.out
  have m0 := MB.out.cell 0 rfl
  have m1 := MB.out.cell 1 rfl
  have m2 := MB.out.cell 2 rfl
  have m3 := MB.out.cell 3 rfl
  have m4 := MB.out.cell 4 rfl
  have m5 := MB.out.cell 5 rfl
  have m6 := MB.out.cell 6 rfl
  have m7 := MB.out.cell 7 rfl
  have m8 := MB.out.cell 8 rfl
  have bz := CB.out.lt
  have br := MB.out.lt
  have k5 : (mv.kind == 5) = false := by have := Xh1.out; simp [this]
  have k6 : (mv.kind == 6) = false := by have := Xh1.out; simp [this]
  have k7 : (mv.kind == 7) = true := by have := Xh1.out; simp [this]
  have eR : (((x.cn k).d.reset mv.n).2 == 0) = false := by have := Xhr.out; simp [this]
  have e2 : (mv.side == 1) = false := by have := Xh2.out; simp [this]
  go_wp2_with fail
  have KF := hid ((Kept.refl [] wb).alloc (.cells #[.int .i64 7, .int .i64 (k : Int), .int .i64 mv.side, .int .u32 0, .int .u32 0, .bool false, .int .i64 0, .slice none 0 0] 153))
  have FB := hid (Has.new wb 153 [.int .i64 7, .int .i64 (k : Int), .int .i64 mv.side, .int .u32 0, .int .u32 0, .bool false, .int .i64 0, .slice none 0 0])
  have CC := hid (KF.out.has CB.out (by simp))
  have MC := hid (KF.out.has MB.out (by simp))
  have KC2 := hid (KB.out.trans KF.out)
  clear z0 z1 z2 m0 m1 m2 m3 m4 m5 m6 m7 m8 bz br
  generalize wb.alloc (.cells #[.int .i64 7, .int .i64 (k : Int), .int .i64 mv.side, .int .u32 0, .int .u32 0, .bool false, .int .i64 0, .slice none 0 0] 153) = wd at FB CC MC KC2 ⊢
  have FR := hid KB.out.size
  generalize wb.heap.size = F at FB FR ⊢
  have ks := hid (Kept.refl [F] wd)
  have FD := hid FB.out
  have KD := hid (KC2.out.fresh ks.out (fun i hi hl => by simp at hi; subst hi; exact absurd hl (Nat.not_lt.2 FR.out)))
  have CD := hid (ks.out.has CC.out (by simpa using Ow.Has.ne CC.out FB.out (by decide)))
  have MD := hid (ks.out.has MC.out (by simpa using Ow.Has.ne MC.out FB.out (by decide)))
  have HD := hid (HH.out.temps Xhc.out KD.out)
  have GD := hid (HG.out.step KD.out.size)
  have FRw := hid (show w.heap.size ≤ F ∧ w.heap.size ≤ R from ⟨FR.out, RR.out⟩)
  obtain ⟨z0, z1, z2⟩ := three CD.out
  have m2 := MD.out.cell 2 rfl
  have m6 := MD.out.cell 6 rfl
  have e2 : (mv.side == 1) = false := by have := Xh2.out; simp [this]
  refine (devM_reset (opn_hand (lab := relab lab w 99) (a := 3 + 2 * k) GD.out) ((part_dev ..).pre (HD.out.dev k p HP.out)) Xhx.out mv.n Xh3.out.1 Xh3.out.2).mono ?_
  rintro e we ⟨rfl, k1, h1⟩
  have H1 := hid (HD.out.setD HP.out k1 h1)
  have K1 := hid ((KG.nil KD.out).trans (kg_hand k1))
  have F1 := hid (k1.has FD.out (not_hand FRw.out.1 FD.out.lt (by have := Xhc.out; have := q3; omega)))
  have M1 := hid (k1.has MD.out (not_hand FRw.out.2 MD.out.lt (by have := Xhc.out; have := q3; omega)))
  clear k1 h1 z0 z1 z2 m2 m6
  have m0 := M1.out.cell 0 rfl
  have NC := hid (note_call (HG.out.kg K1.out) H1.out HN.out 7 (k : Int) mv.side 0 0 false 0 none 0 0)
  unfold fval at NC
  have f0 := F1.out.cell 0 rfl
  have f1 := F1.out.cell 1 rfl
  have f2 := F1.out.cell 2 rfl
  have f3 := F1.out.cell 3 rfl
  have f4 := F1.out.cell 4 rfl
  have f5 := F1.out.cell 5 rfl
  have f6 := F1.out.cell 6 rfl
  have f7 := F1.out.cell 7 rfl
  go_wp2_with fail
  refine NC.out.mono ?_
  rintro e wf ⟨rfl, k2, h2⟩
  have K2 := hid (K1.out.trans k2)
  have H2 := hid h2
  clear k2 h2
  go_wp2_with fail
  go_ret
  exact ⟨rfl, K2.out, n + 1, Nat.le_refl _, H2.out⟩
end WdC
end Go.Proofs.YtinaliblnihpbaaGreat
