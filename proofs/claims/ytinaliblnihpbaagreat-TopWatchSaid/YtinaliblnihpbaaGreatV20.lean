/- The walks and the plain laws of WdV, WdF, WdO, WdQ. -/
import Derived.Test.YtinaliblnihpbaaGreatV19
import Derived.Deep.DeepCutAuto
import Derived.Deep.CutBlock
import Derived.Test.YtinaliblnihpbaaGreatV02
set_option linter.unusedVariables false
set_option linter.unusedSimpArgs false
open Go.Lib (hid)
namespace Go.Proofs.YtinaliblnihpbaaGreat
namespace WdC
open Go Go.RowKit Gf Hp Sl Ow Rw TM BagC HostC DevC MemC ValveC EncW UEnc UDecW UnW ParW SlC
variable {G G' : Nat → Prop} {lab : Nat → Nat} {w w' : World} {a j : Nat} {b : Nat} {nh nd : Value} {mx : Int} {cv : Value} {ca : Nat} {cs : List CP} {bb : Nat} {fv : Value} {fa : Option Nat} {n : Nat} {xs : List Value} {x y : Wd}
theorem four9 {w : World} {R B : Nat} {T T' : TypeId} {v0 v1 v2 v3 v4 v5 v6 v7 v8 u0 u1 u2 u3 u4 u5 u6 u7 u8 : Value} (h : Has w R T [v0, v1, v2, v3, v4, v5, v6, v7, v8]) (h' : Has w B T' [u0, u1, u2, u3, u4, u5, u6, u7, u8]) : w.cell? ⟨R, 0, none⟩ = some v0 ∧ w.cell? ⟨R, 1, none⟩ = some v1 ∧ w.cell? ⟨R, 2, none⟩ = some v2 ∧ w.cell? ⟨R, 3, none⟩ = some v3 ∧ w.cell? ⟨R, 4, none⟩ = some v4 ∧ w.cell? ⟨R, 5, none⟩ = some v5 ∧ w.cell? ⟨R, 6, none⟩ = some v6 ∧ w.cell? ⟨R, 7, none⟩ = some v7 ∧ w.cell? ⟨R, 8, none⟩ = some v8 ∧ w.cell? ⟨B, 0, none⟩ = some u0 := ⟨h.cell 0 rfl, h.cell 1 rfl, h.cell 2 rfl, h.cell 3 rfl, h.cell 4 rfl, h.cell 5 rfl, h.cell 6 rfl, h.cell 7 rfl, h.cell 8 rfl, h'.cell 0 rfl⟩
theorem slice_some {w : World} {p : Option Addr} {l c : Nat} {bs : List Int} (h : Bytes w (.slice p l c) bs) (hb : bs ≠ []) : ∃ f', p = some f' := by
  rcases h with ⟨e, h⟩ | ⟨y, cap, e, _⟩
  · exact absurd h hb
  · cases e; exact ⟨_, rfl⟩
set_option maxRecDepth 100000 in
set_option maxHeartbeats 6400000 in
theorem delivD {k : Nat} {p : CP} (hG : Opn G w) (h : WAt G lab w b nh nd mx cv ca cs bb fv fa n xs x) (hp : cs[k]? = some p) (hn : n + 6 ≤ 1000000) (mv : Mv) (dp : Option Addr) (dl dc : Nat) (hk : mv.conn = (k : Int)) (vb : Value) (hv : Away G w vb) (h2 : mv.side ≠ 1) (hx : DOk (x.cn k).d) (r : D × Option U × Int) (hro : DOk r.1) (hru : ∀ u, r.2.1 = some u → URange u ∧ Law u) (hbl : x.bag.length < 4096)
    (hz : r.2.2 = 0 → ∃ u, URange u ∧ Law u ∧ Bytes w vb (UEnc.frame u))
    (hRC : ∀ (G' : Nat → Prop) (w' : World), Opn G' w' → KG G w w' → DevM G' w' p.d p.m p.mb (x.cn k).d → Calls Tryz.prog 70 #[.pointer (some ⟨p.d, 0, none⟩), vb] w' fun e w'' => ∃ f, e = .returned (.tuple #[f, .int .i64 r.2.2]) ∧ KG G' w' w'' ∧ DevM G' w'' p.d p.m p.mb r.1 ∧ FrameOf w' w'' f r.2.1) :
    Calls Tryz.prog 39 #[.pointer (some ⟨b, 0, none⟩), mvV mv dp dl dc, vb] w fun e w' => e = .returned (.tuple #[.int .i64 (if r.2.1.isSome then (x.bag.length : Nat) else -1), .int .i64 r.2.2]) ∧ KG G w w' ∧ ∃ n', n' ≤ n + 5 ∧ WF G w' b nh nd mx cv ca cs bb n' { x.setC k { x.cn k with d := r.1 } with bag := x.bag ++ r.2.1.toList } := by
  obtain ⟨cap, rfl, hle, hkl, _, _, _⟩ := h.at_ hp
  have HH := hid h
  have HG := hid hG
  have HP := hid hp
  have HN := hid hn
  have HV := hid hv
  have Xh2 := hid h2
  have Xhx := hid hx
  have XRO := hid hro
  have XRU := hid (And.intro hru (And.intro hbl hz))
  have RC := hid hRC
  have q3 : (k : Int) < (cs.length : Int) := by omega
  have q4 : (0 : Int) ≤ (k : Int) := by omega
  obtain ⟨si, hsi⟩ : ∃ s : Int, s = (if r.2.1.isSome then ((x.bag.length : Nat) : Int) else -1) := ⟨_, rfl⟩
  rw [← hsi]
  have SI := hid hsi
  clear hsi
  unfold mvV
  rw [hk]
  clear h hG hp hn hk hv h2 hx hro hru hbl hz hRC
  go_enter Tryz.func39, Tryz.ntmps39
  go_wp2_with fail
  have KA := hid ((Kept.refl [] w).alloc (.cells #[.int .i64 mv.kind, .int .i64 (k : Int), .int .i64 mv.side, .int .i64 mv.frame, .int .i64 mv.at', .int .u32 mv.word, .int .i64 mv.n, .bool mv.hold, .slice dp dl dc] 38))
  have MA := hid (Has.new w 38 [.int .i64 mv.kind, .int .i64 (k : Int), .int .i64 mv.side, .int .i64 mv.frame, .int .i64 mv.at', .int .u32 mv.word, .int .i64 mv.n, .bool mv.hold, .slice dp dl dc])
  have HA := hid (HH.out.nil KA.out)
  generalize w.alloc (.cells #[.int .i64 mv.kind, .int .i64 (k : Int), .int .i64 mv.side, .int .i64 mv.frame, .int .i64 mv.at', .int .u32 mv.word, .int .i64 mv.n, .bool mv.hold, .slice dp dl dc] 38) = wa at KA MA HA ⊢
  obtain ⟨R, hR⟩ : ∃ R, R = w.heap.size := ⟨_, rfl⟩
  rw [← hR] at MA ⊢
  have RR := hid (Nat.le_of_eq hR.symm)
  clear hR
  have SK := hid (skT HA MA HP)
  have dd := SK.out _ ((Kept.refl [] wa).drew)
  have KZ := hid ((Kept.refl [] wa).alloc (.cells #[.pointer none, .pointer none, .pointer none] 92))
  have KC := hid (((Kept.refl [] wa).alloc (.cells #[.pointer (some ⟨p.h, 0, none⟩), .pointer (some ⟨p.d, 0, none⟩), .pointer (some ⟨p.m, 0, none⟩)] 92)))
  go_region_held3 (fun w' => w'.cell? ⟨b, 3, none⟩ = some (.slice (some ⟨ca, 0, none⟩) cs.length cap) ∧ w'.cell? ⟨R, 1, none⟩ = some (.int .i64 (k : Int)) ∧ w'.cell? ⟨ca, k * 3, none⟩ = some (.pointer (some ⟨p.h, 0, none⟩)) ∧ w'.cell? ⟨ca, k * 3 + 1, none⟩ = some (.pointer (some ⟨p.d, 0, none⟩)) ∧ w'.cell? ⟨ca, k * 3 + 2, none⟩ = some (.pointer (some ⟨p.m, 0, none⟩))) (first | with_reducible assumption | with_reducible exact SK.out _ KZ.out.drew | with_reducible exact SK.out _ KC.out.drew | with_reducible exact SK.out _ KC.out | go_keep) (fail)
  clear dd
  change Exit.then _ _ Exit.normal _ (wa.alloc (.cells #[.pointer (some ⟨p.h, 0, none⟩), .pointer (some ⟨p.d, 0, none⟩), .pointer (some ⟨p.m, 0, none⟩)] 92)).drew
  have CB := hid ((Has.new wa 92 [.pointer (some ⟨p.h, 0, none⟩), .pointer (some ⟨p.d, 0, none⟩), .pointer (some ⟨p.m, 0, none⟩)]).drew)
  have MB := hid (KC.out.drew.has MA.out (by simp))
  have HB := hid (HA.out.nil KC.out.drew)
  have KB := hid (KA.out.trans KC.out.drew)
  have CB : Hid (Has (wa.alloc (.cells #[.pointer (some ⟨p.h, 0, none⟩), .pointer (some ⟨p.d, 0, none⟩), .pointer (some ⟨p.m, 0, none⟩)] 92)).drew wa.heap.size 92 [.pointer (some ⟨p.h, 0, none⟩), .pointer (some ⟨p.d, 0, none⟩), .pointer (some ⟨p.m, 0, none⟩)]) := CB
  generalize (wa.alloc (.cells #[.pointer (some ⟨p.h, 0, none⟩), .pointer (some ⟨p.d, 0, none⟩), .pointer (some ⟨p.m, 0, none⟩)] 92)).drew = wb at CB MB HB KB ⊢
  obtain ⟨Z, hZ⟩ : ∃ Z, Z = wa.heap.size := ⟨_, rfl⟩
  rw [← hZ] at CB ⊢
  have ZR := hid (Nat.le_trans KA.out.size (Nat.le_of_eq hZ.symm))
  clear hZ
  obtain ⟨z0, z1, z2⟩ := three CB.out
  have m0 := MB.out.cell 0 rfl
  have m1 := MB.out.cell 1 rfl
  have m2 := MB.out.cell 2 rfl
  have m3 := MB.out.cell 3 rfl
  have m4 := MB.out.cell 4 rfl
  have m5 := MB.out.cell 5 rfl
  have m6 := MB.out.cell 6 rfl
  have m7 := MB.out.cell 7 rfl
  have m8 := MB.out.cell 8 rfl
  have bz := CB.out.lt
  have br := MB.out.lt
  have e2 : (mv.side == 1) = false := by have := Xh2.out; simp [this]
  have HF := hid (HH.out.fence KB.out)
  have SF := hid (HV.out.fence KB.out)
  have VN := hid (show 1 ≤ (x.cn k).d.v.n ∧ (x.cn k).d.v.n ≤ 8 by rw [Xhx.out.vn]; exact Xhx.out.p.out)
  go_wp2_with fail
  refine (devM_see (HF.out.dev k p HP.out) VN.out).mono ?_
  rintro e w1 ⟨s1, rfl, k1, kk1, hkk1, ho1⟩
  obtain ⟨cap1, cur1, rfl, _⟩ := id ho1
  have C1 := hid (k1.has CB.out (by simp))
  have M1 := hid (k1.has MB.out (by simp))
  have K1 := hid k1
  clear k1 hkk1 ho1 z0 z1 z2 m0 m1 m2 m3 m4 m5 m6 m7 m8 bz br
  obtain ⟨z0, z1, z2⟩ := three C1.out
  have bz := C1.out.lt
  unfold eval'
  go_wp2_with fail
  have KE1 := hid (K1.out.alloc (.cells #[.int .i64 (x.cn k).d.see.state, .int .u32 (x.cn k).d.see.ses, .int .u32 (x.cn k).d.see.num, .int .u32 (x.cn k).d.see.sent, .int .i64 (x.cn k).d.see.since, .int .i64 (x.cn k).d.see.latched, .bool (x.cn k).d.see.request, .bool (x.cn k).d.see.on, .slice (some ⟨kk1, 0, none⟩) (x.cn k).d.v.out.length cap1] 42))
  have E1 := hid (Has.new w1 42 [.int .i64 (x.cn k).d.see.state, .int .u32 (x.cn k).d.see.ses, .int .u32 (x.cn k).d.see.num, .int .u32 (x.cn k).d.see.sent, .int .i64 (x.cn k).d.see.since, .int .i64 (x.cn k).d.see.latched, .bool (x.cn k).d.see.request, .bool (x.cn k).d.see.on, .slice (some ⟨kk1, 0, none⟩) (x.cn k).d.v.out.length cap1])
  have C2 := hid (KE1.out.has CB.out (by simp))
  have M2 := hid (KE1.out.has MB.out (by simp))
  generalize w1.alloc (.cells #[.int .i64 (x.cn k).d.see.state, .int .u32 (x.cn k).d.see.ses, .int .u32 (x.cn k).d.see.num, .int .u32 (x.cn k).d.see.sent, .int .i64 (x.cn k).d.see.since, .int .i64 (x.cn k).d.see.latched, .bool (x.cn k).d.see.request, .bool (x.cn k).d.see.on, .slice (some ⟨kk1, 0, none⟩) (x.cn k).d.v.out.length cap1] 42) = wa1 at KE1 E1 C2 M2 ⊢
  have BR := hid K1.out.size
  generalize w1.heap.size = B1 at E1 BR ⊢
  clear z0 z1 z2 bz
  have H2 := hid (HF.out.fence KE1.out)
  have nR := hid (fenced_not2 (w := wb) (fenced_not (G := G) RR.out MB.out.lt) M2.out.lt)
  have nZ := hid (fenced_not2 (w := wb) (fenced_not (G := G) ZR.out CB.out.lt) C2.out.lt)
  have nB := hid (fenced_not (G := fenced G w wb) BR.out E1.out.lt)
  have S2 := hid (SF.out.fence KE1.out)
  obtain ⟨G2, hG2⟩ : ∃ G2, G2 = fenced (fenced G w wb) wb wa1 := ⟨_, rfl⟩
  have O2 := hid (show Opn G2 wa1 by rw [hG2]; exact opn_fenced)
  rw [← hG2] at H2 nR nZ nB S2
  have GB := hid (show ∀ i, G2 i → G i by
    intro i q
    rw [hG2] at q
    exact fenced_sub HG.out KB.out.size i (fenced_sub opn_fenced KE1.out.size i q))
  have KW := hid (KB.out.trans KE1.out)
  clear hG2
  refine (RC.out _ _ (opn_hand (lab := lab) (a := 3 + 2 * k) O2.out) (KG.nil KW.out) ((part_dev ..).pre (H2.out.dev k p HP.out))).mono ?_
  rintro e wf ⟨f, rfl, k3, h3, f3⟩
  obtain ⟨fp, fl, fc, rfl⟩ := DevC.FrameOf.shape f3
  have H3 := hid (H2.out.setD HP.out k3 h3)
  have D3 := hid h3
  have F3 := hid f3
  have K3 := hid k3
  have C3 := hid (k3.has C2.out (fun q => nZ.out q.1))
  have M3 := hid (k3.has M2.out (fun q => nR.out q.1))
  have E3 := hid (k3.has E1.out (fun q => nB.out q.1))
  clear k3 h3 f3
  obtain ⟨z0, z1, z2⟩ := three C3.out
  have VN2 := hid (show 1 ≤ r.1.v.n ∧ r.1.v.n ≤ 8 by rw [XRO.out.vn]; exact XRO.out.p.out)
  go_wp2_with fail
  refine (devM_see D3.out VN2.out).mono ?_
  rintro e w2 ⟨s2, rfl, k4, kk2, hkk2, ho2⟩
  obtain ⟨cap2, cur2, rfl, _⟩ := id ho2
  have K4 := hid k4
  clear k4 hkk2 ho2 z0 z1 z2
  unfold eval'
  have KE2 := hid (K4.out.alloc (.cells #[.int .i64 r.1.see.state, .int .u32 r.1.see.ses, .int .u32 r.1.see.num, .int .u32 r.1.see.sent, .int .i64 r.1.see.since, .int .i64 r.1.see.latched, .bool r.1.see.request, .bool r.1.see.on, .slice (some ⟨kk2, 0, none⟩) r.1.v.out.length cap2] 42))
  have E2 := hid (Has.new w2 42 [.int .i64 r.1.see.state, .int .u32 r.1.see.ses, .int .u32 r.1.see.num, .int .u32 r.1.see.sent, .int .i64 r.1.see.since, .int .i64 r.1.see.latched, .bool r.1.see.request, .bool r.1.see.on, .slice (some ⟨kk2, 0, none⟩) r.1.v.out.length cap2])
  have E3b := hid (K4.out.has E3.out (by simp))
  have M3b := hid (K4.out.has M3.out (by simp))
  have y0 := E3b.out.cell 0 rfl
  have y1 := E3b.out.cell 1 rfl
  have n1 := M3b.out.cell 1 rfl
  have n2 := M3b.out.cell 2 rfl
  have bE := E3b.out.lt
  have bM := M3b.out.lt
  have H4 := hid (H3.out.fence KE2.out)
  have E4 := hid (KE2.out.has E3.out (by simp))
  have M4 := hid (KE2.out.has M3.out (by simp))
  have S4 := hid ((S2.out.step K3.out.size).fence KE2.out)
  have nR4 := hid (fenced_not2 (w := wf) nR.out M4.out.lt)
  have nB4 := hid (fenced_not2 (w := wf) nB.out E4.out.lt)
  have nX4 := hid (fenced_not (G := G2) K4.out.size E2.out.lt)
  have BV := hid (show r.2.2 = 0 → ∃ u, URange u ∧ Law u ∧ Bytes _ vb (UEnc.frame u) from fun q => by
    obtain ⟨u, u1, u2, u3⟩ := XRU.out.2.2 q
    exact ⟨u, u1, u2, (S2.out.bytes (u3.kept KW.out (by simp)) (kg_hand K3.out)).kept KE2.out (by simp)⟩)
  have FV := hid (show (∃ u, r.2.1 = some u ∧ (∃ f', fp = some f') ∧ Bytes _ (.slice fp fl fc) (UEnc.frame u) ∧ NotOf _ _ _ 0 (.slice fp fl fc) ∧ NotOf _ _ _ 1 (.slice fp fl fc)) ∨ (r.2.1 = none ∧ fp = none ∧ fl = 0 ∧ fc = 0) from by
    have f := F3.out
    cases q : r.2.1 with
    | some u =>
      rw [q] at f
      have f : Made wa1 wf (.slice fp fl fc) (UEnc.frame u) := f
      refine .inl ⟨u, rfl, ?_, f.bytes.kept KE2.out (by simp), (notOf_made (G := G2) (lab := lab) f (frame_ne u) (3 + 2 * k) 0 (by omega)).fence KE2.out, (notOf_made (G := G2) (lab := lab) f (frame_ne u) (3 + 2 * k) 1 (by omega)).fence KE2.out⟩
      exact slice_some f.bytes (frame_ne u)
    | none =>
      rw [q] at f
      have f : Value.slice fp fl fc = .slice none 0 0 := f
      refine .inr ⟨rfl, ?_⟩
      simpa using f)
  obtain ⟨G3, hG3⟩ : ∃ G3, G3 = fenced G2 wf (w2.alloc (.cells #[.int .i64 r.1.see.state, .int .u32 r.1.see.ses, .int .u32 r.1.see.num, .int .u32 r.1.see.sent, .int .i64 r.1.see.since, .int .i64 r.1.see.latched, .bool r.1.see.request, .bool r.1.see.on, .slice (some ⟨kk2, 0, none⟩) r.1.v.out.length cap2] 42)) := ⟨_, rfl⟩
  have O4 := hid (show Opn G3 (w2.alloc (.cells #[.int .i64 r.1.see.state, .int .u32 r.1.see.ses, .int .u32 r.1.see.num, .int .u32 r.1.see.sent, .int .i64 r.1.see.since, .int .i64 r.1.see.latched, .bool r.1.see.request, .bool r.1.see.on, .slice (some ⟨kk2, 0, none⟩) r.1.v.out.length cap2] 42)) by rw [hG3]; exact opn_fenced)
  have GC := hid (show ∀ i, G3 i → G i by
    intro i q
    rw [hG3] at q
    exact GB.out i (fenced_sub (O2.out.kg (kg_hand K3.out)) KE2.out.size i q))
  rw [← hG3] at H4 S4 nR4 nB4 nX4 FV
  clear hG3
  have KK := hid (((KG.nil (G := G) KW.out).trans (K3.out.shed (fun i _ q => GB.out i q.1))).trans (KG.nil KE2.out))
  obtain ⟨rc, hrc⟩ : ∃ rc, rc = r.2.2 := ⟨_, rfl⟩
  rw [← hrc] at BV ⊢
  have RQ := hid hrc
  clear hrc
  obtain ⟨lab3, hl3⟩ : ∃ l, l = relab lab wa1 (3 + 2 * k) := ⟨_, rfl⟩
  rw [← hl3] at H4 FV
  clear hl3
  go_upto_region 10 with (fail)
  generalize w2.alloc (.cells #[.int .i64 r.1.see.state, .int .u32 r.1.see.ses, .int .u32 r.1.see.num, .int .u32 r.1.see.sent, .int .i64 r.1.see.since, .int .i64 r.1.see.latched, .bool r.1.see.request, .bool r.1.see.on, .slice (some ⟨kk2, 0, none⟩) r.1.v.out.length cap2] 42) = wa2 at *
  clear y0 y1 n1 n2 bE bM
  have NT := hid (Noted.refl H4.out)
  obtain ⟨q1, hq1⟩ : ∃ q, q = ((rc == 70) && ((x.cn k).d.see.state != 6)) := ⟨_, rfl⟩
  have Q1 := hid hq1
  clear hq1
  go_cut [55] (fun s wx => s = .bool q1 ∧ wa2 = wx)
  case first =>
    have y0 := E4.out.cell 0 rfl
    have bE := E4.out.lt
    have T1 : ((rc == 70) = true ∧ ((x.cn k).d.see.state != 6) = true) ∨ ((rc == 70) = true ∧ ((x.cn k).d.see.state != 6) = false) ∨ (rc == 70) = false := by
      cases (rc == 70) <;> cases ((x.cn k).d.see.state != 6) <;> simp
    rcases T1 with ⟨p1, p2⟩ | ⟨p1, p2⟩ | p1
    all_goals (go_wp2_with fail; go_meet)
    · exact ⟨congrArg Value.bool (by rw [Q1.out, p1, p2]; rfl), rfl⟩
    · exact ⟨congrArg Value.bool (by rw [Q1.out, p1, p2]; rfl), rfl⟩
    · exact ⟨congrArg Value.bool (by rw [Q1.out, p1]; rfl), rfl⟩
  obtain ⟨rfl, rfl⟩ := hcut
  go_upto_if 55 with (fail)
  go_cut [] (fun wx => ∃ m, m ≤ n + 1 ∧ Noted G3 lab3 wa2 wx b nh nd mx (.slice (some ⟨ca, 0, none⟩) cs.length cap) ca cs bb m (x.setC k { x.cn k with d := r.1 }))
  case first =>
    cases q1
    · go_wp2_with fail
      go_meet
      exact ⟨n, by omega, NT.out⟩
    have n1 := M4.out.cell 1 rfl
    have n2 := M4.out.cell 2 rfl
    have NC := note_more O4.out NT.out (by have := HN.out; omega) 7 (k : Int) mv.side 0 0 false 0 none 0 0
    unfold fval at NC
    go_wp2_with fail
    refine NC.mono ?_
    rintro e w3 ⟨rfl, nn⟩
    go_wp2_with fail
    go_meet
    exact ⟨n + 1, by omega, nn⟩
  obtain ⟨m1, hm1, nn⟩ := hcut
  obtain ⟨w5, rfl⟩ : ∃ z, z = wc := ⟨_, rfl⟩
  have NT := hid nn
  have HM := hid hm1
  clear nn hm1
  obtain ⟨q2, hq2⟩ : ∃ q, q = ((r.1.see.ses != (x.cn k).d.see.ses) && (r.1.see.ses != 0)) := ⟨_, rfl⟩
  have Q2 := hid hq2
  clear hq2
  have E5 := hid (NT.out.has E4.out nB4.out)
  have M5 := hid (NT.out.has M4.out nR4.out)
  have F5 := hid (NT.out.has E2.out nX4.out)
  go_upto_region 12 with (fail)
  go_cut [72] (fun s wx => s = .bool q2 ∧ w5 = wx)
  case first =>
    have y1 := E5.out.cell 1 rfl
    have y2 := F5.out.cell 1 rfl
    have bE := E5.out.lt
    have bF := F5.out.lt
    have T1 : ((r.1.see.ses != (x.cn k).d.see.ses) = true ∧ (r.1.see.ses != 0) = true) ∨ ((r.1.see.ses != (x.cn k).d.see.ses) = true ∧ (r.1.see.ses != 0) = false) ∨ (r.1.see.ses != (x.cn k).d.see.ses) = false := by
      cases (r.1.see.ses != (x.cn k).d.see.ses) <;> cases (r.1.see.ses != 0) <;> simp
    rcases T1 with ⟨p1, p2⟩ | ⟨p1, p2⟩ | p1
    all_goals (go_wp2_with fail; go_meet)
    · exact ⟨congrArg Value.bool (by rw [Q2.out, p1, p2]; rfl), rfl⟩
    · exact ⟨congrArg Value.bool (by rw [Q2.out, p1, p2]; rfl), rfl⟩
    · exact ⟨congrArg Value.bool (by rw [Q2.out, p1]; rfl), rfl⟩
  obtain ⟨rfl, rfl⟩ := hcut
  go_upto_if 72 with (fail)
  go_cut [] (fun wx => ∃ m, m ≤ n + 2 ∧ Noted G3 lab3 wa2 wx b nh nd mx (.slice (some ⟨ca, 0, none⟩) cs.length cap) ca cs bb m (x.setC k { x.cn k with d := r.1 }))
  case first =>
    cases q2
    · go_wp2_with fail
      go_meet
      exact ⟨m1, by have := HM.out; omega, NT.out⟩
    have z9 := M5.out
    have n1 := M5.out.cell 1 rfl
    have n2 := M5.out.cell 2 rfl
    have y2 := F5.out.cell 1 rfl
    have NC := note_more O4.out NT.out (by have := HN.out; have := HM.out; omega) 3 (k : Int) mv.side r.1.see.ses 0 false 0 none 0 0
    unfold fval at NC
    go_wp2_with fail
    refine NC.mono ?_
    rintro e w6 ⟨rfl, nn⟩
    go_wp2_with fail
    go_meet
    exact ⟨m1 + 1, by have := HM.out; omega, nn⟩
  obtain ⟨m2, hm2, nn⟩ := hcut
  obtain ⟨w7, rfl⟩ : ∃ z, z = wc := ⟨_, rfl⟩
  clear NT HM E5 F5 M5
  have NT := hid nn
  have HM := hid hm2
  clear nn hm2
  have E5 := hid (NT.out.has E4.out nB4.out)
  have M5 := hid (NT.out.has M4.out nR4.out)
  go_upto_if 83 with (fail)
  go_cut [] (fun wx => ∃ m, m ≤ n + 4 ∧ Noted G3 lab3 wa2 wx b nh nd mx (.slice (some ⟨ca, 0, none⟩) cs.length cap) ca cs bb m (x.setC k { x.cn k with d := r.1 }))
  case first =>
    have T5 : (rc == 0) = true ∨ (rc == 0) = false := by cases (rc == 0) <;> simp
    rcases T5 with p5 | p5
    · obtain ⟨u, u1, u2, u3⟩ := BV.out (by simpa using p5)
      have U1 := hid u1
      have U2 := hid u2
      have B5 := hid (NT.out.bytes (S4.out.notOf lab3 0) u3)
      have S4n := hid (S4.out.notOf lab3 0)
      have U3 := hid u3
      have SK := hid (show ∀ w', Kept [] w7 w' → (w'.cell? ⟨R, 0, none⟩ = some (.int .i64 mv.kind) ∧ w'.cell? ⟨R, 1, none⟩ = some (.int .i64 (k : Int)) ∧ w'.cell? ⟨R, 2, none⟩ = some (.int .i64 mv.side) ∧ w'.cell? ⟨R, 3, none⟩ = some (.int .i64 mv.frame) ∧ w'.cell? ⟨R, 4, none⟩ = some (.int .i64 mv.at') ∧ w'.cell? ⟨R, 5, none⟩ = some (.int .u32 mv.word) ∧ w'.cell? ⟨R, 6, none⟩ = some (.int .i64 mv.n) ∧ w'.cell? ⟨R, 7, none⟩ = some (.bool mv.hold) ∧ w'.cell? ⟨R, 8, none⟩ = some (.slice dp dl dc) ∧ w'.cell? ⟨B1, 0, none⟩ = some (.int .i64 (x.cn k).d.see.state)) from fun w' q => by
        obtain ⟨a0, a1, a2, a3, a4, a5, a6, a7, a8⟩ := nine9 (q.has M5.out (by simp))
        exact ⟨a0, a1, a2, a3, a4, a5, a6, a7, a8, (q.has E5.out (by simp)).cell 0 rfl⟩)
      have FC := hid (fresh_call (w := w7.drew) u U1.out U2.out vb (x.cn k).d.see.state (B5.out.kept ((Kept.refl [] w7).drew) (by simp)))
      clear u1 u2 u3
      go_upto_region 15 with (fail)
      have dd := SK.out _ ((Kept.refl [] w7).drew)
      go_region_held3 (fun w' => w'.cell? ⟨R, 0, none⟩ = some (.int .i64 mv.kind) ∧ w'.cell? ⟨R, 1, none⟩ = some (.int .i64 (k : Int)) ∧ w'.cell? ⟨R, 2, none⟩ = some (.int .i64 mv.side) ∧ w'.cell? ⟨R, 3, none⟩ = some (.int .i64 mv.frame) ∧ w'.cell? ⟨R, 4, none⟩ = some (.int .i64 mv.at') ∧ w'.cell? ⟨R, 5, none⟩ = some (.int .u32 mv.word) ∧ w'.cell? ⟨R, 6, none⟩ = some (.int .i64 mv.n) ∧ w'.cell? ⟨R, 7, none⟩ = some (.bool mv.hold) ∧ w'.cell? ⟨R, 8, none⟩ = some (.slice dp dl dc) ∧ w'.cell? ⟨B1, 0, none⟩ = some (.int .i64 (x.cn k).d.see.state)) (with_reducible assumption) (first | (go_at_call 72; with_reducible refine FC.out.mono ?_; rintro e wc ⟨qf, rfl, kc⟩; have dd2 := SK.out _ (((Kept.refl [] w7).drew).trans kc); have NK := hid (NT.out.kept (((Kept.refl [] w7).drew).trans kc)); have TC := hid (taken_more qf O4.out NK.out (by have := HN.out; have := HM.out; omega) { mv with conn := (k : Int) } dp dl dc u U1.out U2.out vb U3.out S4n.out); unfold mvV at TC; dsimp only at TC; clear kc) | (go_at_call 69; with_reducible refine TC.out.mono ?_; rintro e wn ⟨rfl, m3, hm3, nn⟩; have NN := hid nn; have dd3 := four9 (nn.has M4.out nR4.out) (nn.has E4.out nB4.out); have HM3 := hid hm3; clear nn hm3))
      clear dd dd2 dd3
      go_wp2_with fail
      go_meet
      exact ⟨m3, by have := HM.out; have := HM3.out; omega, NN.out⟩
    · go_wp2_with fail
      go_meet
      exact ⟨m2, by have := HM.out; omega, NT.out⟩
  obtain ⟨m3, hm3, nn⟩ := hcut
  obtain ⟨w8, rfl⟩ : ∃ z, z = wc := ⟨_, rfl⟩
  clear NT HM E5 M5
  have NT := hid nn
  have HM := hid hm3
  have M5 := hid (NT.out.has M4.out nR4.out)
  clear nn hm3
  have hnq : ∀ (w : World) (a : Option Addr) (n c n' c' : Nat), (binOp .eql 36 (.slice a n c) (.slice none n' c')).run Tryz.prog w = .ok (.bool a.isNone) w := fun w a n c n' c' => Lib.run_eql_slice_nil w _ _ a n c n' c' Tryz.underlying36
  rcases FV.out with ⟨u, hu, ⟨f', rfl⟩, hf⟩ | ⟨hu, rfl, rfl, rfl⟩
  · have n1 := M5.out.cell 1 rfl
    have n2 := M5.out.cell 2 rfl
    have UL := XRU.out.1 u hu
    have PC := put_more O4.out NT.out (by have := HN.out; have := HM.out; omega) u UL.1 UL.2 (show (x.setC k { x.cn k with d := r.1 }).bag.length < 4096 from XRU.out.2.1) (.slice (some f') fl fc) hf.1 hf.2.1 hf.2.2 (k : Int) mv.side
    have QO := hid hu
    have PP := hid PC
    have RQ2 := hid RQ.out
    clear hu hf PC UL
    go_wp2_with fail
    refine PP.out.mono ?_
    rintro e w9 ⟨rfl, kp, m4, hm4, hw⟩
    go_wp2_with fail
    go_ret2
    refine ⟨by rw [← RQ2.out, SI.out, QO.out]; rfl, (KK.out.trans (KG.shed NT.out.1 (fun i _ q => GC.out i q.1))).trans (kp.shed (fun i _ q => GC.out i q)), m4, by have := HM.out; omega, ?_⟩
    rw [QO.out]
    exact hw.mono (fun i _ q => GC.out i q)
  · have QO := hid hu
    clear hu
    have RQ2 := hid RQ.out
    go_wp2_with fail
    go_ret2
    refine ⟨by rw [← RQ2.out, SI.out, QO.out]; rfl, KK.out.trans (KG.shed NT.out.1 (fun i _ q => GC.out i q.1)), m3, by have := HM.out; omega, ?_⟩
    rw [QO.out]
    obtain ⟨_, lab4, fv4, fa4, xs4, _, h4⟩ := NT.out
    refine ⟨lab4, fv4, fa4, xs4, ?_⟩
    have h5 := h4.mono (fun i _ q => GC.out i q)
    show WAt _ _ _ _ _ _ _ _ _ _ _ _ _ _ _ ({ x.setC k { x.cn k with d := r.1 } with bag := x.bag ++ [] } : Wd)
    rw [List.append_nil]
    exact h5
end WdC
namespace WdC
open Go Go.RowKit Gf Hp Sl Ow Rw TM BagC HostC DevC MemC ValveC EncW UEnc UDecW UnW ParW SlC
variable {G G' : Nat → Prop} {lab : Nat → Nat} {w w' : World} {a j : Nat} {b : Nat} {nh nd : Value} {mx : Int} {cv : Value} {ca : Nat} {cs : List CP} {bb : Nat} {fv : Value} {fa : Option Nat} {n : Nat} {xs : List Value} {x y : Wd}
theorem burst_bad (u : U) (at' : Int) (z : Nat) : BuW.badBurst (UEnc.frame u).length at' z ↔ ((z : Int) = 0 ∨ at' < 0 ∨ at' > 8 * u.size - (Nat.log2 (z : Int).toNat + 1 : Nat)) := by
  unfold BuW.badBurst Bu.len U.size
  rw [frame_len, Int.toNat_natCast]
  split <;> omega
set_option maxRecDepth 100000 in
theorem sided_call (n : Int) (w : World) : Calls Tryz.prog 63 #[.int .i64 n] w fun e w' => e = .returned (.bool ((n != 2) && (n != 8))) ∧ w' = w := by
  go_enter Tryz.func63, Tryz.ntmps63
  by_cases h1 : n = 2
  · subst h1
    go_wp2_with fail
    go_ret
    exact ⟨rfl, rfl⟩
  have e1 : (n != 2) = true := by simp [h1]
  by_cases h2 : n = 8
  · subst h2
    go_wp2_with fail
    go_ret
    exact ⟨rfl, rfl⟩
  have e2 : (n != 8) = true := by simp [h2]
  go_wp2_with fail
  go_ret
  exact ⟨by rw [e1, e2]; rfl, rfl⟩
set_option maxRecDepth 100000 in
set_option maxHeartbeats 6400000 in
theorem fault_call (h : WAt G lab w b nh nd mx cv ca cs bb fv fa n xs x) (mv : Mv) (dp : Option Addr) (dl dc : Nat) (hw : 0 ≤ mv.word ∧ mv.word < 4294967296) (hu : ∀ u ∈ x.bag, u.data.length ≤ 8) :
    Calls Tryz.prog 34 #[.pointer (some ⟨b, 0, none⟩), mvV mv dp dl dc] w fun e w' => e = .returned (.int .i64 (x.fault mv)) ∧ Kept [] w w' := by
  obtain ⟨pc, cap, rfl, hle⟩ := h.t0.con.shape
  have HH := hid h
  have HW := hid hw
  have HU := hid hu
  have HL := hid h.len
  clear h hw hu hle
  obtain ⟨ft, hft⟩ : ∃ ft, ft = x.fault mv := ⟨_, rfl⟩
  rw [← hft]
  unfold Wd.fault at hft
  rw [← HL.out] at hft
  have FT := hid hft
  clear hft
  unfold mvV
  go_enter Tryz.func34, Tryz.ntmps34
  go_upto_block 0 with (fail)
  have KA := hid ((Kept.refl [] w).alloc (.cells #[.int .i64 mv.kind, .int .i64 mv.conn, .int .i64 mv.side, .int .i64 mv.frame, .int .i64 mv.at', .int .u32 mv.word, .int .i64 mv.n, .bool mv.hold, .slice dp dl dc] 38))
  have MA := hid (Has.new w 38 [.int .i64 mv.kind, .int .i64 mv.conn, .int .i64 mv.side, .int .i64 mv.frame, .int .i64 mv.at', .int .u32 mv.word, .int .i64 mv.n, .bool mv.hold, .slice dp dl dc])
  have HA := hid (HH.out.nil KA.out)
  generalize w.alloc (.cells #[.int .i64 mv.kind, .int .i64 mv.conn, .int .i64 mv.side, .int .i64 mv.frame, .int .i64 mv.at', .int .u32 mv.word, .int .i64 mv.n, .bool mv.hold, .slice dp dl dc] 38) = wa at KA MA HA ⊢
  obtain ⟨R, hR⟩ : ∃ R, R = w.heap.size := ⟨_, rfl⟩
  rw [← hR] at MA ⊢
  clear hR
  have FIN : ∀ r, Hid (ft = r) → Ending.returned (.int .i64 r) = Ending.returned (.int .i64 ft) := fun r e => by rw [e.out]
  have FN := hid FIN
  clear FIN
  go_cut [] (fun wx => ∃ nq, wa.drewN nq = wx ∧ ¬ (x.moves ≥ 4096) ∧ ¬ (mv.kind < 1 ∨ mv.kind > 8) ∧ ¬ (mv.conn < 0 ∨ mv.conn ≥ cs.length) ∧ ¬ (mv.kind ≠ 2 ∧ mv.kind ≠ 8 ∧ mv.side ≠ 1 ∧ mv.side ≠ 2))
  case first =>
    have c4 := HA.out.t0.top.cell 6 rfl
    have c1 := HA.out.t0.top.cell 3 rfl
    have m0 := MA.out.cell 0 rfl
    have m1 := MA.out.cell 1 rfl
    have m2 := MA.out.cell 2 rfl
    have bR := MA.out.lt
    have bW := HA.out.t0.top.lt
    by_cases h1 : x.moves ≥ 4096
    · have e1 : decide (x.moves ≥ 4096) = true := by simpa using h1
      have FQ := hid (show ft = 150 by rw [FT.out, if_pos h1])
      clear h1
      go_wp2_with fail
      go_ret
      exact ⟨by rw [FQ.out]; rfl, KA.out⟩
    have e1 : decide (x.moves ≥ 4096) = false := by simpa using h1
    by_cases h2 : mv.kind < 1
    · have e2 : decide (mv.kind < 1) = true := by simpa using h2
      have FQ := hid (show ft = 170 by rw [FT.out, if_neg h1, if_pos (.inl h2)])
      clear h1 h2
      go_wp2_with fail
      go_ret
      exact ⟨by rw [FQ.out]; rfl, KA.out⟩
    have e2 : decide (mv.kind < 1) = false := by simpa using h2
    by_cases h3 : mv.kind > 8
    · have e3 : decide (mv.kind > 8) = true := by simpa using h3
      have FQ := hid (show ft = 170 by rw [FT.out, if_neg h1, if_pos (.inr h3)])
      clear h1 h2 h3
      go_wp2_with fail
      go_ret
      exact ⟨by rw [FQ.out]; rfl, KA.out⟩
    have e3 : decide (mv.kind > 8) = false := by simpa using h3
    have G2' : ¬ (mv.kind < 1 ∨ mv.kind > 8) := by omega
    have FU := hid (show ft = _ by rw [FT.out, if_neg h1, if_neg G2'])
    have G1 := hid h1
    have G2 := hid G2'
    clear h1 h2 h3 G2'
    by_cases h4 : mv.conn < 0
    · have e4 : decide (mv.conn < 0) = true := by simpa using h4
      have FQ := hid (show ft = 171 by rw [FU.out, if_pos (.inl h4)])
      clear h4
      go_upto_region 5 with (fail)
      go_quiet (fail)
      go_wp2_with fail
      all_goals (
        go_ret
        exact ⟨by rw [FQ.out]; rfl, by first | exact KA.out | exact KA.out.drewN _⟩)
    have e4 : decide (mv.conn < 0) = false := by simpa using h4
    have e5' : (mv.conn ≥ (cs.length : Int)) ∨ ¬ (mv.conn ≥ (cs.length : Int)) := Classical.em _
    rcases e5' with h5 | h5
    · have e5 : decide (mv.conn ≥ (cs.length : Int)) = true := by simpa using h5
      have FQ := hid (show ft = 171 by rw [FU.out, if_pos (.inr h5)])
      clear h4 h5
      go_upto_region 5 with (fail)
      go_quiet (fail)
      go_wp2_with fail
      go_ret
      exact ⟨by rw [FQ.out]; rfl, KA.out.drewN _⟩
    have e5 : decide (mv.conn ≥ (cs.length : Int)) = false := by simpa using h5
    have G3' : ¬ (mv.conn < 0 ∨ mv.conn ≥ (cs.length : Int)) := by omega
    have FV := hid (show ft = _ by rw [FU.out, if_neg G3'])
    have G3 := hid G3'
    clear h4 h5 G3'
    go_upto_region 5 with (fail)
    go_quiet (fail)
    go_upto_region 7 with (fail)
    have KD := hid (KA.out.drewN nq)
    have MD := hid (MA.out.drewN nq)
    have m0 := MD.out.cell 0 rfl
    have m2 := MD.out.cell 2 rfl
    have bR := MD.out.lt
    go_wp2_with fail
    refine (sided_call _ _).mono ?_
    rintro e w1 ⟨rfl, rfl⟩
    by_cases g2 : mv.kind = 2
    · have q1 : (mv.kind != 2) = false := by simp [g2]
      have G4 := hid g2
      clear g2
      go_wp2_with fail
      go_meet
      exact ⟨_, rfl, by have := G1.out; omega, by have := G2.out; omega, by have := G3.out; omega, fun q => q.1 G4.out⟩
    have q1 : (mv.kind != 2) = true := by simp [g2]
    by_cases g8 : mv.kind = 8
    · have q2 : (mv.kind != 8) = false := by simp [g8]
      have G4 := hid g8
      clear g2 g8
      go_wp2_with fail
      go_meet
      exact ⟨_, rfl, by have := G1.out; omega, by have := G2.out; omega, by have := G3.out; omega, fun q => q.2.1 G4.out⟩
    have q2 : (mv.kind != 8) = true := by simp [g8]
    by_cases s1 : mv.side = 1
    · have q3 : (mv.side != 1) = false := by simp [s1]
      have G4 := hid s1
      clear g2 g8 s1
      go_wp2_with fail
      go_meet
      exact ⟨_, rfl, by have := G1.out; omega, by have := G2.out; omega, by have := G3.out; omega, fun q => q.2.2.1 G4.out⟩
    have q3 : (mv.side != 1) = true := by simp [s1]
    by_cases s2 : mv.side = 2
    · have q4 : (mv.side != 2) = false := by simp [s2]
      have G4 := hid s2
      clear g2 g8 s1 s2
      go_wp2_with fail
      go_meet
      exact ⟨_, rfl, by have := G1.out; omega, by have := G2.out; omega, by have := G3.out; omega, fun q => q.2.2.2 G4.out⟩
    have q4 : (mv.side != 2) = true := by simp [s2]
    have FQ := hid (show ft = 172 by rw [FV.out, if_pos ⟨g2, g8, s1, s2⟩])
    clear g2 g8 s1 s2
    go_wp2_with fail
    go_ret
    exact ⟨by rw [FQ.out]; rfl, KD.out⟩
  obtain ⟨nq, hwx, G1, G2, G3, G4⟩ := hcut
  obtain rfl : wa.drewN nq = wc := hwx
  rw [if_neg G1, if_neg G2, if_neg G3, if_neg G4] at FT
  clear G1 G2 G3 G4
  have KD := hid (KA.out.drewN nq)
  have MD := hid (MA.out.drewN nq)
  have HD := hid (HA.out.nil ((Kept.refl [] wa).drewN nq))
  generalize wa.drewN nq = wd at *
  clear MA HA KA
  have m0 := MD.out.cell 0 rfl
  have m2 := MD.out.cell 2 rfl
  have m3 := MD.out.cell 3 rfl
  have m4 := MD.out.cell 4 rfl
  have m5 := MD.out.cell 5 rfl
  have m6 := MD.out.cell 6 rfl
  have bR := MD.out.lt
  have c2 := HD.out.t0.top.cell 4 rfl
  have bW := HD.out.t0.top.lt
  have HB := hid HD.out.bag
  by_cases k3 : mv.kind = 3
  · have e3 : (mv.kind == 3) = true := by simp [k3]
    rw [if_pos k3] at FT
    clear k3
    by_cases o : mv.frame < 0 ∨ mv.frame ≥ (x.bag.length : Int)
    · have FQ := hid (show ft = 151 by rw [FT.out, if_pos o])
      have BC := hid (fun (w : World) (h : IsB (own G lab 1) w bb x.bag) => b_out h mv.frame o)
      clear o
      go_upto_region 11 with (fail)
      have SK := hid (show ∀ w', Kept [] wd w' → (w'.cell? ⟨b, 4, none⟩ = some (.pointer (some ⟨bb, 0, none⟩)) ∧ w'.cell? ⟨R, 3, none⟩ = some (.int .i64 mv.frame) ∧ w'.cell? ⟨R, 4, none⟩ = some (.int .i64 mv.at') ∧ w'.cell? ⟨R, 5, none⟩ = some (.int .u32 mv.word)) from fun w' q => ⟨(q.has HD.out.t0.top (by simp)).cell 4 rfl, (q.has MD.out (by simp)).cell 3 rfl, (q.has MD.out (by simp)).cell 4 rfl, (q.has MD.out (by simp)).cell 5 rfl⟩)
      have dd := SK.out _ ((Kept.refl [] wd).drew)
      go_region_held3 (fun w' => w'.cell? ⟨b, 4, none⟩ = some (.pointer (some ⟨bb, 0, none⟩)) ∧ w'.cell? ⟨R, 3, none⟩ = some (.int .i64 mv.frame) ∧ w'.cell? ⟨R, 4, none⟩ = some (.int .i64 mv.at') ∧ w'.cell? ⟨R, 5, none⟩ = some (.int .u32 mv.word)) (with_reducible assumption) ((go_at_call 38; with_reducible refine (BC.out _ (HB.out.frame ((Kept.refl [] wd).drew) (by simp))).mono ?_; rintro e wc ⟨rfl, kc⟩; have dd2 := SK.out _ (((Kept.refl [] wd).drew).trans kc); have KC := hid ((KD.out.drew).trans kc); clear kc))
      clear dd dd2
      go_wp2_with fail
      go_ret
      exact ⟨by rw [FQ.out]; rfl, KC.out⟩
    · have FQ := hid (show ft = 0 by rw [FT.out, if_neg o])
      obtain ⟨i, hi⟩ : ∃ i : Nat, mv.frame = (i : Int) := ⟨mv.frame.toNat, by omega⟩
      have BC := hid (fun (w : World) (h : IsB (own G lab 1) w bb x.bag) => b_get h i (by omega))
      rw [hi] at MD m3
      clear o hi
      go_upto_region 11 with (fail)
      have SK := hid (show ∀ w', Kept [] wd w' → (w'.cell? ⟨b, 4, none⟩ = some (.pointer (some ⟨bb, 0, none⟩)) ∧ w'.cell? ⟨R, 3, none⟩ = some (.int .i64 (i : Int)) ∧ w'.cell? ⟨R, 4, none⟩ = some (.int .i64 mv.at') ∧ w'.cell? ⟨R, 5, none⟩ = some (.int .u32 mv.word)) from fun w' q => ⟨(q.has HD.out.t0.top (by simp)).cell 4 rfl, (q.has MD.out (by simp)).cell 3 rfl, (q.has MD.out (by simp)).cell 4 rfl, (q.has MD.out (by simp)).cell 5 rfl⟩)
      have dd := SK.out _ ((Kept.refl [] wd).drew)
      go_region_held3 (fun w' => w'.cell? ⟨b, 4, none⟩ = some (.pointer (some ⟨bb, 0, none⟩)) ∧ w'.cell? ⟨R, 3, none⟩ = some (.int .i64 (i : Int)) ∧ w'.cell? ⟨R, 4, none⟩ = some (.int .i64 mv.at') ∧ w'.cell? ⟨R, 5, none⟩ = some (.int .u32 mv.word)) (with_reducible assumption) ((go_at_call 38; with_reducible refine (BC.out _ (HB.out.frame ((Kept.refl [] wd).drew) (by simp))).mono ?_; rintro e wc ⟨y, rfl, kc, mm⟩; obtain ⟨py, cy, rfl⟩ := mm.shape; clear mm; have dd2 := SK.out _ (((Kept.refl [] wd).drew).trans kc); have KC := hid ((KD.out.drew).trans kc); clear kc))
      clear dd dd2
      go_wp2_with fail
      go_ret
      exact ⟨by rw [FQ.out]; rfl, KC.out⟩
  have e3 : (mv.kind == 3) = false := by simp [k3]
  rw [if_neg k3] at FT
  by_cases k4 : mv.kind = 4
  · have e4 : (mv.kind == 4) = true := by simp [k4]
    rw [if_pos k4] at FT
    clear k3 k4
    by_cases o : mv.frame < 0 ∨ mv.frame ≥ (x.bag.length : Int)
    · have FQ := hid (show ft = 151 by rw [FT.out, if_pos o])
      have BC := hid (fun (w : World) (h : IsB (own G lab 1) w bb x.bag) => b_gout h mv.frame mv.at' mv.word o)
      clear o
      go_upto_region 14 with (fail)
      have SK := hid (show ∀ w', Kept [] wd w' → (w'.cell? ⟨b, 4, none⟩ = some (.pointer (some ⟨bb, 0, none⟩)) ∧ w'.cell? ⟨R, 3, none⟩ = some (.int .i64 mv.frame) ∧ w'.cell? ⟨R, 4, none⟩ = some (.int .i64 mv.at') ∧ w'.cell? ⟨R, 5, none⟩ = some (.int .u32 mv.word)) from fun w' q => ⟨(q.has HD.out.t0.top (by simp)).cell 4 rfl, (q.has MD.out (by simp)).cell 3 rfl, (q.has MD.out (by simp)).cell 4 rfl, (q.has MD.out (by simp)).cell 5 rfl⟩)
      have dd := SK.out _ ((Kept.refl [] wd).drew)
      go_region_held3 (fun w' => w'.cell? ⟨b, 4, none⟩ = some (.pointer (some ⟨bb, 0, none⟩)) ∧ w'.cell? ⟨R, 3, none⟩ = some (.int .i64 mv.frame) ∧ w'.cell? ⟨R, 4, none⟩ = some (.int .i64 mv.at') ∧ w'.cell? ⟨R, 5, none⟩ = some (.int .u32 mv.word)) (with_reducible assumption) ((go_at_call 40; with_reducible refine (BC.out _ (HB.out.frame ((Kept.refl [] wd).drew) (by simp))).mono ?_; rintro e wc ⟨rfl, kc⟩; have dd2 := SK.out _ (((Kept.refl [] wd).drew).trans kc); have KC := hid ((KD.out.drew).trans kc); clear kc))
      clear dd dd2
      go_wp2_with fail
      go_ret
      exact ⟨by rw [FQ.out]; rfl, KC.out⟩
    rw [if_neg o] at FT
    obtain ⟨i, hi⟩ : ∃ i : Nat, mv.frame = (i : Int) := ⟨mv.frame.toNat, by omega⟩
    have hi2 : i < x.bag.length := by omega
    rw [hi] at MD m3 FT
    obtain ⟨z, hz⟩ : ∃ z : Nat, mv.word = (z : Int) := ⟨mv.word.toNat, by have := HW.out; omega⟩
    have hz2 : z < 2 ^ 32 := by have := HW.out; omega
    have ud : (x.bag.getD i U.zero).data.length ≤ 8 := HU.out _ (by rw [List.getD, List.getElem?_eq_getElem hi2]; exact List.getElem_mem hi2)
    rw [hz] at MD m5 FT
    clear o hi hz
    by_cases bd : BuW.badBurst (UEnc.frame (x.bag.getD i U.zero)).length mv.at' z
    · have FQ := hid (show ft = 30 by rw [FT.out]; exact if_pos ((burst_bad _ _ _).1 bd))
      have BC := hid (fun (w : World) (h : IsB (own G lab 1) w bb x.bag) => b_gbad h i hi2 mv.at' z hz2 ud bd)
      clear bd ud hz2 hi2
      go_upto_region 14 with (fail)
      have SK := hid (show ∀ w', Kept [] wd w' → (w'.cell? ⟨b, 4, none⟩ = some (.pointer (some ⟨bb, 0, none⟩)) ∧ w'.cell? ⟨R, 3, none⟩ = some (.int .i64 (i : Int)) ∧ w'.cell? ⟨R, 4, none⟩ = some (.int .i64 mv.at') ∧ w'.cell? ⟨R, 5, none⟩ = some (.int .u32 (z : Int))) from fun w' q => ⟨(q.has HD.out.t0.top (by simp)).cell 4 rfl, (q.has MD.out (by simp)).cell 3 rfl, (q.has MD.out (by simp)).cell 4 rfl, (q.has MD.out (by simp)).cell 5 rfl⟩)
      have dd := SK.out _ ((Kept.refl [] wd).drew)
      go_region_held3 (fun w' => w'.cell? ⟨b, 4, none⟩ = some (.pointer (some ⟨bb, 0, none⟩)) ∧ w'.cell? ⟨R, 3, none⟩ = some (.int .i64 (i : Int)) ∧ w'.cell? ⟨R, 4, none⟩ = some (.int .i64 mv.at') ∧ w'.cell? ⟨R, 5, none⟩ = some (.int .u32 (z : Int))) (with_reducible assumption) ((go_at_call 40; with_reducible refine (BC.out _ (HB.out.frame ((Kept.refl [] wd).drew) (by simp))).mono ?_; rintro e wc ⟨rfl, kc⟩; have dd2 := SK.out _ (((Kept.refl [] wd).drew).trans kc); have KC := hid ((KD.out.drew).trans kc); clear kc))
      clear dd dd2
      go_wp2_with fail
      go_ret
      exact ⟨by rw [FQ.out]; rfl, KC.out⟩
    · have FQ := hid (show ft = 0 by rw [FT.out]; exact if_neg (fun q => bd ((burst_bad _ _ _).2 q)))
      unfold BuW.badBurst at bd
      obtain ⟨q, hq⟩ : ∃ q : Nat, mv.at' = (q : Int) := ⟨mv.at'.toNat, by omega⟩
      have BC := hid (fun (w : World) (h : IsB (own G lab 1) w bb x.bag) => b_garbled h i hi2 q z hz2 ud (by omega) (by omega))
      rw [hq] at MD m4
      clear bd ud hz2 hi2 hq
      go_upto_region 14 with (fail)
      have SK := hid (show ∀ w', Kept [] wd w' → (w'.cell? ⟨b, 4, none⟩ = some (.pointer (some ⟨bb, 0, none⟩)) ∧ w'.cell? ⟨R, 3, none⟩ = some (.int .i64 (i : Int)) ∧ w'.cell? ⟨R, 4, none⟩ = some (.int .i64 (q : Int)) ∧ w'.cell? ⟨R, 5, none⟩ = some (.int .u32 (z : Int))) from fun w' p => ⟨(p.has HD.out.t0.top (by simp)).cell 4 rfl, (p.has MD.out (by simp)).cell 3 rfl, (p.has MD.out (by simp)).cell 4 rfl, (p.has MD.out (by simp)).cell 5 rfl⟩)
      have dd := SK.out _ ((Kept.refl [] wd).drew)
      go_region_held3 (fun w' => w'.cell? ⟨b, 4, none⟩ = some (.pointer (some ⟨bb, 0, none⟩)) ∧ w'.cell? ⟨R, 3, none⟩ = some (.int .i64 (i : Int)) ∧ w'.cell? ⟨R, 4, none⟩ = some (.int .i64 (q : Int)) ∧ w'.cell? ⟨R, 5, none⟩ = some (.int .u32 (z : Int))) (with_reducible assumption) ((go_at_call 40; with_reducible refine (BC.out _ (HB.out.frame ((Kept.refl [] wd).drew) (by simp))).mono ?_; rintro e wc ⟨y, rfl, kc, mm⟩; obtain ⟨py, cy, rfl⟩ := mm.shape; clear mm; have dd2 := SK.out _ (((Kept.refl [] wd).drew).trans kc); have KC := hid ((KD.out.drew).trans kc); clear kc))
      clear dd dd2
      go_wp2_with fail
      go_ret
      exact ⟨by rw [FQ.out]; rfl, KC.out⟩
  have e4 : (mv.kind == 4) = false := by simp [k4]
  rw [if_neg k4] at FT
  by_cases k5 : mv.kind = 5
  · have e5 : (mv.kind == 5) = true := by simp [k5]
    rw [if_pos k5] at FT
    clear k3 k4 k5
    by_cases o1 : mv.n < 0
    · have FQ := hid (show ft = 2 by rw [FT.out, if_pos (.inl o1)])
      have q1 : decide (mv.n < 0) = true := by simpa using o1
      clear o1
      go_wp2_with fail
      go_ret
      exact ⟨by rw [FQ.out]; rfl, KD.out⟩
    have q1 : decide (mv.n < 0) = false := by simpa using o1
    by_cases o2 : mv.n > 1048576
    · have FQ := hid (show ft = 2 by rw [FT.out, if_pos (.inr o2)])
      have q2 : decide (mv.n > 1048576) = true := by simpa using o2
      clear o1 o2
      go_wp2_with fail
      go_ret
      exact ⟨by rw [FQ.out]; rfl, KD.out⟩
    have q2 : decide (mv.n > 1048576) = false := by simpa using o2
    have FQ := hid (show ft = 0 by rw [FT.out, if_neg (by omega)])
    clear o1 o2
    go_wp2_with fail
    go_ret
    exact ⟨by rw [FQ.out]; rfl, KD.out⟩
  have e5 : (mv.kind == 5) = false := by simp [k5]
  rw [if_neg k5] at FT
  by_cases k7 : mv.kind = 7
  · have e7 : (mv.kind == 7) = true := by simp [k7]
    rw [if_pos k7] at FT
    clear k3 k4 k5 k7
    by_cases o1 : mv.n < 0
    · have FQ := hid (show ft = 2 by rw [FT.out, if_pos (.inl o1)])
      have q1 : decide (mv.n < 0) = true := by simpa using o1
      clear o1
      go_wp2_with fail
      go_ret
      exact ⟨by rw [FQ.out]; rfl, KD.out⟩
    have q1 : decide (mv.n < 0) = false := by simpa using o1
    by_cases o2 : mv.side = 1
    · have q2 : (mv.side == 1) = true := by simpa using o2
      by_cases o3 : mv.n > 0
      · have FQ := hid (show ft = 2 by rw [FT.out, if_pos (.inr ⟨o2, o3⟩)])
        have q3 : decide (mv.n > 0) = true := by simpa using o3
        clear o1 o2 o3
        go_wp2_with fail
        go_ret
        exact ⟨by rw [FQ.out]; rfl, KD.out⟩
      have q3 : decide (mv.n > 0) = false := by simpa using o3
      have FQ := hid (show ft = 0 by rw [FT.out, if_neg (by omega)])
      clear o1 o2 o3
      go_wp2_with fail
      go_ret
      exact ⟨by rw [FQ.out]; rfl, KD.out⟩
    have q2 : (mv.side == 1) = false := by simpa using o2
    have FQ := hid (show ft = 0 by rw [FT.out, if_neg (by omega)])
    clear o1 o2
    go_wp2_with fail
    go_ret
    exact ⟨by rw [FQ.out]; rfl, KD.out⟩
  have e7 : (mv.kind == 7) = false := by simp [k7]
  rw [if_neg k7] at FT
  by_cases k8 : mv.kind = 8
  · have e8 : (mv.kind == 8) = true := by simp [k8]
    rw [if_pos k8] at FT
    clear k3 k4 k5 k7 k8
    by_cases o1 : mv.n < 0
    · have FQ := hid (show ft = 2 by rw [FT.out, if_pos o1])
      have q1 : decide (mv.n < 0) = true := by simpa using o1
      clear o1
      go_wp2_with fail
      go_ret
      exact ⟨by rw [FQ.out]; rfl, KD.out⟩
    have q1 : decide (mv.n < 0) = false := by simpa using o1
    have FQ := hid (show ft = 0 by rw [FT.out, if_neg o1])
    clear o1
    go_wp2_with fail
    go_ret
    exact ⟨by rw [FQ.out]; rfl, KD.out⟩
  have e8 : (mv.kind == 8) = false := by simp [k8]
  rw [if_neg k8] at FT
  clear k3 k4 k5 k7 k8
  go_wp2_with fail
  go_ret
  exact ⟨by rw [FT.out]; rfl, KD.out⟩
end WdC
namespace WdC
open Go Go.RowKit Gf Hp Sl Ow Rw TM BagC HostC DevC MemC ValveC EncW UEnc UDecW UnW ParW SlC
variable {h : H} {d : D} {u : U} {c : Cn} {m : Mv}
def UOk (u : U) : Prop := URange u ∧ Law u
theorem by_nil : By [] := fun x hx => by simp at hx
theorem by_sig (p : P) : By (sigB p) := by
  unfold sigB w4
  intro x hx
  simp only [List.mem_cons, List.not_mem_nil, or_false] at hx
  rcases hx with rfl | rfl | rfl | rfl <;> omega
theorem host_unit (hx : HOk h) (u : U) (e : (h.send (sigB h.p)).2.1 = some u) : UOk u := by
  unfold H.send at e
  split at e
  · cases e
  rename_i h5
  have e : (h.lost.compose (sigB h.p)).2 = u := Option.some.inj e
  have hl := hx.lost
  have hp := lost_p h
  have h5' := lost_state h5
  generalize h.lost = y at e hl hp h5'
  rw [← hp] at e
  have pc := hl.p.code
  have ps := hl.ses
  have pt := hl.sent
  have pn := hl.p.count
  have st := hl.st
  have mo := hl.more h5'
  have ew : IntKind.u32.wrap (y.sent + 1) = y.sent + 1 := by rw [IntKind.wrap_u32]; omega
  unfold H.compose at e
  split at e
  · rename_i s1; subst e
    exact ⟨⟨by dsimp only; omega, by dsimp only; omega, by dsimp only; omega, by dsimp only; omega, by dsimp only; omega, by_sig _, by show (sigB y.p).length ≤ 8; unfold sigB w4; simp⟩, hl.law1 s1⟩
  split at e
  · rename_i s2; subst e
    exact ⟨⟨by dsimp only; omega, by dsimp only; omega, ps, by dsimp only; omega, by dsimp only; omega, by_sig _, by show (sigB y.p).length ≤ 8; unfold sigB w4; simp⟩, hl.law2 s2⟩
  split at e
  · rename_i s3; subst e
    exact ⟨⟨by dsimp only; omega, by dsimp only; omega, ps, by dsimp only; omega, by dsimp only; omega, by_nil, Nat.zero_le _⟩, hl.law3 s3⟩
  have s4 : y.state = 4 := by omega
  split at e
  · subst e
    rw [ew]
    exact ⟨⟨by dsimp only; omega, by dsimp only; omega, ps, by dsimp only; omega, by dsimp only; omega, by_nil, Nat.zero_le _⟩, hl.law5 s4⟩
  · subst e
    rw [ew]
    have fl := flags_range y.v y.hold
    have ln := hl.len
    have po := hl.p.out
    exact ⟨⟨by dsimp only; omega, by dsimp only; omega, ps, by dsimp only; omega, by dsimp only; omega, hl.byt, by dsimp only; omega⟩, hl.law4 s4⟩
theorem rng_reply (hx : DOk d) {k n : Int} {l : List Int} (hk : 0 ≤ k ∧ k < 256) (hn : 0 ≤ n ∧ n < 4294967296) (hb : By l) (hl : l.length ≤ 8) : URange (d.reply k n l) := by
  have pc := hx.p.code
  unfold D.reply
  refine ⟨hk, by dsimp only; omega, hx.ses, hn, ?_, hb, hl⟩
  dsimp only
  split
  · have := flags_range d.v d.hold; omega
  · decide
theorem z32 : (0 : Int) ≤ 0 ∧ (0 : Int) < 4294967296 := by decide
theorem uok22 (hx : DOk d) : UOk (d.reply 22 0 []) := ⟨rng_reply hx (by decide) z32 by_nil (by decide), law22 hx.p⟩
theorem uok17 (hx : DOk d) (hs : 0 < d.ses) {sig : List Int} (e : sig = sigB d.p) : UOk (d.offer sig) := by
  subst e
  exact ⟨rng_reply hx (by decide) z32 (by_sig _) (by unfold sigB w4; simp), law17 hx.p hs⟩
theorem dev_p {sig : List Int} {e : Int} : (d.receive sig u e).1.p = d.p := by
  rcases DT.receive (d := d) (sig := sig) (u := u) e with r | r
  · exact r.1.p
  · exact r.1.p
theorem begin_unit (hx : DOk d) (r : U) (e : (d.begin (sigB d.p)).2.1 = some r) : UOk r := by
  have hy := hx.begin (sigB d.p)
  unfold D.begin at e hy
  split at e
  · rename_i q
    rw [if_pos q] at hy
    cases e
    exact uok22 hy
  rename_i q
  rw [if_neg q] at hy
  split at e
  · rename_i q2
    rw [if_pos q2] at hy
    cases e
    exact uok17 hy (hy.live (.inl rfl)) rfl
  · cases e
theorem stuck_ses (hx : DOk d) : d.stuck.1.state = 2 → 0 < d.stuck.1.ses := fun e => hx.stuck.live (.inl e)
theorem odds_unit (hx : DOk d) {c : Int} (r : U) (e : (d.odds c).2.1 = some r) : UOk r := by
  cases e
  exact uok22 hx.stuck
theorem asked_unit (hx : DOk d) (r : U) (e : (d.asked (sigB d.p) u).2.1 = some r) : UOk r := by
  unfold D.asked at e
  split at e
  · split at e
    · split at e
      · rw [← stuck_p d] at e
        exact begin_unit hx.stuck r e
      split at e
      · rename_i q; cases e
        exact uok17 hx.stuck (stuck_ses hx q) (by rw [stuck_p])
      · cases e
        exact uok22 hx.stuck
    · exact begin_unit hx r e
  · exact odds_unit hx r e
theorem dev_unit (hx : DOk d) (ur : URange u) (e0 : Int) (r : U) (e : (d.receive (sigB d.p) u e0).2.1 = some r) : UOk r := by
  have pc := hx.p.count
  unfold D.receive at e
  split at e
  · cases e
  split at e
  · cases e
  split at e
  · cases e
  split at e
  · cases e
  unfold D.take at e
  split at e
  · exact asked_unit hx r e
  split at e
  · rename_i q
    unfold D.echoed at e
    split at e
    · cases e
      have hs : 0 < d.agree.ses := by
        have := hx.live (by omega)
        unfold D.agree; split <;> exact this
      exact ⟨rng_reply hx.agree (by decide) z32 by_nil (by decide), law18 hx.agree.p hs⟩
    · exact odds_unit hx r e
  split at e
  · rename_i q
    cases e
    have hs : 0 < d.go.ses := by
      have := hx.live (by omega)
      unfold D.go; split <;> exact this
    exact ⟨rng_reply hx.go (by decide) z32 by_nil (by decide), law19 hx.go.p hs⟩
  split at e
  · rename_i q
    cases e
    have hn := q.2.1
    unfold D.next at hn
    have hf := hx.feed u hn.2.2 q.2.2.2
    have hw := feed_sent hx u hn.2.2 q.2.2.2
    have hs : 0 < (d.feed u).ses := hx.live (.inr (.inr hn.1))
    have st := hx.sent
    have se : (d.feed u).sent = d.sent + 1 := hw
    have ln := hx.len
    have pi := hx.p.inn
    have nm := hx.num
    exact ⟨rng_reply hf (by decide) (by rw [se]; omega) hx.byt (by omega), law20 hf.p hs (by rw [se]; omega) (by omega) (by omega)⟩
  split at e
  · rename_i q
    cases e
    have hn := q.2.1
    unfold D.next at hn
    have hf := hx.last u q.2.2
    have hs : 0 < (d.last u).ses := hx.live (.inr (.inr hn.1))
    exact ⟨rng_reply hf (by decide) (by omega) by_nil (by decide), law21 hf.p hs (by omega)⟩
  · exact odds_unit hx r e
structure COk (c : Cn) : Prop where
  h : HOk c.h
  d : DOk c.d
  sh : c.sig = sigB c.h.p
  sd : c.sig = sigB c.d.p
theorem host_p {sig : List Int} {e : Int} : (h.receive sig u e).1.p = h.p := (HS.receive e).1.p
theorem COk.play (q : COk c) (hm : MOk c.d.m) (hd : By m.data) (ur : URange u) : COk (c.play m u).1 := by
  have zr : URange U.zero := ⟨by decide, by decide, by decide, by decide, by decide, by_nil, by decide⟩
  have Hh : ∀ {h' : H}, HOk h' → h'.p = c.h.p → COk { c with h := h' } := fun a e => ⟨a, q.d, by rw [show ({ c with h := _ } : Cn).h.p = c.h.p from e]; exact q.sh, q.sd⟩
  have Hd : ∀ {d' : D}, DOk d' → d'.p = c.d.p → COk { c with d := d' } := fun a e => ⟨q.h, a, q.sh, by rw [show ({ c with d := _ } : Cn).d.p = c.d.p from e]; exact q.sd⟩
  have sn := q.h.send
  rw [← q.sh] at sn
  unfold Cn.play Cn.deliver
  repeat' split
  all_goals first
    | exact Hh (q.h.write _ _ hd) (HS.write _ _).1.p
    | exact Hd (q.d.write _ _ hd) (DS.write _ _).1.p
    | exact Hh sn HS.send.1.p
    | exact Hh (q.h.receive _ _ _ ur) host_p
    | exact Hd (q.d.receive _ _ _) dev_p
    | exact Hh (q.h.receive _ _ _ zr) host_p
    | exact Hh (q.h.tick _) (tick_p _)
    | exact Hd (q.d.tick _) (dtick_p _)
    | exact Hh q.h.ack rfl
    | exact Hd q.d.ack dack_p
    | exact Hh (HOk.new _ q.h.p) rfl
    | exact Hd (q.d.reset hm _) (Dn.reset _).1.p
    | exact Hd (q.d.arm _) rfl
theorem COk.unit (q : COk c) (ur : URange u) (r : U) (e : (c.play m u).2.1 = some r) : UOk r := by
  have zr : URange U.zero := ⟨by decide, by decide, by decide, by decide, by decide, by_nil, by decide⟩
  have hu := fun r => host_unit q.h r
  have du := fun u ur e0 r => dev_unit q.d (u := u) ur e0 r
  rw [← q.sh] at hu
  rw [← q.sd] at du
  unfold Cn.play Cn.deliver at e
  repeat' split at e
  all_goals first
    | exact hu r e
    | exact du _ ur _ r e
    | exact du _ zr _ r e
    | cases e
structure WOk (x : Wd) : Prop where
  cn : ∀ k, k < x.cs.length → COk (x.cn k)
  bag : ∀ u, u ∈ x.bag → UOk u
  few : (x.bag.length : Int) ≤ x.moves
  lim : x.moves ≤ 4096
  cns : x.cs.length ≤ 8
theorem bag_at {us : List U} (h : ∀ u, u ∈ us → UOk u) (i : Nat) (hi : i < us.length) : UOk (us.getD i U.zero) := by
  rw [List.getD, List.getElem?_eq_getElem hi]; exact h _ (List.getElem_mem hi)
theorem rng_at {us : List U} (h : ∀ u, u ∈ us → UOk u) (i : Nat) : URange (us.getD i U.zero) := by
  by_cases hi : i < us.length
  · exact (bag_at h i hi).1
  · rw [List.getD, List.getElem?_eq_none (by omega)]; exact ⟨by decide, by decide, by decide, by decide, by decide, by_nil, by decide⟩
theorem fault_ok {x : Wd} (e : x.fault m = 0) : x.moves < 4096 ∧ (1 ≤ m.kind ∧ m.kind ≤ 8) ∧ (0 ≤ m.conn ∧ m.conn < x.cs.length) ∧ (m.kind ≠ 2 → m.kind ≠ 8 → m.side = 1 ∨ m.side = 2) ∧ (m.kind = 3 ∨ m.kind = 4 → 0 ≤ m.frame ∧ m.frame < x.bag.length) ∧ (m.kind = 5 → 0 ≤ m.n ∧ m.n ≤ 1048576) ∧ (m.kind = 7 ∨ m.kind = 8 → 0 ≤ m.n) ∧ (m.kind = 4 → burstErr (x.bag.getD m.frame.toNat U.zero).size m.at' m.word = 0) := by
  unfold Wd.fault at e
  split at e
  · simp at e
  split at e
  · simp at e
  split at e
  · simp at e
  split at e
  · simp at e
  refine ⟨by omega, by omega, by omega, by omega, ?_⟩
  split at e
  · split at e
    · simp at e
    exact ⟨by omega, by omega, by omega, by omega⟩
  split at e
  · split at e
    · simp at e
    exact ⟨by omega, by omega, by omega, fun _ => e⟩
  split at e
  · split at e
    · simp at e
    exact ⟨by omega, by omega, by omega, by omega⟩
  split at e
  · split at e
    · simp at e
    exact ⟨by omega, by omega, by omega, by omega⟩
  split at e
  · split at e
    · simp at e
    exact ⟨by omega, by omega, by omega, by omega⟩
  exact ⟨by omega, by omega, by omega, by omega⟩
theorem WOk.next {x : Wd} (q : WOk x) (hf : x.fault m = 0) (hm : MOk (x.cn m.conn.toNat).d.m) (hd : By m.data) : WOk (x.next m) := by
  obtain ⟨f1, _, f3, _⟩ := fault_ok hf
  have hk : m.conn.toNat < x.cs.length := by omega
  refine ⟨fun k hk' => ?_, fun u hu => ?_, ?_, ?_, ?_⟩
  · have hk'' : k < x.cs.length := by simpa [Wd.next] using hk'
    by_cases e : k = m.conn.toNat
    · subst e
      show COk ((x.setC _ (x.step m).1).cn _)
      rw [setC_at _ _ _ hk]
      exact (q.cn _ hk).play hm hd (rng_at q.bag _)
    · show COk ((x.setC _ (x.step m).1).cn _)
      rw [setC_ne _ _ _ _ e]
      exact q.cn k hk''
  · rcases List.mem_append.1 (show u ∈ x.bag ++ (x.step m).2.1.toList from hu) with r | r
    · exact q.bag u r
    · exact (q.cn _ hk).unit (rng_at q.bag _) u (Option.mem_toList.1 r)
  · show ((x.bag ++ (x.step m).2.1.toList).length : Int) ≤ x.moves + 1
    have := q.few
    have : (x.step m).2.1.toList.length ≤ 1 := by cases (x.step m).2.1 <;> simp
    simp only [List.length_append]; omega
  · show x.moves + 1 ≤ 4096; omega
  · show (x.cs.set _ _).length ≤ 8; simp; exact q.cns
end WdC
namespace WdC
open Go Go.RowKit Gf Hp Sl Ow Rw TM BagC HostC DevC MemC ValveC EncW UEnc UDecW UnW ParW SlC
variable {G G' : Nat → Prop} {lab : Nat → Nat} {w w' : World} {a j : Nat} {b : Nat} {nh nd : Value} {mx : Int} {cv : Value} {ca : Nat} {cs : List CP} {bb : Nat} {fv : Value} {fa : Option Nat} {n : Nat} {xs : List Value} {x y : Wd} {k : Nat} {p : CP} {mv : Mv} {u : U}
def after (x : Wd) (k : Nat) (st : Cn × Option U × Int) : Wd := { x.setC k st.1 with bag := x.bag ++ st.2.1.toList }
def Stepped (G : Nat → Prop) (w w' : World) (b : Nat) (nh nd : Value) (mx : Int) (cv : Value) (ca : Nat) (cs : List CP) (bb n : Nat) (x : Wd) (k : Nat) (st : Cn × Option U × Int) : Prop :=
  KG G w w' ∧ ∃ n', n' ≤ n + 5 ∧ WF G w' b nh nd mx cv ca cs bb n' (after x k st)
def sentOf (x : Wd) (st : Cn × Option U × Int) : Int := if st.2.1.isSome then ((x.bag.length : Nat) : Int) else -1
theorem after_none (x : Wd) (k : Nat) (c : Cn) (e : Int) : after x k (c, none, e) = x.setC k c := by
  show ({ x.setC k c with bag := x.bag ++ [] } : Wd) = _
  rw [List.append_nil]; rfl
theorem wf1 {m : Nat} {X : Wd} {c : Cn} {e : Int} (kg : KG G w w') (hm : m ≤ n + 5) (h : WF G w' b nh nd mx cv ca cs bb m (x.setC k c)) : Stepped G w w' b nh nd mx cv ca cs bb n x k (c, none, e) := ⟨kg, m, hm, by rw [after_none]; exact h⟩
theorem at_k (h : WAt G lab w b nh nd mx cv ca cs bb fv fa n xs x) (hp : cs[k]? = some p) : k < x.cs.length := by rw [← h.len]; exact (List.getElem?_eq_some_iff.1 hp).1
theorem write_any (hG : Opn G w) (h : WAt G lab w b nh nd mx cv ca cs bb fv fa n xs x) (hp : cs[k]? = some p) (ok : WOk x) (dp : Option Addr) (dc : Nat) (hd : Bytes w (.slice dp mv.data.length dc) mv.data) (hl : mv.data.length ≤ 140737488351232) (h1 : mv.kind = 1) :
    Calls Tryz.prog 36 #[connV p, mvV mv dp mv.data.length dc] w fun e w' => e = .returned (.int .i64 ((x.cn k).play mv u).2.2) ∧ Stepped G w w' b nh nd mx cv ca cs bb n x k ((x.cn k).play mv u) := by
  have q := ok.cn k (at_k h hp)
  unfold Cn.play
  rw [if_pos h1]
  by_cases s1 : mv.side = 1
  · rw [if_pos s1]
    exact (writeH_call hG h hp q.h mv dp dc hd hl s1).mono (fun e w' ⟨r1, r2, r3⟩ => ⟨r1, wf1 (X := x) r2 (by omega) r3⟩)
  · rw [if_neg s1]
    exact (writeD_call hG h hp q.d mv dp dc hd hl s1).mono (fun e w' ⟨r1, r2, r3⟩ => ⟨r1, wf1 (X := x) r2 (by omega) r3⟩)
theorem send_any (hG : Opn G w) (h : WAt G lab w b nh nd mx cv ca cs bb fv fa n xs x) (hp : cs[k]? = some p) (ok : WOk x) (hn : n ≤ 1000000) (hb : x.bag.length < 4096) (h1 : mv.kind = 2) :
    Calls Tryz.prog 37 #[.pointer (some ⟨b, 0, none⟩), .int .i64 (k : Int)] w fun e w' => e = .returned (.tuple #[.int .i64 (sentOf x ((x.cn k).play mv u)), .int .i64 ((x.cn k).play mv u).2.2]) ∧ Stepped G w w' b nh nd mx cv ca cs bb n x k ((x.cn k).play mv u) := by
  have q := ok.cn k (at_k h hp)
  unfold Cn.play
  rw [if_neg (by omega), if_pos h1]
  by_cases s5 : (x.cn k).h.state = 5
  · rw [H_send_none s5]
    exact (sendN_call hG h hp q.h s5).mono (fun e w' ⟨r1, r2, r3⟩ => ⟨r1, wf1 (X := x) r2 (by omega) r3⟩)
  · obtain ⟨z, v, e⟩ := H_send_some (sig := (x.cn k).sig) s5
    have e' := e
    rw [q.sh] at e'
    have vo := host_unit q.h v (by rw [e'])
    rw [e]
    exact (sendY_call hG h hp hn hb q.h e' vo.1 vo.2).mono (fun e w' ⟨r1, r2, n', r3, r4⟩ => ⟨r1, r2, n', by omega, r4⟩)
theorem h_bad (z : H) (sig : List Int) : z.receive sig U.zero 42 = (z, 42) := by unfold H.receive; rw [if_pos (by decide)]
theorem deliver_any (hG : Opn G w) (h : WAt G lab w b nh nd mx cv ca cs bb fv fa n xs x) (hp : cs[k]? = some p) (ok : WOk x) (hn : n + 6 ≤ 1000000) (hb : x.bag.length < 4096) (dp : Option Addr) (dl dc : Nat) (hk : mv.conn = (k : Int)) (uo : UOk u) (vb : Value) (hs : Bytes w vb (UEnc.frame u)) (hv : Away G w vb) (h1 : mv.kind = 3) :
    Calls Tryz.prog 39 #[.pointer (some ⟨b, 0, none⟩), mvV mv dp dl dc, vb] w fun e w' => e = .returned (.tuple #[.int .i64 (sentOf x ((x.cn k).play mv u)), .int .i64 ((x.cn k).play mv u).2.2]) ∧ Stepped G w w' b nh nd mx cv ca cs bb n x k ((x.cn k).play mv u) := by
  have q := ok.cn k (at_k h hp)
  unfold Cn.play Cn.deliver
  rw [if_neg (by omega), if_neg (by omega), if_pos h1]
  by_cases s1 : mv.side = 1
  · rw [if_pos s1]
    by_cases r0 : ((x.cn k).h.receive (sigB (x.cn k).h.p) u 0).2 = 0
    · have D := delivHy hG h hp (by omega) mv dp dl dc hk u uo.1 uo.2 vb hs hv s1 q.h r0
      rw [← q.sh] at D
      exact D.mono (fun e w' ⟨r1, r2, n', r3, r4⟩ => ⟨r1, wf1 (X := x) r2 (by omega) r4⟩)
    · have D := delivHn hG h hp (by omega) mv dp dl dc hk u uo.1 uo.2 vb hs hv s1 q.h r0
      rw [← q.sh] at D
      exact D.mono (fun e w' ⟨r1, r2, n', r3, r4⟩ => ⟨r1, wf1 (X := x) r2 (by omega) r4⟩)
  · rw [if_neg s1]
    have D := (delivD hG h hp hn mv dp dl dc hk vb hv s1 q.d ((x.cn k).d.receive (sigB (x.cn k).d.p) u 0) (q.d.receive _ _ _) (fun r e => dev_unit q.d uo.1 0 r e) hb (fun _ => ⟨u, uo.1, uo.2, hs⟩)
      (fun G' w' hG' kg hd => devM_receive hG' hd q.d u uo.1 uo.2 vb (hv.bytes hs kg)))
    rw [← q.sd] at D
    exact D.mono (fun e w' ⟨r1, r2, n', r3, r4⟩ => ⟨r1, r2, n', r3, r4⟩)
theorem garble_any (hG : Opn G w) (h : WAt G lab w b nh nd mx cv ca cs bb fv fa n xs x) (hp : cs[k]? = some p) (ok : WOk x) (hn : n + 6 ≤ 1000000) (hb : x.bag.length < 4096) (dp : Option Addr) (dl dc : Nat) (hk : mv.conn = (k : Int)) (L : List Int) (hL : By L) (l1 : 19 ≤ L.length) (l2 : L.length ≤ 27) (hcr : crc L ≠ 0) (vb : Value) (hs : Bytes w vb L) (hv : Away G w vb) (h1 : mv.kind = 4) :
    Calls Tryz.prog 39 #[.pointer (some ⟨b, 0, none⟩), mvV mv dp dl dc, vb] w fun e w' => e = .returned (.tuple #[.int .i64 (sentOf x ((x.cn k).play mv u)), .int .i64 ((x.cn k).play mv u).2.2]) ∧ Stepped G w w' b nh nd mx cv ca cs bb n x k ((x.cn k).play mv u) := by
  have q := ok.cn k (at_k h hp)
  unfold Cn.play Cn.deliver
  rw [if_neg (by omega), if_neg (by omega), if_neg (by omega), if_pos h1]
  by_cases s1 : mv.side = 1
  · rw [if_pos s1, h_bad]
    exact (delivHb hG h hp (by omega) mv dp dl dc hk L vb hs hL l1 l2 hcr hv s1 q.h).mono (fun e w' ⟨r1, r2, n', r3, r4⟩ => ⟨r1, wf1 (X := x) r2 (by omega) r4⟩)
  · rw [if_neg s1]
    have zr : URange U.zero := ⟨by decide, by decide, by decide, by decide, by decide, by_nil, by decide⟩
    have r0 : ((x.cn k).d.receive (sigB (x.cn k).d.p) U.zero 42).2.2 ≠ 0 := by
      unfold D.receive
      split
      · show (70 : Int) ≠ 0; decide
      · rw [if_pos (by decide)]; show (42 : Int) ≠ 0; decide
    have D := (delivD hG h hp hn mv dp dl dc hk vb hv s1 q.d ((x.cn k).d.receive (sigB (x.cn k).d.p) U.zero 42) (q.d.receive _ _ _) (fun r e => dev_unit q.d zr 42 r e) hb (fun e => absurd e r0)
      (fun G' w' hG' kg hd => devM_bad hG' hd q.d vb L (hv.bytes hs kg) hL l1 l2 hcr))
    rw [← q.sd] at D
    exact D.mono (fun e w' ⟨r1, r2, n', r3, r4⟩ => ⟨r1, r2, n', r3, r4⟩)
theorem arm_any (hG : Opn G w) (h : WAt G lab w b nh nd mx cv ca cs bb fv fa n xs x) (hp : cs[k]? = some p) (h0 : 0 ≤ mv.n) (h2 : mv.n < 9223372036854775808) (h1 : mv.kind = 8) :
    Calls Tryz.prog 41 #[.pointer (some ⟨p.m, 0, none⟩), .int .i64 mv.n] w fun e w' => e = .returned (.int .i64 ((x.cn k).play mv u).2.2) ∧ Stepped G w w' b nh nd mx cv ca cs bb n x k ((x.cn k).play mv u) := by
  unfold Cn.play
  rw [if_neg (by omega), if_neg (by omega), if_neg (by omega), if_neg (by omega), if_pos h1]
  exact (devM_arm ((part_dev ..).pre (h.dev k p hp)) mv.n h0 h2).mono (fun e w' ⟨r1, r2, r3⟩ => ⟨r1, wf1 (X := x) (kg_hand r2) (Nat.le_add_right n 5) ⟨_, _, _, _, h.setD hp r2 r3⟩⟩)
theorem touch_any (hG : Opn G w) (h : WAt G lab w b nh nd mx cv ca cs bb fv fa n xs x) (hp : cs[k]? = some p) (ok : WOk x) (hn : n ≤ 1000000) (dp : Option Addr) (dl dc : Nat) (hk : mv.conn = (k : Int)) (h0 : 0 ≤ mv.n ∨ mv.kind = 6) (h2 : mv.n < 9223372036854775808) (h5 : mv.kind = 5 → mv.n ≤ 1048576) (h1 : mv.kind = 5 ∨ mv.kind = 6 ∨ mv.kind = 7) :
    Calls Tryz.prog 42 #[.pointer (some ⟨b, 0, none⟩), mvV mv dp dl dc] w fun e w' => e = .returned (.int .i64 ((x.cn k).play mv u).2.2) ∧ Stepped G w w' b nh nd mx cv ca cs bb n x k ((x.cn k).play mv u) := by
  have q := ok.cn k (at_k h hp)
  have hc : cs.length ≤ 40 := by have := h.len; have := ok.cns; omega
  unfold Cn.play
  rw [if_neg (by omega), if_neg (by omega), if_neg (by omega), if_neg (by omega), if_neg (by omega)]
  by_cases k5 : mv.kind = 5
  · rw [if_pos k5]
    by_cases s1 : mv.side = 1
    · rw [if_pos s1]
      exact (touch5h hG h hp hn mv dp dl dc hk hc k5 s1 ⟨by omega, h5 k5⟩).mono (fun e w' ⟨r1, r2, n', r3, r4⟩ => ⟨r1, wf1 (X := x) r2 (by omega) r4⟩)
    · rw [if_neg s1]
      by_cases r0 : ((x.cn k).d.tick mv.n).2 = 0
      · exact (touch5dy hG h hp hn mv dp dl dc hk hc k5 s1 ⟨by omega, h5 k5⟩ r0).mono (fun e w' ⟨r1, r2, n', r3, r4⟩ => ⟨r1, wf1 (X := x) r2 (by omega) r4⟩)
      · exact (touch5dn hG h hp hn mv dp dl dc hk hc k5 s1 ⟨by omega, h5 k5⟩ r0).mono (fun e w' ⟨r1, r2, n', r3, r4⟩ => ⟨r1, wf1 (X := x) r2 (by omega) r4⟩)
  rw [if_neg k5]
  by_cases k6 : mv.kind = 6
  · rw [if_pos k6]
    by_cases s1 : mv.side = 1
    · rw [if_pos s1]
      by_cases r0 : (x.cn k).h.ack.2 = 0
      · exact (touch6hy hG h hp hn mv dp dl dc hk hc k6 s1 r0).mono (fun e w' ⟨r1, r2, n', r3, r4⟩ => ⟨r1, wf1 (X := x) r2 (by omega) r4⟩)
      · exact (touch6hn hG h hp hn mv dp dl dc hk hc k6 s1 r0).mono (fun e w' ⟨r1, r2, n', r3, r4⟩ => ⟨r1, wf1 (X := x) r2 (by omega) r4⟩)
    · rw [if_neg s1]
      by_cases r0 : (x.cn k).d.ack.2 = 0
      · exact (touch6dy hG h hp hn mv dp dl dc hk hc k6 s1 r0).mono (fun e w' ⟨r1, r2, n', r3, r4⟩ => ⟨r1, wf1 (X := x) r2 (by omega) r4⟩)
      · exact (touch6dn hG h hp hn mv dp dl dc hk hc k6 s1 r0).mono (fun e w' ⟨r1, r2, n', r3, r4⟩ => ⟨r1, wf1 (X := x) r2 (by omega) r4⟩)
  rw [if_neg k6]
  have k7 : mv.kind = 7 := by omega
  by_cases s1 : mv.side = 1
  · rw [if_pos s1]
    exact (touch7h hG h hp hn mv dp dl dc hk hc k7 s1 q.h).mono (fun e w' ⟨r1, r2, n', r3, r4⟩ => ⟨r1, wf1 (X := x) r2 (by omega) r4⟩)
  · rw [if_neg s1]
    by_cases r0 : ((x.cn k).d.reset mv.n).2 = 0
    · exact (touch7dy hG h hp hn mv dp dl dc hk hc k7 s1 q.d ⟨by omega, h2⟩ r0).mono (fun e w' ⟨r1, r2, n', r3, r4⟩ => ⟨r1, wf1 (X := x) r2 (by omega) r4⟩)
    · exact (touch7dn hG h hp hn mv dp dl dc hk hc k7 s1 q.d ⟨by omega, h2⟩ r0).mono (fun e w' ⟨r1, r2, n', r3, r4⟩ => ⟨r1, wf1 (X := x) r2 (by omega) r4⟩)
end WdC
end Go.Proofs.YtinaliblnihpbaaGreat
