/- The walks and the plain laws of TopF, TopG, TopJ, S17a. -/
import Derived.Test.YtinaliblnihpbaaGreatZ23
import Derived.Test.YtinaliblnihpbaaGreatZ01
set_option linter.unusedVariables false
set_option linter.unusedSimpArgs false
namespace Go.Proofs.YtinaliblnihpbaaGreat.TopC
open Go Go.RowKit Gf Hp Sl Ow Rw TM ParW WdC NetC EncW HostC DevC ValveC UEnc
def rowL (mv : Mv) (mp : Option Addr) (ml mc : Nat) (code sent : Int) (h : TM.End) (hp : Option Addr) (hl hc : Nat) (d : TM.End) (dp : Option Addr) (dl dc : Nat) : List Value := [.int .i64 mv.kind, .int .i64 mv.conn, .int .i64 mv.side, .int .i64 mv.frame, .int .i64 mv.at', .int .u32 mv.word, .int .i64 mv.n, .bool mv.hold, .slice mp ml mc, .int .i64 code, .int .i64 sent, .int .i64 h.state, .int .u32 h.ses, .int .u32 h.num, .int .u32 h.sent, .int .i64 h.since, .int .i64 h.latched, .bool h.request, .bool h.on, .slice hp hl hc, .int .i64 d.state, .int .u32 d.ses, .int .u32 d.num, .int .u32 d.sent, .int .i64 d.since, .int .i64 d.latched, .bool d.request, .bool d.on, .slice dp dl dc]
theorem rowV_L (mv : Mv) (mp : Option Addr) (ml mc : Nat) (code sent : Int) (h : TM.End) (hp : Option Addr) (hl hc : Nat) (d : TM.End) (dp : Option Addr) (dl dc : Nat) : rowV mv mp ml mc code sent h hp hl hc d dp dl dc = .agg (rowL mv mp ml mc code sent h hp hl hc d dp dl dc).toArray := rfl
def mvS : Mv := ⟨2, 0, 0, 0, 0, 0, 0, false, []⟩
def mvD : Mv := ⟨3, 0, 2, 0, 0, 0, 0, false, []⟩
theorem lone_good : NetC.Good [small] := by
  refine ⟨fun p hp => ?_, fun i j p q hij hi hj => ?_⟩
  · simp at hp; subst hp; exact ⟨by decide, by decide, by decide, by decide, by decide⟩
  · have := (List.getElem?_eq_some_iff.1 hj).1; simp at this; omega
theorem aw2 (h : H) (sig : List Int) : ((⟨h, D.new small 50, sig⟩ : Cn).play mvD ⟨1, 7, 0, 0, 0, sig⟩).2.1.isSome = true ∧ ((⟨h, D.new small 50, sig⟩ : Cn).play mvD ⟨1, 7, 0, 0, 0, sig⟩).1.d.state = 2 := by
  have e : (⟨h, D.new small 50, sig⟩ : Cn).play mvD ⟨1, 7, 0, 0, 0, sig⟩ = ({ h := h, d := ((D.new small 50).asked sig ⟨1, 7, 0, 0, 0, sig⟩).1, sig := sig }, ((D.new small 50).asked sig ⟨1, 7, 0, 0, 0, sig⟩).2.1, ((D.new small 50).asked sig ⟨1, 7, 0, 0, 0, sig⟩).2.2) := rfl
  rw [e]
  unfold D.asked
  rw [if_pos rfl, if_neg (by decide)]
  unfold D.begin
  rw [if_neg (by decide), if_pos (by decide)]
  exact ⟨rfl, rfl⟩
def xA : Wd := net0 [small] 50
theorem xA_f : xA.fault mvS = 0 := by decide
theorem xA_next : xA.next mvS = ⟨[⟨{ H.new small with waits := true }, D.new small 50, sigB small⟩], [⟨1, 7, 0, 0, 0, sigB small⟩], 1⟩ := rfl
theorem xB_f : (xA.next mvS).fault mvD = 0 := by rw [xA_next]; rfl
theorem xB_step : ((xA.next mvS).step mvD).2.1.isSome = true ∧ ((xA.next mvS).step mvD).1.d.state = 2 := by rw [xA_next]; exact aw2 _ _
theorem xB_row : ((xA.next mvS).row mvD).sent = 1 ∧ ((xA.next mvS).row mvD).dev.state = 2 := by
  unfold Wd.row
  refine ⟨?_, xB_step.2⟩
  show (if ((xA.next mvS).step mvD).2.1.isSome then ((xA.next mvS).bag.length : Int) else -1) = 1
  rw [if_pos xB_step.1]; rfl
theorem xC_len : ((xA.next mvS).next mvD).bag.length = 2 ∧ ((xA.next mvS).next mvD).moves = 2 := by
  refine ⟨?_, rfl⟩
  obtain ⟨u, hu⟩ := Option.isSome_iff_exists.1 xB_step.1
  show ((xA.next mvS).bag ++ ((xA.next mvS).step mvD).2.1.toList).length = 2
  rw [hu]; rfl
variable {X X' : Nat → Prop} {w w' : World} {b : Nat} {x : Wd} {k : Nat} {mv : Mv}
theorem LW.movesC (h : LW X w b x) : Calls Tryz.prog 33 #[.pointer (some ⟨b, 0, none⟩)] w fun e w' => e = .returned (.int .i64 x.moves) ∧ w' = w := by
  obtain ⟨G, nh, nd, mx, cv, ca, cs, bb, n, hG, hx, ⟨lab, fv, fa, xs, hw⟩, hn, hok⟩ := h
  have c6 := hw.t0.top.cell 6 rfl
  clear hw hok
  go_enter Tryz.func33, Tryz.ntmps33
  go_wp2_with fail
  go_ret
  exact ⟨rfl, rfl⟩
theorem mvok (mv : Mv) (e : mv.data = []) (hw : mv.word = 0) (hn : mv.n = 0) : MvOk mv := ⟨by rw [e]; intro z hz; simp at hz, by rw [e]; decide, by rw [hw]; decide, by rw [hn]; decide⟩
set_option maxRecDepth 100000 in
set_option maxHeartbeats 3200000 in
theorem awake_call (w : World) : Calls Tryz.prog 12 #[] w fun e w' => e = .returned (.bool true) ∧ Kept [] w w' := by
  go_enter Tryz.func12, Tryz.ntmps12
  go_wp2_with fail
  refine (lone_call _).mono ?_
  rintro e w1 ⟨v, rfl, hv⟩
  have K1 := Lib.hid (show Kept [] w w1 from by obtain ⟨_, _, _, _, _, _, q, _⟩ := hv; exact q)
  have NW := Lib.hid (new_world v [small] w hv lone_good (by decide) (by decide))
  clear hv
  go_wp2_with fail
  refine NW.out.mono ?_
  rintro e w2 ⟨b, rfl, k2, hw⟩
  have K2 := Lib.hid (K1.out.trans k2)
  have L2 := Lib.hid (show LW (fun i => i < w.heap.size) w2 b xA from hw.weak (fun i hi => Nat.lt_of_lt_of_le hi K1.out.size))
  clear k2 hw NW
  have P1 := LW.play (mv := mvS) (dp := none) (dc := 0) L2.out (mvok _ rfl rfl rfl) (.inl ⟨rfl, rfl⟩) (fun b' off n c e => by cases e)
  rw [xA_f] at P1
  have P1 : Hid (Calls Tryz.prog 14 #[.pointer (some ⟨b, 0, none⟩), .agg #[.int .i64 2, .int .i64 0, .int .i64 0, .int .i64 0, .int .i64 0, .int .u32 0, .int .i64 0, .bool false, .slice none 0 0]] w2 _) := Lib.hid P1
  go_wp2_with fail
  refine P1.out.mono ?_
  rintro e w3 ⟨mp, ml, mc, code, sent, hh, s1, l1, c1, dd, s2, l2, c2, mv', rfl, sp, lw, hr⟩
  have sn : sent = 0 := (hr trivial).1.2.2.2.1
  subst sn
  have K3 := Lib.hid (kg_nil (Nat.le_refl _) ((KG.nil (G := fun i => w.heap.size ≤ i) K2.out).trans (KG.shed sp (fun i _ q => Nat.le_of_not_lt q))))
  have L3 := Lib.hid (show LW (fun i => i < w.heap.size) w3 b (xA.next mvS) from by have := lw; unfold Wd.play at this; rw [if_pos xA_f] at this; exact this)
  clear sp lw hr
  rw [rowV_L]
  unfold rowL
  iterate 14 (first | go_values | go_skip | go_guarded | go_step | go_upon | go_back | (simp only [Int.not_lt, Int.not_le] at *; go_simp) | (go_values <;> (try go_simp)))
  refine wpList_put (o := 0) (Has.new w3 44 [.int .i64 0, .int .i64 0, .int .i64 0, .int .i64 0, .int .i64 0, .int .u32 0, .int .i64 0, .bool false, .slice none 0 0, .int .i64 0, .int .i64 0, .int .i64 0, .int .u32 0, .int .u32 0, .int .u32 0, .int .i64 0, .int .i64 0, .bool false, .bool false, .slice none 0 0, .int .i64 0, .int .u32 0, .int .u32 0, .int .u32 0, .int .i64 0, .int .i64 0, .bool false, .bool false, .slice none 0 0]) [.int .i64 mv'.kind, .int .i64 mv'.conn, .int .i64 mv'.side, .int .i64 mv'.frame, .int .i64 mv'.at', .int .u32 mv'.word, .int .i64 mv'.n, .bool mv'.hold, .slice mp ml mc, .int .i64 code, .int .i64 0, .int .i64 hh.state, .int .u32 hh.ses, .int .u32 hh.num, .int .u32 hh.sent, .int .i64 hh.since, .int .i64 hh.latched, .bool hh.request, .bool hh.on, .slice s1 l1 c1, .int .i64 dd.state, .int .u32 dd.ses, .int .u32 dd.num, .int .u32 dd.sent, .int .i64 dd.since, .int .i64 dd.latched, .bool dd.request, .bool dd.on, .slice s2 l2 c2] 44 (.tmp 3) (.tmp 21) rfl rfl rfl rfl (Nat.le_refl 29) infoR rfl ?_
  obtain ⟨ew4, qw4⟩ := puts_all [.int .i64 mv'.kind, .int .i64 mv'.conn, .int .i64 mv'.side, .int .i64 mv'.frame, .int .i64 mv'.at', .int .u32 mv'.word, .int .i64 mv'.n, .bool mv'.hold, .slice mp ml mc, .int .i64 code, .int .i64 0, .int .i64 hh.state, .int .u32 hh.ses, .int .u32 hh.num, .int .u32 hh.sent, .int .i64 hh.since, .int .i64 hh.latched, .bool hh.request, .bool hh.on, .slice s1 l1 c1, .int .i64 dd.state, .int .u32 dd.ses, .int .u32 dd.num, .int .u32 dd.sent, .int .i64 dd.since, .int .i64 dd.latched, .bool dd.request, .bool dd.on, .slice s2 l2 c2] (Has.new w3 44 [.int .i64 0, .int .i64 0, .int .i64 0, .int .i64 0, .int .i64 0, .int .u32 0, .int .i64 0, .bool false, .slice none 0 0, .int .i64 0, .int .i64 0, .int .i64 0, .int .u32 0, .int .u32 0, .int .u32 0, .int .i64 0, .int .i64 0, .bool false, .bool false, .slice none 0 0, .int .i64 0, .int .u32 0, .int .u32 0, .int .u32 0, .int .i64 0, .int .i64 0, .bool false, .bool false, .slice none 0 0]) rfl
  have Qw4 := Lib.hid (((Kept.refl [] w3).alloc (.cells #[.int .i64 0, .int .i64 0, .int .i64 0, .int .i64 0, .int .i64 0, .int .u32 0, .int .i64 0, .bool false, .slice none 0 0, .int .i64 0, .int .i64 0, .int .i64 0, .int .u32 0, .int .u32 0, .int .u32 0, .int .i64 0, .int .i64 0, .bool false, .bool false, .slice none 0 0, .int .i64 0, .int .u32 0, .int .u32 0, .int .u32 0, .int .i64 0, .int .i64 0, .bool false, .bool false, .slice none 0 0] 44)).fresh qw4 (by intro i hi hl; simp at hi; omega))
  have Ew4 := Lib.hid ew4
  clear ew4 qw4
  generalize (w3.alloc (.cells #[.int .i64 0, .int .i64 0, .int .i64 0, .int .i64 0, .int .i64 0, .int .u32 0, .int .i64 0, .bool false, .slice none 0 0, .int .i64 0, .int .i64 0, .int .i64 0, .int .u32 0, .int .u32 0, .int .u32 0, .int .i64 0, .int .i64 0, .bool false, .bool false, .slice none 0 0, .int .i64 0, .int .u32 0, .int .u32 0, .int .u32 0, .int .i64 0, .int .i64 0, .bool false, .bool false, .slice none 0 0] 44)).setCells w3.heap.size 0 [.int .i64 mv'.kind, .int .i64 mv'.conn, .int .i64 mv'.side, .int .i64 mv'.frame, .int .i64 mv'.at', .int .u32 mv'.word, .int .i64 mv'.n, .bool mv'.hold, .slice mp ml mc, .int .i64 code, .int .i64 0, .int .i64 hh.state, .int .u32 hh.ses, .int .u32 hh.num, .int .u32 hh.sent, .int .i64 hh.since, .int .i64 hh.latched, .bool hh.request, .bool hh.on, .slice s1 l1 c1, .int .i64 dd.state, .int .u32 dd.ses, .int .u32 dd.num, .int .u32 dd.sent, .int .i64 dd.since, .int .i64 dd.latched, .bool dd.request, .bool dd.on, .slice s2 l2 c2] = w4 at Qw4 Ew4 ⊢
  obtain ⟨RA, hRA⟩ : ∃ R, R = w3.heap.size := ⟨_, rfl⟩
  rw [← hRA] at Ew4 ⊢
  have RAL := Lib.hid (Nat.le_of_eq hRA.symm)
  clear hRA
  have K4 := Lib.hid (K3.out.trans Qw4.out)
  have L4 := Lib.hid (L3.out.step (X' := fun i => i < w.heap.size ∨ i = RA) Qw4.out (by simp) (fun i hi => by
    rcases hi with hi | rfl
    · exact .inl hi
    · exact .inr ⟨RAL.out, Ew4.out.lt⟩))
  have P2 := LW.play (mv := mvD) (dp := none) (dc := 0) L4.out (mvok _ rfl rfl rfl) (.inl ⟨rfl, rfl⟩) (fun b' off n c e => by cases e)
  rw [xB_f] at P2
  have P2 : Hid (Calls Tryz.prog 14 #[.pointer (some ⟨b, 0, none⟩), .agg #[.int .i64 3, .int .i64 0, .int .i64 2, .int .i64 0, .int .i64 0, .int .u32 0, .int .i64 0, .bool false, .slice none 0 0]] w4 _) := Lib.hid P2
  clear K3 L3 P1
  go_wp2_with fail
  refine P2.out.mono ?_
  rintro e w5 ⟨mp2, ml2, mc2, code2, sent2, hh2, s12, l12, c12, dd2, s22, l22, c22, mv2', rfl, sp, lw, hr⟩
  have sn : sent2 = 1 := (hr trivial).1.2.2.2.1.trans xB_row.1
  have sd : dd2.state = 2 := by rw [(hr trivial).1.2.2.2.2.2.1]; exact xB_row.2
  subst sn
  have SD := Lib.hid sd
  have K5 := Lib.hid (kg_nil (Nat.le_refl _) ((KG.nil (G := fun i => w.heap.size ≤ i) K4.out).trans (KG.shed sp (fun i _ q => Nat.le_of_not_lt (fun z => q (.inl z))))))
  have L5 := Lib.hid (show LW (fun i => i < w.heap.size ∨ i = RA) w5 b ((xA.next mvS).next mvD) from by have := lw; unfold Wd.play at this; rw [if_pos xB_f] at this; exact this)
  have E5 := Lib.hid (sp.has Ew4.out (.inr rfl))
  clear sp lw hr sd P2 L4 K4
  rw [rowV_L]
  unfold rowL
  iterate 14 (first | go_values | go_skip | go_guarded | go_step | go_upon | go_back | (simp only [Int.not_lt, Int.not_le] at *; go_simp) | (go_values <;> (try go_simp)))
  refine wpList_put (o := 0) (Has.new w5 44 [.int .i64 0, .int .i64 0, .int .i64 0, .int .i64 0, .int .i64 0, .int .u32 0, .int .i64 0, .bool false, .slice none 0 0, .int .i64 0, .int .i64 0, .int .i64 0, .int .u32 0, .int .u32 0, .int .u32 0, .int .i64 0, .int .i64 0, .bool false, .bool false, .slice none 0 0, .int .i64 0, .int .u32 0, .int .u32 0, .int .u32 0, .int .i64 0, .int .i64 0, .bool false, .bool false, .slice none 0 0]) [.int .i64 mv2'.kind, .int .i64 mv2'.conn, .int .i64 mv2'.side, .int .i64 mv2'.frame, .int .i64 mv2'.at', .int .u32 mv2'.word, .int .i64 mv2'.n, .bool mv2'.hold, .slice mp2 ml2 mc2, .int .i64 code2, .int .i64 1, .int .i64 hh2.state, .int .u32 hh2.ses, .int .u32 hh2.num, .int .u32 hh2.sent, .int .i64 hh2.since, .int .i64 hh2.latched, .bool hh2.request, .bool hh2.on, .slice s12 l12 c12, .int .i64 dd2.state, .int .u32 dd2.ses, .int .u32 dd2.num, .int .u32 dd2.sent, .int .i64 dd2.since, .int .i64 dd2.latched, .bool dd2.request, .bool dd2.on, .slice s22 l22 c22] 44 (.tmp 4) (.tmp 27) rfl rfl rfl rfl (Nat.le_refl 29) infoR rfl ?_
  obtain ⟨ew6, qw6⟩ := puts_all [.int .i64 mv2'.kind, .int .i64 mv2'.conn, .int .i64 mv2'.side, .int .i64 mv2'.frame, .int .i64 mv2'.at', .int .u32 mv2'.word, .int .i64 mv2'.n, .bool mv2'.hold, .slice mp2 ml2 mc2, .int .i64 code2, .int .i64 1, .int .i64 hh2.state, .int .u32 hh2.ses, .int .u32 hh2.num, .int .u32 hh2.sent, .int .i64 hh2.since, .int .i64 hh2.latched, .bool hh2.request, .bool hh2.on, .slice s12 l12 c12, .int .i64 dd2.state, .int .u32 dd2.ses, .int .u32 dd2.num, .int .u32 dd2.sent, .int .i64 dd2.since, .int .i64 dd2.latched, .bool dd2.request, .bool dd2.on, .slice s22 l22 c22] (Has.new w5 44 [.int .i64 0, .int .i64 0, .int .i64 0, .int .i64 0, .int .i64 0, .int .u32 0, .int .i64 0, .bool false, .slice none 0 0, .int .i64 0, .int .i64 0, .int .i64 0, .int .u32 0, .int .u32 0, .int .u32 0, .int .i64 0, .int .i64 0, .bool false, .bool false, .slice none 0 0, .int .i64 0, .int .u32 0, .int .u32 0, .int .u32 0, .int .i64 0, .int .i64 0, .bool false, .bool false, .slice none 0 0]) rfl
  have Qw6 := Lib.hid (((Kept.refl [] w5).alloc (.cells #[.int .i64 0, .int .i64 0, .int .i64 0, .int .i64 0, .int .i64 0, .int .u32 0, .int .i64 0, .bool false, .slice none 0 0, .int .i64 0, .int .i64 0, .int .i64 0, .int .u32 0, .int .u32 0, .int .u32 0, .int .i64 0, .int .i64 0, .bool false, .bool false, .slice none 0 0, .int .i64 0, .int .u32 0, .int .u32 0, .int .u32 0, .int .i64 0, .int .i64 0, .bool false, .bool false, .slice none 0 0] 44)).fresh qw6 (by intro i hi hl; simp at hi; omega))
  have Ew6 := Lib.hid ew6
  clear ew6 qw6
  generalize (w5.alloc (.cells #[.int .i64 0, .int .i64 0, .int .i64 0, .int .i64 0, .int .i64 0, .int .u32 0, .int .i64 0, .bool false, .slice none 0 0, .int .i64 0, .int .i64 0, .int .i64 0, .int .u32 0, .int .u32 0, .int .u32 0, .int .i64 0, .int .i64 0, .bool false, .bool false, .slice none 0 0, .int .i64 0, .int .u32 0, .int .u32 0, .int .u32 0, .int .i64 0, .int .i64 0, .bool false, .bool false, .slice none 0 0] 44)).setCells w5.heap.size 0 [.int .i64 mv2'.kind, .int .i64 mv2'.conn, .int .i64 mv2'.side, .int .i64 mv2'.frame, .int .i64 mv2'.at', .int .u32 mv2'.word, .int .i64 mv2'.n, .bool mv2'.hold, .slice mp2 ml2 mc2, .int .i64 code2, .int .i64 1, .int .i64 hh2.state, .int .u32 hh2.ses, .int .u32 hh2.num, .int .u32 hh2.sent, .int .i64 hh2.since, .int .i64 hh2.latched, .bool hh2.request, .bool hh2.on, .slice s12 l12 c12, .int .i64 dd2.state, .int .u32 dd2.ses, .int .u32 dd2.num, .int .u32 dd2.sent, .int .i64 dd2.since, .int .i64 dd2.latched, .bool dd2.request, .bool dd2.on, .slice s22 l22 c22] = w6 at Qw6 Ew6 ⊢
  generalize w5.heap.size = RB at Ew6 ⊢
  have K6 := Lib.hid (K5.out.trans Qw6.out)
  have L6 := Lib.hid (L5.out.nil Qw6.out)
  have a10 := (Qw6.out.has E5.out (by simp)).cell 10 rfl
  have b10 := Ew6.out.cell 10 rfl
  have b20 := Ew6.out.cell 20 rfl
  rw [SD.out] at b20
  have FC := Lib.hid L6.out.frames
  have MC := Lib.hid L6.out.movesC
  have la := (Qw6.out.has E5.out (by simp)).lt
  have lb := Ew6.out.lt
  go_wp2_with fail
  refine FC.out.mono ?_
  rintro e w7 ⟨rfl, rfl⟩
  rw [xC_len.1]
  go_wp2_with fail
  refine MC.out.mono ?_
  rintro e w8 ⟨rfl, rfl⟩
  rw [xC_len.2]
  go_wp2_with fail
  go_ret
  exact ⟨rfl, K6.out⟩
end Go.Proofs.YtinaliblnihpbaaGreat.TopC
namespace Go.Proofs.YtinaliblnihpbaaGreat.TopC
open Go Go.RowKit Gf Hp Sl Ow Rw TM ParW WdC NetC EncW HostC DevC ValveC UEnc Fit
variable {X X' : Nat → Prop} {w w' : World} {b : Nat} {x : Wd} {k : Nat} {mv : Mv}
theorem mv_cells {w : World} {n : Nat} {cs : List Value} (h : Fits Tryz.prog w n 38 cs) :
    ∃ (x0 : Int) (x1 : Int) (x2 : Int) (x3 : Int) (x4 : Int) (x5 : Int) (x6 : Int) (x7 : Bool) (x8 : Option Addr) (lx8 : Nat) (cx8 : Nat), cs = [.int .i64 x0, .int .i64 x1, .int .i64 x2, .int .i64 x3, .int .i64 x4, .int .u32 x5, .int .i64 x6, .bool x7, .slice x8 lx8 cx8] ∧ (Lit.int .i64 x0).wf = true ∧ (Lit.int .i64 x1).wf = true ∧ (Lit.int .i64 x2).wf = true ∧ (Lit.int .i64 x3).wf = true ∧ (Lit.int .i64 x4).wf = true ∧ (Lit.int .u32 x5).wf = true ∧ (Lit.int .i64 x6).wf = true ∧ (∃ n, Fits Tryz.prog w n 36 [.slice x8 lx8 cx8]) := by
  have hl := fits_len Tryz.underlying38 h 9 (by kernel_rfl)
  match cs, hl with
  | [v0, v1, v2, v3, v4, v5, v6, v7, v8], _ =>
  obtain ⟨n1, h1⟩ := fits_field Tryz.underlying38 h 0 _ rfl 1 (by kernel_rfl) [v0] rfl
  obtain ⟨x0, e1, w1⟩ := fits_int Tryz.underlying34 h1
  obtain rfl : v0 = .int .i64 x0 := (List.cons.inj e1).1
  obtain ⟨n2, h2⟩ := fits_field Tryz.underlying38 h 1 _ rfl 1 (by kernel_rfl) [v1] rfl
  obtain ⟨x1, e2, w2⟩ := fits_int Tryz.underlying3 h2
  obtain rfl : v1 = .int .i64 x1 := (List.cons.inj e2).1
  obtain ⟨n3, h3⟩ := fits_field Tryz.underlying38 h 2 _ rfl 1 (by kernel_rfl) [v2] rfl
  obtain ⟨x2, e3, w3⟩ := fits_int Tryz.underlying35 h3
  obtain rfl : v2 = .int .i64 x2 := (List.cons.inj e3).1
  obtain ⟨n4, h4⟩ := fits_field Tryz.underlying38 h 3 _ rfl 1 (by kernel_rfl) [v3] rfl
  obtain ⟨x3, e4, w4⟩ := fits_int Tryz.underlying3 h4
  obtain rfl : v3 = .int .i64 x3 := (List.cons.inj e4).1
  obtain ⟨n5, h5⟩ := fits_field Tryz.underlying38 h 4 _ rfl 1 (by kernel_rfl) [v4] rfl
  obtain ⟨x4, e5, w5⟩ := fits_int Tryz.underlying3 h5
  obtain rfl : v4 = .int .i64 x4 := (List.cons.inj e5).1
  obtain ⟨n6, h6⟩ := fits_field Tryz.underlying38 h 5 _ rfl 1 (by kernel_rfl) [v5] rfl
  obtain ⟨x5, e6, w6⟩ := fits_int Tryz.underlying24 h6
  obtain rfl : v5 = .int .u32 x5 := (List.cons.inj e6).1
  obtain ⟨n7, h7⟩ := fits_field Tryz.underlying38 h 6 _ rfl 1 (by kernel_rfl) [v6] rfl
  obtain ⟨x6, e7, w7⟩ := fits_int Tryz.underlying3 h7
  obtain rfl : v6 = .int .i64 x6 := (List.cons.inj e7).1
  obtain ⟨n8, h8⟩ := fits_field Tryz.underlying38 h 7 _ rfl 1 (by kernel_rfl) [v7] rfl
  obtain ⟨x7, e8⟩ := fits_bool Tryz.underlying4 h8
  obtain rfl : v7 = .bool x7 := (List.cons.inj e8).1
  obtain ⟨n9, h9⟩ := fits_field Tryz.underlying38 h 8 _ rfl 1 (by kernel_rfl) [v8] rfl
  obtain ⟨x8, lx8, cx8, e9⟩ := fits_slice Tryz.underlying36 h9
  obtain rfl : v8 = .slice x8 lx8 cx8 := (List.cons.inj e9).1
  exact ⟨x0, x1, x2, x3, x4, x5, x6, x7, x8, lx8, cx8, rfl, w1, w2, w3, w4, w5, w6, w7, ⟨_, h9⟩⟩
theorem by_of {l : List Int} (hw : ∀ i, i < l.length → (Lit.int .u8 (l.getD i 0)).wf = true) : Gf.By l := by
  intro z hz
  obtain ⟨i, hi, rfl⟩ := List.getElem_of_mem hz
  have := hw i hi
  rw [List.getD_eq_getElem?_getD, List.getElem?_eq_getElem hi, Option.getD_some] at this
  simp [Lit.wf, IntKind.min, IntKind.max, IntKind.signed, IntKind.bits] at this
  omega
theorem i64_of {z : Int} (h : (Lit.int .i64 z).wf = true) : -9223372036854775808 ≤ z ∧ z < 9223372036854775808 := by
  simp [Lit.wf, IntKind.min, IntKind.max, IntKind.signed, IntKind.bits] at h
  omega
theorem u32_of {z : Int} (h : (Lit.int .u32 z).wf = true) : 0 ≤ z ∧ z < 4294967296 := by
  simp [Lit.wf, IntKind.min, IntKind.max, IntKind.signed, IntKind.bits] at h
  omega
theorem mv_read {W : World} {n : Nat} {cs : List Value} (h : Fits Tryz.prog W n 38 cs) : ∃ (mv : Mv) (dp : Option Addr) (dc : Nat), cs = mcs mv dp mv.data.length dc ∧ Bytes W (.slice dp mv.data.length dc) mv.data ∧ MvOk mv
    ∧ (-9223372036854775808 ≤ mv.conn ∧ mv.conn < 9223372036854775808) ∧ (-9223372036854775808 ≤ mv.side ∧ mv.side < 9223372036854775808) ∧ (-9223372036854775808 ≤ mv.frame ∧ mv.frame < 9223372036854775808) := by
  obtain ⟨x0, x1, x2, x3, x4, x5, x6, x7, p, l, c, rfl, h0, h1, h2, h3, h4, h5, h6, m, hf⟩ := mv_cells h
  obtain ⟨a, rfl, ha, hl, wa⟩ := bytes_of_fits hf
  exact ⟨⟨x0, x1, x2, x3, x4, x5, x6, x7, a⟩, p, c, rfl, ha, ⟨by_of wa, by show a.length ≤ _; unfold reachBytes at hl; omega, u32_of h5, (i64_of h6).2⟩, i64_of h1, i64_of h2, i64_of h3⟩
structure MvAt (W : World) (b off i : Nat) (mv : Mv) (dp : Option Addr) (dc : Nat) : Prop where
  block : b < W.heap.size
  cells : ∀ j, j < 9 → W.cell? ⟨b, off + i * 9 + j, none⟩ = (mcs mv dp mv.data.length dc)[j]?
  bytes : Bytes W (.slice dp mv.data.length dc) mv.data
  ok : MvOk mv
theorem mv_at {W : World} {n : Nat} {x : Option Addr} {len cap : Nat} (hf : Fits Tryz.prog W n 22 [.slice x len cap]) :
    len ≤ maxLen ∧ (len = 0 ∨ ∃ b off, x = some ⟨b, off, none⟩ ∧ ∀ i, i < len → ∃ mv dp dc, MvAt W b off i mv dp dc) := by
  obtain ⟨_, hm, _, _, hp⟩ := fits_elems Tryz.underlying22 hf 9 88 (by kernel_rfl) (by kernel_rfl) (by decide)
  refine ⟨hm, ?_⟩
  rcases hp with h | ⟨b, off, rfl, hb, hel⟩
  · exact .inl h
  · refine .inr ⟨b, off, rfl, fun i hi => ?_⟩
    obtain ⟨m, cs, hcl, hcc, hfit⟩ := hel i hi
    obtain ⟨mv, dp, dc, rfl, hb2, ho, _⟩ := mv_read hfit
    exact ⟨mv, dp, dc, hb, hcc, hb2, ho⟩
theorem MvAt.cell {W w : World} {b off i : Nat} {mv : Mv} {dp : Option Addr} {dc : Nat} (h : MvAt W b off i mv dp dc) (K : Kept [] W w) (j : Nat) (hj : j < 9) : w.cell? ⟨b, off + i * 9 + j, none⟩ = (mcs mv dp mv.data.length dc)[j]? := by
  rw [K.cell h.block (by simp), h.cells j hj]
theorem Spared.nil {W : World} (K : Kept [] W w) (s : Spared X w w') (hX : ∀ i, i < W.heap.size → X i) : Kept [] W w' :=
  kg_nil (Nat.le_refl _) ((KG.nil (G := fun i => W.heap.size ≤ i) K).trans (KG.shed s (fun i _ q => Nat.le_of_not_lt (fun z => q (hX i z)))))
theorem LW.playM {w0 : World} {dp : Option Addr} {dc : Nat} (h0 : LW X w0 b x) (k : Kept [] w0 w) (hm : MvOk mv) (hd : Made w0 w (.slice dp mv.data.length dc) mv.data) :
    Calls Tryz.prog 14 #[.pointer (some ⟨b, 0, none⟩), mvV mv dp mv.data.length dc] w fun e w' => ∃ mp ml mc code sent hh s1 l1 c1 dd s2 l2 c2 mv', e = .returned (.tuple #[rowV mv' mp ml mc code sent hh s1 l1 c1 dd s2 l2 c2, .int .i64 (x.fault mv)]) ∧ Spared X w w' ∧ LW X w' b (x.play mv)
      ∧ (x.fault mv = 0 → (mv' = mv ∧ ml = mv.data.length ∧ code = (x.row mv).code ∧ sent = (x.row mv).sent ∧ hh = (x.row mv).host ∧ dd = (x.row mv).dev ∧ l1 = hh.out.length ∧ l2 = dd.out.length) ∧ Outs w w' (.slice s1 l1 c1) hh.out ∧ Outs w w' (.slice s2 l2 c2) dd.out) := by
  have h1 : LW (fun i => X i ∨ ∃ off, dp = some ⟨i, off, none⟩) w b x := h0.step k (by simp) (fun i hi => by
    rcases hi with hi | ⟨off, rfl⟩
    · exact .inl hi
    · refine .inr ⟨hd.2 i rfl, ?_⟩
      rcases hd.1 with ⟨e, _⟩ | ⟨g, ho⟩
      · cases e
      · obtain ⟨cap, cur, e, hh, _⟩ := id ho
        cases e; exact hh.lt)
  refine (LW.play h1 hm hd.bytes (fun b' off n c e => ?_)).mono ?_
  · cases e
    rcases hd.1 with ⟨e, _⟩ | ⟨g, ho⟩
    · cases e
    · obtain ⟨cap, cur, e, hh, _⟩ := id ho
      cases e; exact ⟨hh.lt, .inr ⟨_, rfl⟩⟩
  · rintro e w' ⟨mp, ml, mc, code, sent, hh, s1, l1, c1, dd, s2, l2, c2, mv', rfl, sp, lw, hr⟩
    exact ⟨mp, ml, mc, code, sent, hh, s1, l1, c1, dd, s2, l2, c2, mv', rfl, KG.shed sp (fun i _ q r => q (.inl r)), lw.weak (fun i q => .inl q), hr⟩
end Go.Proofs.YtinaliblnihpbaaGreat.TopC
namespace Go.Proofs.YtinaliblnihpbaaGreat.TopC
open Go Go.RowKit Gf Hp Sl Ow Rw TM ParW WdC NetC EncW HostC DevC ValveC UEnc Fit
variable {X X' : Nat → Prop} {w w' : World} {b : Nat} {x : Wd} {k : Nat} {mv : Mv}
theorem garbled_step (x : Wd) (mv : Mv) (hk : mv.kind = 4) : (x.step mv).1 = x.cn mv.conn.toNat ∧ (x.step mv).2.1 = none ∧ ((x.step mv).2.2 = 42 ∨ ((x.step mv).2.2 = 70 ∧ mv.side ≠ 1 ∧ (x.cn mv.conn.toNat).d.state = 6)) := by
  unfold Wd.step
  generalize x.cn mv.conn.toNat = c
  obtain ⟨h, d, sig⟩ := c
  unfold Cn.play
  rw [if_neg (by omega), if_neg (by omega), if_neg (by omega), if_pos hk]
  unfold Cn.deliver
  by_cases hs : mv.side = 1
  · rw [if_pos hs]
    exact ⟨rfl, rfl, .inl rfl⟩
  · rw [if_neg hs]
    by_cases hd : d.state = 6
    · have e : d.receive sig U.zero 42 = (d, none, 70) := by unfold D.receive; rw [if_pos hd]
      show (⟨h, (d.receive sig U.zero 42).1, sig⟩ : Cn) = _ ∧ (d.receive sig U.zero 42).2.1 = none ∧ _
      rw [e]
      exact ⟨rfl, rfl, .inr ⟨rfl, hs, hd⟩⟩
    · have e : d.receive sig U.zero 42 = (d, none, 42) := by unfold D.receive; rw [if_neg hd]; rfl
      show (⟨h, (d.receive sig U.zero 42).1, sig⟩ : Cn) = _ ∧ (d.receive sig U.zero 42).2.1 = none ∧ _
      rw [e]
      exact ⟨rfl, rfl, .inl rfl⟩
theorem play_len (x : Wd) (mv : Mv) : (x.play mv).cs.length = x.cs.length ∧ (x.play mv).moves ≤ x.moves + 1 := by
  unfold Wd.play
  split
  · exact ⟨by simp [Wd.next], Int.le_refl _⟩
  · exact ⟨rfl, by omega⟩
theorem garbled_fault (x : Wd) (mv : Mv) (hk : mv.kind = 4) (hm : x.moves < 4096) (hc : 0 ≤ mv.conn ∧ mv.conn < x.cs.length) (hs : mv.side = 1 ∨ mv.side = 2) : x.fault mv = 0 ∨ x.fault mv = 151 ∨ x.fault mv = 30 := by
  unfold Wd.fault burstErr
  rw [if_neg (by omega), if_neg (by omega), if_neg (by omega), if_neg (by omega), if_neg (by omega), if_pos hk]
  split
  · exact .inr (.inl rfl)
  · split
    · exact .inr (.inr rfl)
    · exact .inl rfl
def mvG (mo : Mv) (c s : Nat) (f : Int) : Mv := ⟨4, c, 1 + (s : Int), f, mo.at', mo.word, mo.n, mo.hold, mo.data⟩
theorem Spared.own {k : Nat} {v : Value} {l : List Int} (s : Spared X w w') (h : Own w k v l) (hX : X k) : Own w' k v l := by
  obtain ⟨cap, cur, e, h, r⟩ := h
  exact ⟨cap, cur, e, s.has h hX, r⟩
theorem umod (z m : Int) (h1 : 0 < m) (h2 : m ≤ 1000000) : ∃ j : Nat, (j : Int) < m ∧ wrap64 ((IntKind.u64.wrap z).tmod m) = (j : Int) := by
  have e : IntKind.u64.wrap z = z % 18446744073709551616 := by simp [IntKind.wrap, IntKind.bits, IntKind.signed]
  have a := Int.emod_nonneg (z % 18446744073709551616) (show m ≠ 0 by omega)
  have b := Int.emod_lt_of_pos (z % 18446744073709551616) h1
  rw [e, Int.tmod_eq_emod_of_nonneg (by omega)]
  generalize z % 18446744073709551616 % m = y at a b
  exact ⟨y.toNat, by omega, by unfold wrap64; omega⟩
def GRel (W : World) (X : Nat → Prop) (b len cs : Nat) (Q : World → Prop) (i : Value) (w : World) : Prop :=
  ∃ (k : Nat) (x : Wd), k ≤ len ∧ k ≤ 300 ∧ i = .int .i64 k ∧ Kept [] W w ∧ LW X w b x ∧ x.moves ≤ k ∧ x.cs.length = cs ∧ Q w
set_option maxRecDepth 100000 in
set_option maxHeartbeats 6400000 in
theorem TopGarbled_walk (xp : Option Addr) (len cap : Nat) (mo : Mv) (op : Option Addr) (oc : Nat) (w : World) (hm : len ≤ maxLen) (hp : len = 0 ∨ ∃ b off, xp = some ⟨b, off, none⟩ ∧ ∀ i, i < len → ∃ mv dp dc, MvAt w b off i mv dp dc)
    (ho : Bytes w (.slice op mo.data.length oc) mo.data) (hok : MvOk mo) (r1 : -9223372036854775808 ≤ mo.conn ∧ mo.conn < 9223372036854775808) (r2 : -9223372036854775808 ≤ mo.side ∧ mo.side < 9223372036854775808) (r3 : -9223372036854775808 ≤ mo.frame ∧ mo.frame < 9223372036854775808) :
    Calls Tryz.prog 5 #[.slice xp len cap, .agg #[.int .i64 mo.kind, .int .i64 mo.conn, .int .i64 mo.side, .int .i64 mo.frame, .int .i64 mo.at', .int .u32 mo.word, .int .i64 mo.n, .bool mo.hold, .slice op mo.data.length oc]] w fun e w' => e = .returned (.bool true) ∧ Below w.heap.size w w' := by
  unfold maxLen at hm
  have P' := Lib.hid hp
  have O' := Lib.hid (And.intro ho (And.intro hok (And.intro r1 (And.intro r2 r3))))
  clear hp ho hok r1 r2 r3
  go_enter Tryz.func5, Tryz.ntmps5
  go_upto_region 1 with (fail)
  have KA := Lib.hid ((Kept.refl [] w).alloc (.cells #[.int .i64 mo.kind, .int .i64 mo.conn, .int .i64 mo.side, .int .i64 mo.frame, .int .i64 mo.at', .int .u32 mo.word, .int .i64 mo.n, .bool mo.hold, .slice op mo.data.length oc] 38))
  have RA := Lib.hid (Has.new w 38 [.int .i64 mo.kind, .int .i64 mo.conn, .int .i64 mo.side, .int .i64 mo.frame, .int .i64 mo.at', .int .u32 mo.word, .int .i64 mo.n, .bool mo.hold, .slice op mo.data.length oc])
  generalize w.alloc (.cells #[.int .i64 mo.kind, .int .i64 mo.conn, .int .i64 mo.side, .int .i64 mo.frame, .int .i64 mo.at', .int .u32 mo.word, .int .i64 mo.n, .bool mo.hold, .slice op mo.data.length oc] 38) = wa at KA RA ⊢
  obtain ⟨R, hR⟩ : ∃ R, R = w.heap.size := ⟨_, rfl⟩
  rw [← hR] at RA ⊢
  have RR := Lib.hid (Nat.le_of_eq hR.symm)
  clear hR
  go_wp2_with fail
  refine (net1 _).mono ?_
  rintro e w1 ⟨v, rfl, hv⟩
  have K1 := Lib.hid (show Kept [] wa w1 from by obtain ⟨_, _, _, _, _, _, q, _⟩ := hv; exact q)
  have NW := Lib.hid (new_world v (pairs 2) wa hv (pairs_good 2 (by decide)) (by decide) (by decide))
  clear hv
  go_wp2_with fail
  refine NW.out.mono ?_
  rintro e w2 ⟨b, rfl, k2, lw⟩
  have K2 := Lib.hid (K1.out.trans k2)
  have L2 := Lib.hid (lw.weak (X' := fun i => i < w.heap.size ∨ i = R) (fun i hi => by
    have := K1.out.size; have := KA.out.size; have := RA.out.lt
    show i < w1.heap.size
    rcases hi with hi | rfl <;> omega))
  clear k2 lw NW K1
  go_wp2_with fail
  refine (awake_call _).mono ?_
  rintro e w3 ⟨rfl, k3⟩
  have E3 := Lib.hid (k3.has (K2.out.has RA.out (by simp)) (by simp))
  have K3 := Lib.hid ((KA.out.trans K2.out).trans k3)
  have L3 := Lib.hid (L2.out.nil k3)
  clear k3 L2 K2 RA KA
  go_upto_block 0 with (fail)
  go_cut [] (fun wx => ∃ (k : Nat) (x : Wd), k ≤ 300 ∧ Kept [] w wx ∧ LW (fun i => i < w.heap.size ∨ i = R) wx b x ∧ x.moves ≤ k ∧ x.cs.length = 2 ∧ Has wx R 38 [.int .i64 mo.kind, .int .i64 mo.conn, .int .i64 mo.side, .int .i64 mo.frame, .int .i64 mo.at', .int .u32 mo.word, .int .i64 mo.n, .bool mo.hold, .slice op mo.data.length oc])
  case first =>
    go_wp2_with fail
    go_loopw [7] (GRel w (fun i => i < w.heap.size ∨ i = R) b len 2 (fun w' => Has w' R 38 [.int .i64 mo.kind, .int .i64 mo.conn, .int .i64 mo.side, .int .i64 mo.frame, .int .i64 mo.at', .int .u32 mo.word, .int .i64 mo.n, .bool mo.hold, .slice op mo.data.length oc])) (fun i _ => len - (intOf i).toNat)
    case atStart => exact ⟨0, _, Nat.zero_le _, by omega, rfl, K3.out, L3.out, by decide, rfl, E3.out⟩
    case round =>
      clear E3 K3 L3
      obtain ⟨k, x, hk, hk5, rfl, kr, lr, hmv, hcs, her⟩ := hrel
      rename_i wr
      have KR := Lib.hid kr
      have LR := Lib.hid lr
      have ER := Lib.hid her
      have MC := Lib.hid (And.intro hmv hcs)
      clear kr lr her hmv hcs
      by_cases hlt : k < len ∧ k < 300
      · obtain ⟨hlt, hlt5⟩ := hlt
        obtain ⟨bs, off, rfl, hel⟩ := P'.out.resolve_left (by omega)
        obtain ⟨mv, dp, dc, hop⟩ := hel k hlt
        clear hel
        have q0 : wr.cell? ⟨bs, off + k * 9, none⟩ = some (.int .i64 mv.kind) := hop.cell KR.out 0 (by decide)
        have q1 : wr.cell? ⟨bs, off + k * 9 + 1, none⟩ = some (.int .i64 mv.conn) := hop.cell KR.out 1 (by decide)
        have q2 : wr.cell? ⟨bs, off + k * 9 + 2, none⟩ = some (.int .i64 mv.side) := hop.cell KR.out 2 (by decide)
        have q3 : wr.cell? ⟨bs, off + k * 9 + 3, none⟩ = some (.int .i64 mv.frame) := hop.cell KR.out 3 (by decide)
        have q4 : wr.cell? ⟨bs, off + k * 9 + 4, none⟩ = some (.int .i64 mv.at') := hop.cell KR.out 4 (by decide)
        have q5 : wr.cell? ⟨bs, off + k * 9 + 5, none⟩ = some (.int .u32 mv.word) := hop.cell KR.out 5 (by decide)
        have q6 : wr.cell? ⟨bs, off + k * 9 + 6, none⟩ = some (.int .i64 mv.n) := hop.cell KR.out 6 (by decide)
        have q7 : wr.cell? ⟨bs, off + k * 9 + 7, none⟩ = some (.bool mv.hold) := hop.cell KR.out 7 (by decide)
        have q8 : wr.cell? ⟨bs, off + k * 9 + 8, none⟩ = some (.slice dp mv.data.length dc) := hop.cell KR.out 8 (by decide)
        have hbw : bs < wr.heap.size := by have := hop.block; have := KR.out.size; omega
        have CC := Lib.hid (copied_call dp dc (hop.bytes.kept KR.out (by simp)) hop.ok.len)
        have OK := Lib.hid hop.ok
        clear hop
        go_wp2_with fail
        refine CC.out.mono ?_
        rintro e w2' ⟨ep, ec, rfl, k2, hmd⟩
        have PP := Lib.hid (LW.playM LR.out k2 OK.out hmd)
        have K2 := Lib.hid k2
        clear CC k2 hmd q0 q1 q2 q3 q4 q5 q6 q7 q8
        go_wp2_with fail
        refine PP.out.mono ?_
        rintro e w3' ⟨mp, ml, mc, code, sent, hh, s1, l1, c1, dd, s2, l2, c2, mv', rfl, sp, lw, _⟩
        have K3 := Lib.hid (sp.nil (KR.out.trans K2.out) (fun i hi => .inl hi))
        have E3 := Lib.hid (sp.has (K2.out.has ER.out (by simp)) (.inr rfl))
        have L3 := Lib.hid lw
        have ML := Lib.hid (play_len x mv)
        clear sp lw PP LR ER KR K2
        go_wp2_with fail
        go_roundw
        case rel => exact ⟨k + 1, x.play mv, by omega, by omega, by go_num, K3.out, L3.out, by have := ML.out.2; have := MC.out.1; omega, ML.out.1.trans MC.out.2, E3.out⟩
        case measure => simp [intOf]; omega
      · go_wp2_with fail
        all_goals go_meet
        all_goals exact ⟨k, x, hk5, KR.out, LR.out, MC.out.1, MC.out.2, ER.out⟩
  obtain ⟨k, x, hk5, kr, lr, hmv, hcs, her⟩ := hcut
  have KR := Lib.hid kr
  have LR := Lib.hid lr
  have ER := Lib.hid her
  have MC := Lib.hid (And.intro hmv (And.intro hcs hk5))
  clear kr lr her hmv hcs hk5 E3 K3 L3
  have n0 := ER.out.cell 0 rfl
  have f0 := ER.out.free 0
  have n1 := ER.out.cell 1 rfl
  have f1 := ER.out.free 1
  have n2 := ER.out.cell 2 rfl
  have f2 := ER.out.free 2
  go_upto_region 11 with (fail)
  clear n0 f0 n1 f1 n2 f2
  obtain ⟨cj, hcj, ecj⟩ := umod mo.conn 2 (by decide) (by decide)
  obtain ⟨sj, hsj, esj⟩ := umod mo.side 2 (by decide) (by decide)
  rw [ecj, esj, show wrap64 (1 + (sj : Int)) = 1 + (sj : Int) from by unfold wrap64; omega]
  have CJ := Lib.hid (And.intro hcj hsj)
  have R4 := Lib.hid (((ER.out.set 0 (.int .i64 4)).set 1 (.int .i64 (cj : Int))).set 2 (.int .i64 (1 + (sj : Int))))
  have kl := Lib.hid ((((Kept.refl [R] wc).set ⟨R, 0, none⟩ (.int .i64 4) (by simp)).set ⟨R, 1, none⟩ (.int .i64 (cj : Int)) (by simp)).set ⟨R, 2, none⟩ (.int .i64 (1 + (sj : Int))) (by simp))
  generalize ((wc.setCell ⟨R, 0, none⟩ (.int .i64 4)).setCell ⟨R, 1, none⟩ (.int .i64 (cj : Int))).setCell ⟨R, 2, none⟩ (.int .i64 (1 + (sj : Int))) = w4 at R4 kl ⊢
  have K4 := Lib.hid (KR.out.fresh kl.out (by intro i hi hl; simp at hi; have := RR.out; omega))
  have L4 := Lib.hid (LR.out.step (X' := fun i => i < w.heap.size ∨ i = R) kl.out (by intro i hi _; simp at hi; exact .inr hi) (fun i hi => .inl hi))
  have R4 := Lib.hid (show Has w4 R 38 [.int .i64 4, .int .i64 (cj : Int), .int .i64 (1 + (sj : Int)), .int .i64 mo.frame, .int .i64 mo.at', .int .u32 mo.word, .int .i64 mo.n, .bool mo.hold, .slice op mo.data.length oc] from R4.out)
  clear kl ER LR KR ecj esj hcj hsj
  have FC := Lib.hid L4.out.frames
  go_wp2_with fail
  refine FC.out.mono ?_
  rintro e w5 ⟨rfl, rfl⟩
  clear FC
  go_upto_if 55 with (fail)
  go_cut [] (fun wx => ∃ fr : Int, Kept [R] w5 wx ∧ Has wx R 38 [.int .i64 4, .int .i64 (cj : Int), .int .i64 (1 + (sj : Int)), .int .i64 fr, .int .i64 mo.at', .int .u32 mo.word, .int .i64 mo.n, .bool mo.hold, .slice op mo.data.length oc])
  case first =>
    have n3 := R4.out.cell 3 rfl
    have f3 := R4.out.free 3
    have FC := Lib.hid (fun q => (L4.out.nil ((Kept.refl [] w5).drewN q)).frames)
    by_cases hb : x.bag.length = 0
    · rw [hb]
      go_wp2_with fail
      go_meet
      exact ⟨_, Kept.refl _ _, R4.out⟩
    · obtain ⟨n, hn⟩ : ∃ n, x.bag.length = n := ⟨_, rfl⟩
      have hle : (n : Int) ≤ 300 := by have := LW.ok L4.out |>.few; have := MC.out; omega
      rw [hn] at hb FC ⊢
      have hb1 : ((n : Int) > 0) := by omega
      have hn0 : ¬ ((n : Int) = 0) := by omega
      have hwz : IntKind.u64.wrap (n : Int) = (n : Int) := by simp [IntKind.wrap, IntKind.bits, IntKind.signed]; omega
      have dd : w5.drew.cell? ⟨R, 3, none⟩ = some (.int .i64 mo.frame) := n3
      go_wp2_with fail
      have FS := Lib.hid (show Calls Tryz.prog 17 #[.pointer (some ⟨b, 0, none⟩)] w5.drew fun e w' => e = .returned (.int .i64 (n : Int)) ∧ w' = w5.drew from FC.out 1)
      refine wp_region_still_tail 9 (by kernel_rfl) (by kernel_rfl) ?_
      simp only [List.take_succ_cons, List.take_zero, List.drop_succ_cons, List.drop_zero]
      repeat (first | still_step | still_call FS.out)
      refine wpStill_nil ?_
      change wpList _ _ _ _ _ w5.drew
      have f3' : w5.drew.frozen? ⟨R, 3, none⟩ = false := f3
      go_wp2_with fail
      go_meet
      exact ⟨_, ((Kept.refl [R] w5).set ⟨R, 3, none⟩ _ (by simp)).drew, (R4.out.set 3 _).drew⟩
  obtain ⟨fr, k6, e6⟩ := hcut
  have E6 := Lib.hid e6
  have K6 := Lib.hid (K4.out.fresh k6 (by intro i hi hl; simp at hi; have := RR.out; omega))
  have L6 := Lib.hid (L4.out.step (X' := fun i => i < w.heap.size ∨ i = R) k6 (by intro i hi _; simp at hi; exact .inr hi) (fun i hi => .inl hi))
  clear k6 e6 K4 L4 R4
  have EN := Lib.hid (LW.ends (k := cj) L6.out (by have := MC.out; have := CJ.out; omega))
  have n1 := E6.out.cell 1 rfl
  go_wp2_with fail
  refine EN.out.mono ?_
  rintro e w7 ⟨k1, c1, k2, c2, rfl, kk, g1, g2, o1, o2⟩
  have K7 := Lib.hid (K6.out.trans kk)
  have E7 := Lib.hid (kk.has E6.out (by simp))
  have O1 := Lib.hid o1
  have O2 := Lib.hid o2
  have GG := Lib.hid (And.intro kk (And.intro g1 g2))
  clear kk g1 g2 o1 o2 EN n1 E6 K6
  obtain ⟨h7, hh7⟩ : ∃ h7, (x.cn cj).h.see = h7 := ⟨_, rfl⟩
  obtain ⟨d7, hd7⟩ : ∃ d7, (x.cn cj).d.see = d7 := ⟨_, rfl⟩
  obtain ⟨y1, hy1⟩ : ∃ y1, (x.cn cj).h.v.out = y1 := ⟨_, rfl⟩
  obtain ⟨y2, hy2⟩ : ∃ y2, (x.cn cj).d.v.out = y2 := ⟨_, rfl⟩
  rw [hh7, hd7, hy1, hy2]
  rw [hy1] at O1
  rw [hy2] at O2
  have EQ := Lib.hid (And.intro hh7 (And.intro hd7 (And.intro hy1 hy2)))
  clear hh7 hd7 hy1 hy2
  unfold eval'
  go_upto_region 14 with (fail)
  have K8 := Lib.hid (((Kept.refl [] w7).alloc (.cells #[.int .i64 h7.state, .int .u32 h7.ses, .int .u32 h7.num, .int .u32 h7.sent, .int .i64 h7.since, .int .i64 h7.latched, .bool h7.request, .bool h7.on, .slice (some ⟨k1, 0, none⟩) y1.length c1] 42)).alloc (.cells #[.int .i64 d7.state, .int .u32 d7.ses, .int .u32 d7.num, .int .u32 d7.sent, .int .i64 d7.since, .int .i64 d7.latched, .bool d7.request, .bool d7.on, .slice (some ⟨k2, 0, none⟩) y2.length c2] 42))
  have H8 := Lib.hid ((Has.new w7 42 [.int .i64 h7.state, .int .u32 h7.ses, .int .u32 h7.num, .int .u32 h7.sent, .int .i64 h7.since, .int .i64 h7.latched, .bool h7.request, .bool h7.on, .slice (some ⟨k1, 0, none⟩) y1.length c1]).alloc (.cells #[.int .i64 d7.state, .int .u32 d7.ses, .int .u32 d7.num, .int .u32 d7.sent, .int .i64 d7.since, .int .i64 d7.latched, .bool d7.request, .bool d7.on, .slice (some ⟨k2, 0, none⟩) y2.length c2] 42))
  have D8 := Lib.hid (Has.new (w7.alloc (.cells #[.int .i64 h7.state, .int .u32 h7.ses, .int .u32 h7.num, .int .u32 h7.sent, .int .i64 h7.since, .int .i64 h7.latched, .bool h7.request, .bool h7.on, .slice (some ⟨k1, 0, none⟩) y1.length c1] 42)) 42 [.int .i64 d7.state, .int .u32 d7.ses, .int .u32 d7.num, .int .u32 d7.sent, .int .i64 d7.since, .int .i64 d7.latched, .bool d7.request, .bool d7.on, .slice (some ⟨k2, 0, none⟩) y2.length c2])
  rw [show (w7.alloc (.cells #[.int .i64 h7.state, .int .u32 h7.ses, .int .u32 h7.num, .int .u32 h7.sent, .int .i64 h7.since, .int .i64 h7.latched, .bool h7.request, .bool h7.on, .slice (some ⟨k1, 0, none⟩) y1.length c1] 42)).heap.size = w7.heap.size + 1 by simp] at D8
  generalize (w7.alloc (.cells #[.int .i64 h7.state, .int .u32 h7.ses, .int .u32 h7.num, .int .u32 h7.sent, .int .i64 h7.since, .int .i64 h7.latched, .bool h7.request, .bool h7.on, .slice (some ⟨k1, 0, none⟩) y1.length c1] 42)).alloc (.cells #[.int .i64 d7.state, .int .u32 d7.ses, .int .u32 d7.num, .int .u32 d7.sent, .int .i64 d7.since, .int .i64 d7.latched, .bool d7.request, .bool d7.on, .slice (some ⟨k2, 0, none⟩) y2.length c2] 42) = w8 at K8 H8 D8 ⊢
  obtain ⟨RH, hRH⟩ : ∃ R, R = w7.heap.size := ⟨_, rfl⟩
  obtain ⟨RD, hRD⟩ : ∃ R, R = w7.heap.size + 1 := ⟨_, rfl⟩
  rw [← hRH] at H8
  rw [← hRD] at D8
  rw [← hRD, ← hRH]
  have RS := Lib.hid (And.intro (Nat.le_of_eq hRH.symm) (show w7.heap.size ≤ RD by omega))
  clear hRH hRD
  have L8 := Lib.hid (L6.out.step (X' := fun i => i < w.heap.size ∨ i = R ∨ i = RH ∨ i = RD ∨ i = k1 ∨ i = k2) (GG.out.1.trans K8.out) (by simp) (fun i hi => by
    have a1 := H8.out.lt; have a2 := D8.out.lt; have a3 := GG.out.1.size; have a4 := K8.out.size; have a5 := O1.out.lt; have a6 := O2.out.lt; have a7 := RS.out; have a8 := GG.out.2
    rcases hi with hi | rfl | rfl | rfl | rfl | rfl
    · exact .inl (.inl hi)
    · exact .inl (.inr rfl)
    all_goals (refine .inr ⟨?_, ?_⟩ <;> omega)))
  have E8 := Lib.hid (K8.out.has E7.out (by simp))
  have P1 := Lib.hid (O1.out.kept K8.out (by simp))
  have P2 := Lib.hid (O2.out.kept K8.out (by simp))
  have Q8 := Lib.hid (K7.out.trans K8.out)
  clear O1 O2 E7 K7 L6 GG RS K8
  have q0 := E8.out.cell 0 rfl
  have q1 := E8.out.cell 1 rfl
  have q2 := E8.out.cell 2 rfl
  have q3 := E8.out.cell 3 rfl
  have q4 := E8.out.cell 4 rfl
  have q5 := E8.out.cell 5 rfl
  have q6 := E8.out.cell 6 rfl
  have q7 := E8.out.cell 7 rfl
  have q8 := E8.out.cell 8 rfl
  have CC : Hid (Calls Tryz.prog 13 #[.agg #[.int .i64 4, .int .i64 (cj : Int), .int .i64 (1 + (sj : Int)), .int .i64 fr, .int .i64 mo.at', .int .u32 mo.word, .int .i64 mo.n, .bool mo.hold, .slice op mo.data.length oc]] w8 fun e w' => ∃ ep ec, e = .returned (.agg #[.int .i64 4, .int .i64 (cj : Int), .int .i64 (1 + (sj : Int)), .int .i64 fr, .int .i64 mo.at', .int .u32 mo.word, .int .i64 mo.n, .bool mo.hold, .slice ep mo.data.length ec]) ∧ Kept [] w8 w' ∧ Made w8 w' (.slice ep mo.data.length ec) mo.data) := Lib.hid (copied_call (mv := mvG mo cj sj fr) op oc (O'.out.1.kept Q8.out (by simp)) O'.out.2.1.len)
  go_wp2_with fail
  refine CC.out.mono ?_
  rintro e w9 ⟨ep, ec, rfl, k9, hmd⟩
  have PP : Hid (Calls Tryz.prog 14 #[.pointer (some ⟨b, 0, none⟩), .agg #[.int .i64 4, .int .i64 (cj : Int), .int .i64 (1 + (sj : Int)), .int .i64 fr, .int .i64 mo.at', .int .u32 mo.word, .int .i64 mo.n, .bool mo.hold, .slice ep mo.data.length ec]] w9 _) := Lib.hid (LW.playM (mv := mvG mo cj sj fr) L8.out k9 ⟨O'.out.2.1.by_, O'.out.2.1.len, O'.out.2.1.word, O'.out.2.1.n⟩ hmd)
  have Q9 := Lib.hid (Q8.out.trans k9)
  have H9 := Lib.hid (k9.has H8.out (by simp))
  have D9 := Lib.hid (k9.has D8.out (by simp))
  have E9 := Lib.hid (k9.has E8.out (by simp))
  have P19 := Lib.hid (P1.out.kept k9 (by simp))
  have P29 := Lib.hid (P2.out.kept k9 (by simp))
  clear q0 q1 q2 q3 q4 q5 q6 q7 q8 CC k9 hmd L8 E8 P1 P2 Q8 H8 D8
  go_wp2_with fail
  refine PP.out.mono ?_
  rintro e wp ⟨mp, ml, mc, code, sent, hh, s1, l1, c3, dd, s2, l2, c4, mv', rfl, sp, _, hr⟩
  have FV := Lib.hid (garbled_fault x (mvG mo cj sj fr) rfl (by have := MC.out; omega) (by have := MC.out; have := CJ.out; show 0 ≤ (cj : Int) ∧ (cj : Int) < _; omega) (by have := CJ.out; show 1 + (sj : Int) = 1 ∨ 1 + (sj : Int) = 2; omega))
  have HR := Lib.hid hr
  have QP := Lib.hid (sp.nil Q9.out (fun i hi => .inl hi))
  have HP := Lib.hid (sp.has H9.out (.inr (.inr (.inl rfl))))
  have DP := Lib.hid (sp.has D9.out (.inr (.inr (.inr (.inl rfl)))))
  have EP := Lib.hid (sp.has E9.out (.inr (.inl rfl)))
  have PA := Lib.hid (sp.own P19.out (.inr (.inr (.inr (.inr (.inl rfl))))))
  have PB := Lib.hid (sp.own P29.out (.inr (.inr (.inr (.inr (.inr rfl))))))
  clear hr sp PP Q9 H9 D9 E9 P19 P29
  obtain ⟨ft, hft⟩ : ∃ ft, x.fault (mvG mo cj sj fr) = ft := ⟨_, rfl⟩
  rw [hft] at FV HR ⊢
  clear hft
  rw [rowV_L]
  unfold rowL
  iterate 14 (first | go_values | go_skip | go_guarded | go_step | go_upon | go_back | (simp only [Int.not_lt, Int.not_le] at *; go_simp) | (go_values <;> (try go_simp)))
  refine wpList_put (o := 0) (Has.new wp 44 [.int .i64 0, .int .i64 0, .int .i64 0, .int .i64 0, .int .i64 0, .int .u32 0, .int .i64 0, .bool false, .slice none 0 0, .int .i64 0, .int .i64 0, .int .i64 0, .int .u32 0, .int .u32 0, .int .u32 0, .int .i64 0, .int .i64 0, .bool false, .bool false, .slice none 0 0, .int .i64 0, .int .u32 0, .int .u32 0, .int .u32 0, .int .i64 0, .int .i64 0, .bool false, .bool false, .slice none 0 0]) [.int .i64 mv'.kind, .int .i64 mv'.conn, .int .i64 mv'.side, .int .i64 mv'.frame, .int .i64 mv'.at', .int .u32 mv'.word, .int .i64 mv'.n, .bool mv'.hold, .slice mp ml mc, .int .i64 code, .int .i64 sent, .int .i64 hh.state, .int .u32 hh.ses, .int .u32 hh.num, .int .u32 hh.sent, .int .i64 hh.since, .int .i64 hh.latched, .bool hh.request, .bool hh.on, .slice s1 l1 c3, .int .i64 dd.state, .int .u32 dd.ses, .int .u32 dd.num, .int .u32 dd.sent, .int .i64 dd.since, .int .i64 dd.latched, .bool dd.request, .bool dd.on, .slice s2 l2 c4] 44 (.tmp 10) (.tmp 77) rfl rfl rfl rfl (Nat.le_refl 29) infoR rfl ?_
  obtain ⟨ew, qw⟩ := puts_all [.int .i64 mv'.kind, .int .i64 mv'.conn, .int .i64 mv'.side, .int .i64 mv'.frame, .int .i64 mv'.at', .int .u32 mv'.word, .int .i64 mv'.n, .bool mv'.hold, .slice mp ml mc, .int .i64 code, .int .i64 sent, .int .i64 hh.state, .int .u32 hh.ses, .int .u32 hh.num, .int .u32 hh.sent, .int .i64 hh.since, .int .i64 hh.latched, .bool hh.request, .bool hh.on, .slice s1 l1 c3, .int .i64 dd.state, .int .u32 dd.ses, .int .u32 dd.num, .int .u32 dd.sent, .int .i64 dd.since, .int .i64 dd.latched, .bool dd.request, .bool dd.on, .slice s2 l2 c4] (Has.new wp 44 [.int .i64 0, .int .i64 0, .int .i64 0, .int .i64 0, .int .i64 0, .int .u32 0, .int .i64 0, .bool false, .slice none 0 0, .int .i64 0, .int .i64 0, .int .i64 0, .int .u32 0, .int .u32 0, .int .u32 0, .int .i64 0, .int .i64 0, .bool false, .bool false, .slice none 0 0, .int .i64 0, .int .u32 0, .int .u32 0, .int .u32 0, .int .i64 0, .int .i64 0, .bool false, .bool false, .slice none 0 0]) rfl
  have QW := Lib.hid (((Kept.refl [] wp).alloc (.cells #[.int .i64 0, .int .i64 0, .int .i64 0, .int .i64 0, .int .i64 0, .int .u32 0, .int .i64 0, .bool false, .slice none 0 0, .int .i64 0, .int .i64 0, .int .i64 0, .int .u32 0, .int .u32 0, .int .u32 0, .int .i64 0, .int .i64 0, .bool false, .bool false, .slice none 0 0, .int .i64 0, .int .u32 0, .int .u32 0, .int .u32 0, .int .i64 0, .int .i64 0, .bool false, .bool false, .slice none 0 0] 44)).fresh qw (by intro i hi hl; simp at hi; omega))
  have EW := Lib.hid ew
  clear ew qw
  generalize (wp.alloc (.cells #[.int .i64 0, .int .i64 0, .int .i64 0, .int .i64 0, .int .i64 0, .int .u32 0, .int .i64 0, .bool false, .slice none 0 0, .int .i64 0, .int .i64 0, .int .i64 0, .int .u32 0, .int .u32 0, .int .u32 0, .int .i64 0, .int .i64 0, .bool false, .bool false, .slice none 0 0, .int .i64 0, .int .u32 0, .int .u32 0, .int .u32 0, .int .i64 0, .int .i64 0, .bool false, .bool false, .slice none 0 0] 44)).setCells wp.heap.size 0 [.int .i64 mv'.kind, .int .i64 mv'.conn, .int .i64 mv'.side, .int .i64 mv'.frame, .int .i64 mv'.at', .int .u32 mv'.word, .int .i64 mv'.n, .bool mv'.hold, .slice mp ml mc, .int .i64 code, .int .i64 sent, .int .i64 hh.state, .int .u32 hh.ses, .int .u32 hh.num, .int .u32 hh.sent, .int .i64 hh.since, .int .i64 hh.latched, .bool hh.request, .bool hh.on, .slice s1 l1 c3, .int .i64 dd.state, .int .u32 dd.ses, .int .u32 dd.num, .int .u32 dd.sent, .int .i64 dd.since, .int .i64 dd.latched, .bool dd.request, .bool dd.on, .slice s2 l2 c4] = wz at QW EW ⊢
  generalize wp.heap.size = RA at EW ⊢
  have QZ := Lib.hid (QP.out.trans QW.out)
  rcases FV.out with rfl | rfl | rfl
  · obtain ⟨⟨hm1, hm2, hc, hs, hh', hd', hl1, hl2⟩, o1, o2⟩ := HR.out rfl
    clear hm1 hm2 hl1 hl2
    obtain ⟨z1, z2, z3⟩ := garbled_step x (mvG mo cj sj fr) rfl
    have es : sent = -1 := by rw [hs]; show (if _ then _ else _) = _; rw [z2]; rfl
    have eh : h7 = hh := by symm; rw [hh', ← EQ.out.1]; show (x.step _).1.h.see = _; rw [z1]; rfl
    have ed : d7 = dd := by symm; rw [hd', ← EQ.out.2.1]; show (x.step _).1.d.see = _; rw [z1]; rfl
    have z3 : code = 42 ∨ (code = 70 ∧ sj = 1 ∧ d7.state = 6) := by
      rw [hc, ← EQ.out.2.1]
      rcases z3 with z | ⟨z, y, u⟩
      · exact .inl z
      · exact .inr ⟨z, by have := CJ.out; have : 1 + (sj : Int) ≠ 1 := y; omega, u⟩
    have e1 : h7.out = y1 := by rw [← EQ.out.1, ← EQ.out.2.2.1]; rfl
    have e2 : d7.out = y2 := by rw [← EQ.out.2.1, ← EQ.out.2.2.2]; rfl
    subst es eh ed
    have B1 := Lib.hid (show Bytes wz (.slice s1 l1 c3) y1 from by obtain ⟨_, _, o⟩ := o1; rw [← e1]; exact (Own.bytes o).kept QW.out (by simp))
    have B2 := Lib.hid (show Bytes wz (.slice s2 l2 c4) y2 from by obtain ⟨_, _, o⟩ := o2; rw [← e2]; exact (Own.bytes o).kept QW.out (by simp))
    have A1 := Lib.hid (show Bytes wz (.slice (some ⟨k1, 0, none⟩) y1.length c1) y1 from (Own.bytes PA.out).kept QW.out (by simp))
    have A2 := Lib.hid (show Bytes wz (.slice (some ⟨k2, 0, none⟩) y2.length c2) y2 from (Own.bytes PB.out).kept QW.out (by simp))
    have HZ := Lib.hid (QW.out.has HP.out (by simp))
    have DZ := Lib.hid (QW.out.has DP.out (by simp))
    have EZ := Lib.hid (QW.out.has EP.out (by simp))
    have Z3 := Lib.hid z3
    clear o1 o2 z1 z2 z3 hc hs hh' hd' e1 e2 HP DP EP PA PB HR FV EQ
    have S1 : Hid (Calls Tryz.prog 18 #[.agg #[.int .i64 h7.state, .int .u32 h7.ses, .int .u32 h7.num, .int .u32 h7.sent, .int .i64 h7.since, .int .i64 h7.latched, .bool h7.request, .bool h7.on, .slice (some ⟨k1, 0, none⟩) y1.length c1], .agg #[.int .i64 h7.state, .int .u32 h7.ses, .int .u32 h7.num, .int .u32 h7.sent, .int .i64 h7.since, .int .i64 h7.latched, .bool h7.request, .bool h7.on, .slice s1 l1 c3]] wz fun r w' => r = .returned (.bool true) ∧ Kept [] wz w') := Lib.hid (same_call h7 (some ⟨k1, 0, none⟩) s1 y1.length c1 l1 c3 y1 A1.out B1.out)
    have S2 : Hid (∀ w', Kept [] wz w' → Calls Tryz.prog 18 #[.agg #[.int .i64 d7.state, .int .u32 d7.ses, .int .u32 d7.num, .int .u32 d7.sent, .int .i64 d7.since, .int .i64 d7.latched, .bool d7.request, .bool d7.on, .slice (some ⟨k2, 0, none⟩) y2.length c2], .agg #[.int .i64 d7.state, .int .u32 d7.ses, .int .u32 d7.num, .int .u32 d7.sent, .int .i64 d7.since, .int .i64 d7.latched, .bool d7.request, .bool d7.on, .slice s2 l2 c4]] w' fun r w'' => r = .returned (.bool true) ∧ Kept [] w' w'') := Lib.hid (fun w' q => same_call d7 (some ⟨k2, 0, none⟩) s2 y2.length c2 l2 c4 y2 (A2.out.kept q (by simp)) (B2.out.kept q (by simp)))
    have c9 := EW.out.cell 9 rfl
    have c10 := EW.out.cell 10 rfl
    have r2 := EZ.out.cell 2 rfl
    have d0 := DZ.out.cell 0 rfl
    go_upto_region 17 with (fail)
    go_cut [105] (fun s wx => s = .bool false ∧ wx = wz)
    case first =>
      rcases Z3.out with rfl | ⟨rfl, rfl, hd⟩
      · go_wp2_with fail
        go_meet
        exact ⟨rfl, rfl⟩
      · have hds : (d7.state == 6) = true := by simp [hd]
        go_wp2_with fail
        go_meet
        exact ⟨rfl, rfl⟩
    obtain ⟨rfl, rfl⟩ := hcut
    clear d0
    have a0 := HZ.out.cell 0 rfl
    have a1 := HZ.out.cell 1 rfl
    have a2 := HZ.out.cell 2 rfl
    have a3 := HZ.out.cell 3 rfl
    have a4 := HZ.out.cell 4 rfl
    have a5 := HZ.out.cell 5 rfl
    have a6 := HZ.out.cell 6 rfl
    have a7 := HZ.out.cell 7 rfl
    have a8 := HZ.out.cell 8 rfl
    have b0 := EW.out.cell 11 rfl
    have b1 := EW.out.cell 12 rfl
    have b2 := EW.out.cell 13 rfl
    have b3 := EW.out.cell 14 rfl
    have b4 := EW.out.cell 15 rfl
    have b5 := EW.out.cell 16 rfl
    have b6 := EW.out.cell 17 rfl
    have b7 := EW.out.cell 18 rfl
    have b8 := EW.out.cell 19 rfl
    go_wp2_with fail
    refine S1.out.mono ?_
    rintro e w1' ⟨rfl, k1'⟩
    have K1' := Lib.hid k1'
    clear k1'
    clear a0 b0 a1 b1 a2 b2 a3 b3 a4 b4 a5 b5 a6 b6 a7 b7 a8 b8
    have a0 := (K1'.out.has DZ.out (by simp)).cell 0 rfl
    have a1 := (K1'.out.has DZ.out (by simp)).cell 1 rfl
    have a2 := (K1'.out.has DZ.out (by simp)).cell 2 rfl
    have a3 := (K1'.out.has DZ.out (by simp)).cell 3 rfl
    have a4 := (K1'.out.has DZ.out (by simp)).cell 4 rfl
    have a5 := (K1'.out.has DZ.out (by simp)).cell 5 rfl
    have a6 := (K1'.out.has DZ.out (by simp)).cell 6 rfl
    have a7 := (K1'.out.has DZ.out (by simp)).cell 7 rfl
    have a8 := (K1'.out.has DZ.out (by simp)).cell 8 rfl
    have b0 := (K1'.out.has EW.out (by simp)).cell 20 rfl
    have b1 := (K1'.out.has EW.out (by simp)).cell 21 rfl
    have b2 := (K1'.out.has EW.out (by simp)).cell 22 rfl
    have b3 := (K1'.out.has EW.out (by simp)).cell 23 rfl
    have b4 := (K1'.out.has EW.out (by simp)).cell 24 rfl
    have b5 := (K1'.out.has EW.out (by simp)).cell 25 rfl
    have b6 := (K1'.out.has EW.out (by simp)).cell 26 rfl
    have b7 := (K1'.out.has EW.out (by simp)).cell 27 rfl
    have b8 := (K1'.out.has EW.out (by simp)).cell 28 rfl
    go_wp2_with fail
    refine (S2.out _ K1'.out).mono ?_
    rintro e w2' ⟨rfl, k2'⟩
    go_wp2_with fail
    go_ret
    exact ⟨rfl, ((QZ.out.trans K1'.out).trans k2').toBelow (by simp)⟩
  all_goals go_wp2_with fail
  all_goals go_ret
  all_goals exact ⟨rfl, QZ.out.toBelow (by simp)⟩
end Go.Proofs.YtinaliblnihpbaaGreat.TopC
namespace Go.Proofs.YtinaliblnihpbaaGreat.TopC
open Go Go.RowKit Hp Sl TM WdC Fit
theorem TopGarbled_law (xp : Option Addr) (len cap : Nat) (cs : Array Value) (w : World) (hf : ∃ n, Fits Tryz.prog w n 22 [.slice xp len cap]) (hz : cs.size = 9) (h : ∃ n, Fits Tryz.prog w n 38 (Value.agg cs).cells.toList) :
    Calls Tryz.prog 5 #[.slice xp len cap, .agg cs] w fun e w' => e = .returned (.bool true) ∧ Below w.heap.size w w' := by
  obtain ⟨_, hf⟩ := hf
  obtain ⟨_, h⟩ := h
  obtain ⟨hm, hp⟩ := mv_at hf
  obtain ⟨mo, op, oc, e, ho, hok, r1, r2, r3⟩ := mv_read h
  obtain ⟨cl⟩ := cs
  obtain rfl : cl = _ := e
  exact TopGarbled_walk xp len cap mo op oc w hm hp ho hok r1 r2 r3
end Go.Proofs.YtinaliblnihpbaaGreat.TopC
