/- The walks and the plain laws of TopF, TopG, TopJ, RfA, RfB, RfC, RfD, RfE, RfF. -/
import Derived.Test.YtinaliblnihpbaaGreatY23
import Derived.Test.YtinaliblnihpbaaGreatY01
import Derived.Test.YtinaliblnihpbaaGreatY05
import Derived.Test.YtinaliblnihpbaaGreatY04
import Derived.Deep.CutBlock
import Derived.Test.YtinaliblnihpbaaGreatY06
import Derived.Test.YtinaliblnihpbaaGreatY16
set_option linter.unusedVariables false
set_option linter.unusedSimpArgs false
open Go.Lib (hid)
namespace Go.Proofs.YtinaliblnihpbaaGreat
namespace TopC
open Go Go.RowKit Gf Hp Sl Ow Rw TM ParW WdC NetC EncW HostC DevC ValveC UEnc
def rowL (mv : Mv) (mp : Option Addr) (ml mc : Nat) (code sent : Int) (h : TM.End) (hp : Option Addr) (hl hc : Nat) (d : TM.End) (dp : Option Addr) (dl dc : Nat) : List Value := [.int .i64 mv.kind, .int .i64 mv.conn, .int .i64 mv.side, .int .i64 mv.frame, .int .i64 mv.at', .int .u32 mv.word, .int .i64 mv.n, .bool mv.hold, .slice mp ml mc, .int .i64 code, .int .i64 sent, .int .i64 h.state, .int .u32 h.ses, .int .u32 h.num, .int .u32 h.sent, .int .i64 h.since, .int .i64 h.latched, .bool h.request, .bool h.on, .slice hp hl hc, .int .i64 d.state, .int .u32 d.ses, .int .u32 d.num, .int .u32 d.sent, .int .i64 d.since, .int .i64 d.latched, .bool d.request, .bool d.on, .slice dp dl dc]
theorem rowV_L (mv : Mv) (mp : Option Addr) (ml mc : Nat) (code sent : Int) (h : TM.End) (hp : Option Addr) (hl hc : Nat) (d : TM.End) (dp : Option Addr) (dl dc : Nat) : rowV mv mp ml mc code sent h hp hl hc d dp dl dc = .agg (rowL mv mp ml mc code sent h hp hl hc d dp dl dc).toArray := rfl
def mvS : Mv := ⟨2, 0, 0, 0, 0, 0, 0, false, []⟩
def mvD : Mv := ⟨3, 0, 2, 0, 0, 0, 0, false, []⟩
theorem lone_good : NetC.Good [small] := by
  refine ⟨fun p hp => ?_, fun i j p q hij hi hj => ?_⟩
  · simp at hp; subst hp; exact ⟨by decide, by decide, by decide, by decide, by decide⟩
  · have := (List.getElem?_eq_some_iff.1 hj).1; simp at this; omega
theorem aw2 (h : H) (sig : List Int) : ((⟨h, D.new small 50, sig⟩ : Cn).play mvD ⟨1, 7, 0, 0, 0, sig⟩).2.1.isSome = true ∧ ((⟨h, D.new small 50, sig⟩ : Cn).play mvD ⟨1, 7, 0, 0, 0, sig⟩).1.d.state = 2 := by
  have e : (⟨h, D.new small 50, sig⟩ : Cn).play mvD ⟨1, 7, 0, 0, 0, sig⟩ = ({ h := h, d := ((D.new small 50).asked sig ⟨1, 7, 0, 0, 0, sig⟩).1, sig := sig }, ((D.new small 50).asked sig ⟨1, 7, 0, 0, 0, sig⟩).2.1, ((D.new small 50).asked sig ⟨1, 7, 0, 0, 0, sig⟩).2.2) := rfl
  rw [e]
  unfold D.asked
  rw [if_pos rfl, if_neg (by decide)]
  unfold D.begin
  rw [if_neg (by decide), if_pos (by decide)]
  exact ⟨rfl, rfl⟩
def xA : Wd := net0 [small] 50
theorem xA_f : xA.fault mvS = 0 := by decide
theorem xA_next : xA.next mvS = ⟨[⟨{ H.new small with waits := true }, D.new small 50, sigB small⟩], [⟨1, 7, 0, 0, 0, sigB small⟩], 1⟩ := rfl
theorem xB_f : (xA.next mvS).fault mvD = 0 := by rw [xA_next]; rfl
theorem xB_step : ((xA.next mvS).step mvD).2.1.isSome = true ∧ ((xA.next mvS).step mvD).1.d.state = 2 := by rw [xA_next]; exact aw2 _ _
theorem xB_row : ((xA.next mvS).row mvD).sent = 1 ∧ ((xA.next mvS).row mvD).dev.state = 2 := by
  unfold Wd.row
  refine ⟨?_, xB_step.2⟩
  show (if ((xA.next mvS).step mvD).2.1.isSome then ((xA.next mvS).bag.length : Int) else -1) = 1
  rw [if_pos xB_step.1]; rfl
theorem xC_len : ((xA.next mvS).next mvD).bag.length = 2 ∧ ((xA.next mvS).next mvD).moves = 2 := by
  refine ⟨?_, rfl⟩
  obtain ⟨u, hu⟩ := Option.isSome_iff_exists.1 xB_step.1
  show ((xA.next mvS).bag ++ ((xA.next mvS).step mvD).2.1.toList).length = 2
  rw [hu]; rfl
variable {X X' : Nat → Prop} {w w' : World} {b : Nat} {x : Wd} {k : Nat} {mv : Mv}
theorem LW.movesC (h : LW X w b x) : Calls Tryz.prog 33 #[.pointer (some ⟨b, 0, none⟩)] w fun e w' => e = .returned (.int .i64 x.moves) ∧ w' = w := by
  obtain ⟨G, nh, nd, mx, cv, ca, cs, bb, n, hG, hx, ⟨lab, fv, fa, xs, hw⟩, hn, hok⟩ := h
  have c6 := hw.t0.top.cell 6 rfl
  clear hw hok
  go_enter Tryz.func33, Tryz.ntmps33
  go_wp2_with fail
  go_ret
  exact ⟨rfl, rfl⟩
theorem mvok (mv : Mv) (e : mv.data = []) (hw : mv.word = 0) (hn : mv.n = 0) : MvOk mv := ⟨by rw [e]; intro z hz; simp at hz, by rw [e]; decide, by rw [hw]; decide, by rw [hn]; decide⟩
set_option maxRecDepth 100000 in
set_option maxHeartbeats 3200000 in
theorem awake_call (w : World) : Calls Tryz.prog 12 #[] w fun e w' => e = .returned (.bool true) ∧ Kept [] w w' := by
  go_enter Tryz.func12, Tryz.ntmps12
  go_wp2_with fail
  refine (lone_call _).mono ?_
  rintro e w1 ⟨v, rfl, hv⟩
  have K1 := hid (show Kept [] w w1 from by obtain ⟨_, _, _, _, _, _, q, _⟩ := hv; exact q)
  have NW := hid (new_world v [small] w hv lone_good (by decide) (by decide))
  clear hv
  go_wp2_with fail
  refine NW.out.mono ?_
  rintro e w2 ⟨b, rfl, k2, hw⟩
  have K2 := hid (K1.out.trans k2)
  have L2 := hid (show LW (fun i => i < w.heap.size) w2 b xA from hw.weak (fun i hi => Nat.lt_of_lt_of_le hi K1.out.size))
  clear k2 hw NW
  have P1 := LW.play (mv := mvS) (dp := none) (dc := 0) L2.out (mvok _ rfl rfl rfl) (.inl ⟨rfl, rfl⟩) (fun b' off n c e => by cases e)
  rw [xA_f] at P1
  have P1 : Hid (Calls Tryz.prog 14 #[.pointer (some ⟨b, 0, none⟩), .agg #[.int .i64 2, .int .i64 0, .int .i64 0, .int .i64 0, .int .i64 0, .int .u32 0, .int .i64 0, .bool false, .slice none 0 0]] w2 _) := hid P1
  go_wp2_with fail
  refine P1.out.mono ?_
  rintro e w3 ⟨mp, ml, mc, code, sent, hh, s1, l1, c1, dd, s2, l2, c2, mv', rfl, sp, lw, hr⟩
  have sn : sent = 0 := (hr trivial).1.2.2.2.1
  subst sn
  have K3 := hid (kg_nil (Nat.le_refl _) ((KG.nil (G := fun i => w.heap.size ≤ i) K2.out).trans (KG.shed sp (fun i _ q => Nat.le_of_not_lt q))))
  have L3 := hid (show LW (fun i => i < w.heap.size) w3 b (xA.next mvS) from by have := lw; unfold Wd.play at this; rw [if_pos xA_f] at this; exact this)
  clear sp lw hr
  rw [rowV_L]
  unfold rowL
  iterate 14 (first | go_values | go_skip | go_guarded | go_step | go_upon | go_back | (simp only [Int.not_lt, Int.not_le] at *; go_simp) | (go_values <;> (try go_simp)))
  refine wpList_put (o := 0) (Has.new w3 44 [.int .i64 0, .int .i64 0, .int .i64 0, .int .i64 0, .int .i64 0, .int .u32 0, .int .i64 0, .bool false, .slice none 0 0, .int .i64 0, .int .i64 0, .int .i64 0, .int .u32 0, .int .u32 0, .int .u32 0, .int .i64 0, .int .i64 0, .bool false, .bool false, .slice none 0 0, .int .i64 0, .int .u32 0, .int .u32 0, .int .u32 0, .int .i64 0, .int .i64 0, .bool false, .bool false, .slice none 0 0]) [.int .i64 mv'.kind, .int .i64 mv'.conn, .int .i64 mv'.side, .int .i64 mv'.frame, .int .i64 mv'.at', .int .u32 mv'.word, .int .i64 mv'.n, .bool mv'.hold, .slice mp ml mc, .int .i64 code, .int .i64 0, .int .i64 hh.state, .int .u32 hh.ses, .int .u32 hh.num, .int .u32 hh.sent, .int .i64 hh.since, .int .i64 hh.latched, .bool hh.request, .bool hh.on, .slice s1 l1 c1, .int .i64 dd.state, .int .u32 dd.ses, .int .u32 dd.num, .int .u32 dd.sent, .int .i64 dd.since, .int .i64 dd.latched, .bool dd.request, .bool dd.on, .slice s2 l2 c2] 44 (.tmp 3) (.tmp 21) rfl rfl rfl rfl (Nat.le_refl 29) infoR rfl ?_
  obtain ⟨ew4, qw4⟩ := puts_all [.int .i64 mv'.kind, .int .i64 mv'.conn, .int .i64 mv'.side, .int .i64 mv'.frame, .int .i64 mv'.at', .int .u32 mv'.word, .int .i64 mv'.n, .bool mv'.hold, .slice mp ml mc, .int .i64 code, .int .i64 0, .int .i64 hh.state, .int .u32 hh.ses, .int .u32 hh.num, .int .u32 hh.sent, .int .i64 hh.since, .int .i64 hh.latched, .bool hh.request, .bool hh.on, .slice s1 l1 c1, .int .i64 dd.state, .int .u32 dd.ses, .int .u32 dd.num, .int .u32 dd.sent, .int .i64 dd.since, .int .i64 dd.latched, .bool dd.request, .bool dd.on, .slice s2 l2 c2] (Has.new w3 44 [.int .i64 0, .int .i64 0, .int .i64 0, .int .i64 0, .int .i64 0, .int .u32 0, .int .i64 0, .bool false, .slice none 0 0, .int .i64 0, .int .i64 0, .int .i64 0, .int .u32 0, .int .u32 0, .int .u32 0, .int .i64 0, .int .i64 0, .bool false, .bool false, .slice none 0 0, .int .i64 0, .int .u32 0, .int .u32 0, .int .u32 0, .int .i64 0, .int .i64 0, .bool false, .bool false, .slice none 0 0]) rfl
  have Qw4 := hid (((Kept.refl [] w3).alloc (.cells #[.int .i64 0, .int .i64 0, .int .i64 0, .int .i64 0, .int .i64 0, .int .u32 0, .int .i64 0, .bool false, .slice none 0 0, .int .i64 0, .int .i64 0, .int .i64 0, .int .u32 0, .int .u32 0, .int .u32 0, .int .i64 0, .int .i64 0, .bool false, .bool false, .slice none 0 0, .int .i64 0, .int .u32 0, .int .u32 0, .int .u32 0, .int .i64 0, .int .i64 0, .bool false, .bool false, .slice none 0 0] 44)).fresh qw4 (by intro i hi hl; simp at hi; omega))
  have Ew4 := hid ew4
  clear ew4 qw4
  generalize (w3.alloc (.cells #[.int .i64 0, .int .i64 0, .int .i64 0, .int .i64 0, .int .i64 0, .int .u32 0, .int .i64 0, .bool false, .slice none 0 0, .int .i64 0, .int .i64 0, .int .i64 0, .int .u32 0, .int .u32 0, .int .u32 0, .int .i64 0, .int .i64 0, .bool false, .bool false, .slice none 0 0, .int .i64 0, .int .u32 0, .int .u32 0, .int .u32 0, .int .i64 0, .int .i64 0, .bool false, .bool false, .slice none 0 0] 44)).setCells w3.heap.size 0 [.int .i64 mv'.kind, .int .i64 mv'.conn, .int .i64 mv'.side, .int .i64 mv'.frame, .int .i64 mv'.at', .int .u32 mv'.word, .int .i64 mv'.n, .bool mv'.hold, .slice mp ml mc, .int .i64 code, .int .i64 0, .int .i64 hh.state, .int .u32 hh.ses, .int .u32 hh.num, .int .u32 hh.sent, .int .i64 hh.since, .int .i64 hh.latched, .bool hh.request, .bool hh.on, .slice s1 l1 c1, .int .i64 dd.state, .int .u32 dd.ses, .int .u32 dd.num, .int .u32 dd.sent, .int .i64 dd.since, .int .i64 dd.latched, .bool dd.request, .bool dd.on, .slice s2 l2 c2] = w4 at Qw4 Ew4 ⊢
  obtain ⟨RA, hRA⟩ : ∃ R, R = w3.heap.size := ⟨_, rfl⟩
  rw [← hRA] at Ew4 ⊢
  have RAL := hid (Nat.le_of_eq hRA.symm)
  clear hRA
  have K4 := hid (K3.out.trans Qw4.out)
  have L4 := hid (L3.out.step (X' := fun i => i < w.heap.size ∨ i = RA) Qw4.out (by simp) (fun i hi => by
    rcases hi with hi | rfl
    · exact .inl hi
    · exact .inr ⟨RAL.out, Ew4.out.lt⟩))
  have P2 := LW.play (mv := mvD) (dp := none) (dc := 0) L4.out (mvok _ rfl rfl rfl) (.inl ⟨rfl, rfl⟩) (fun b' off n c e => by cases e)
  rw [xB_f] at P2
  have P2 : Hid (Calls Tryz.prog 14 #[.pointer (some ⟨b, 0, none⟩), .agg #[.int .i64 3, .int .i64 0, .int .i64 2, .int .i64 0, .int .i64 0, .int .u32 0, .int .i64 0, .bool false, .slice none 0 0]] w4 _) := hid P2
  clear K3 L3 P1
  go_wp2_with fail
  refine P2.out.mono ?_
  rintro e w5 ⟨mp2, ml2, mc2, code2, sent2, hh2, s12, l12, c12, dd2, s22, l22, c22, mv2', rfl, sp, lw, hr⟩
  have sn : sent2 = 1 := (hr trivial).1.2.2.2.1.trans xB_row.1
  have sd : dd2.state = 2 := by rw [(hr trivial).1.2.2.2.2.2.1]; exact xB_row.2
  subst sn
  have SD := hid sd
  have K5 := hid (kg_nil (Nat.le_refl _) ((KG.nil (G := fun i => w.heap.size ≤ i) K4.out).trans (KG.shed sp (fun i _ q => Nat.le_of_not_lt (fun z => q (.inl z))))))
  have L5 := hid (show LW (fun i => i < w.heap.size ∨ i = RA) w5 b ((xA.next mvS).next mvD) from by have := lw; unfold Wd.play at this; rw [if_pos xB_f] at this; exact this)
  have E5 := hid (sp.has Ew4.out (.inr rfl))
  clear sp lw hr sd P2 L4 K4
  rw [rowV_L]
  unfold rowL
  iterate 14 (first | go_values | go_skip | go_guarded | go_step | go_upon | go_back | (simp only [Int.not_lt, Int.not_le] at *; go_simp) | (go_values <;> (try go_simp)))
  refine wpList_put (o := 0) (Has.new w5 44 [.int .i64 0, .int .i64 0, .int .i64 0, .int .i64 0, .int .i64 0, .int .u32 0, .int .i64 0, .bool false, .slice none 0 0, .int .i64 0, .int .i64 0, .int .i64 0, .int .u32 0, .int .u32 0, .int .u32 0, .int .i64 0, .int .i64 0, .bool false, .bool false, .slice none 0 0, .int .i64 0, .int .u32 0, .int .u32 0, .int .u32 0, .int .i64 0, .int .i64 0, .bool false, .bool false, .slice none 0 0]) [.int .i64 mv2'.kind, .int .i64 mv2'.conn, .int .i64 mv2'.side, .int .i64 mv2'.frame, .int .i64 mv2'.at', .int .u32 mv2'.word, .int .i64 mv2'.n, .bool mv2'.hold, .slice mp2 ml2 mc2, .int .i64 code2, .int .i64 1, .int .i64 hh2.state, .int .u32 hh2.ses, .int .u32 hh2.num, .int .u32 hh2.sent, .int .i64 hh2.since, .int .i64 hh2.latched, .bool hh2.request, .bool hh2.on, .slice s12 l12 c12, .int .i64 dd2.state, .int .u32 dd2.ses, .int .u32 dd2.num, .int .u32 dd2.sent, .int .i64 dd2.since, .int .i64 dd2.latched, .bool dd2.request, .bool dd2.on, .slice s22 l22 c22] 44 (.tmp 4) (.tmp 27) rfl rfl rfl rfl (Nat.le_refl 29) infoR rfl ?_
  obtain ⟨ew6, qw6⟩ := puts_all [.int .i64 mv2'.kind, .int .i64 mv2'.conn, .int .i64 mv2'.side, .int .i64 mv2'.frame, .int .i64 mv2'.at', .int .u32 mv2'.word, .int .i64 mv2'.n, .bool mv2'.hold, .slice mp2 ml2 mc2, .int .i64 code2, .int .i64 1, .int .i64 hh2.state, .int .u32 hh2.ses, .int .u32 hh2.num, .int .u32 hh2.sent, .int .i64 hh2.since, .int .i64 hh2.latched, .bool hh2.request, .bool hh2.on, .slice s12 l12 c12, .int .i64 dd2.state, .int .u32 dd2.ses, .int .u32 dd2.num, .int .u32 dd2.sent, .int .i64 dd2.since, .int .i64 dd2.latched, .bool dd2.request, .bool dd2.on, .slice s22 l22 c22] (Has.new w5 44 [.int .i64 0, .int .i64 0, .int .i64 0, .int .i64 0, .int .i64 0, .int .u32 0, .int .i64 0, .bool false, .slice none 0 0, .int .i64 0, .int .i64 0, .int .i64 0, .int .u32 0, .int .u32 0, .int .u32 0, .int .i64 0, .int .i64 0, .bool false, .bool false, .slice none 0 0, .int .i64 0, .int .u32 0, .int .u32 0, .int .u32 0, .int .i64 0, .int .i64 0, .bool false, .bool false, .slice none 0 0]) rfl
  have Qw6 := hid (((Kept.refl [] w5).alloc (.cells #[.int .i64 0, .int .i64 0, .int .i64 0, .int .i64 0, .int .i64 0, .int .u32 0, .int .i64 0, .bool false, .slice none 0 0, .int .i64 0, .int .i64 0, .int .i64 0, .int .u32 0, .int .u32 0, .int .u32 0, .int .i64 0, .int .i64 0, .bool false, .bool false, .slice none 0 0, .int .i64 0, .int .u32 0, .int .u32 0, .int .u32 0, .int .i64 0, .int .i64 0, .bool false, .bool false, .slice none 0 0] 44)).fresh qw6 (by intro i hi hl; simp at hi; omega))
  have Ew6 := hid ew6
  clear ew6 qw6
  generalize (w5.alloc (.cells #[.int .i64 0, .int .i64 0, .int .i64 0, .int .i64 0, .int .i64 0, .int .u32 0, .int .i64 0, .bool false, .slice none 0 0, .int .i64 0, .int .i64 0, .int .i64 0, .int .u32 0, .int .u32 0, .int .u32 0, .int .i64 0, .int .i64 0, .bool false, .bool false, .slice none 0 0, .int .i64 0, .int .u32 0, .int .u32 0, .int .u32 0, .int .i64 0, .int .i64 0, .bool false, .bool false, .slice none 0 0] 44)).setCells w5.heap.size 0 [.int .i64 mv2'.kind, .int .i64 mv2'.conn, .int .i64 mv2'.side, .int .i64 mv2'.frame, .int .i64 mv2'.at', .int .u32 mv2'.word, .int .i64 mv2'.n, .bool mv2'.hold, .slice mp2 ml2 mc2, .int .i64 code2, .int .i64 1, .int .i64 hh2.state, .int .u32 hh2.ses, .int .u32 hh2.num, .int .u32 hh2.sent, .int .i64 hh2.since, .int .i64 hh2.latched, .bool hh2.request, .bool hh2.on, .slice s12 l12 c12, .int .i64 dd2.state, .int .u32 dd2.ses, .int .u32 dd2.num, .int .u32 dd2.sent, .int .i64 dd2.since, .int .i64 dd2.latched, .bool dd2.request, .bool dd2.on, .slice s22 l22 c22] = w6 at Qw6 Ew6 ⊢
  generalize w5.heap.size = RB at Ew6 ⊢
  have K6 := hid (K5.out.trans Qw6.out)
  have L6 := hid (L5.out.nil Qw6.out)
  have a10 := (Qw6.out.has E5.out (by simp)).cell 10 rfl
  have b10 := Ew6.out.cell 10 rfl
  have b20 := Ew6.out.cell 20 rfl
  rw [SD.out] at b20
  have FC := hid L6.out.frames
  have MC := hid L6.out.movesC
  have la := (Qw6.out.has E5.out (by simp)).lt
  have lb := Ew6.out.lt
  go_wp2_with fail
  refine FC.out.mono ?_
  rintro e w7 ⟨rfl, rfl⟩
  rw [xC_len.1]
  go_wp2_with fail
  refine MC.out.mono ?_
  rintro e w8 ⟨rfl, rfl⟩
  rw [xC_len.2]
  go_wp2_with fail
  go_ret
  exact ⟨rfl, K6.out⟩
end TopC
namespace TopC
open Go Go.RowKit Gf Hp Sl Ow Rw TM ParW WdC NetC EncW HostC DevC ValveC UEnc Fit
variable {X X' : Nat → Prop} {w w' : World} {b : Nat} {x : Wd} {k : Nat} {mv : Mv}
theorem mv_cells {w : World} {n : Nat} {cs : List Value} (h : Fits Tryz.prog w n 38 cs) :
    ∃ (x0 : Int) (x1 : Int) (x2 : Int) (x3 : Int) (x4 : Int) (x5 : Int) (x6 : Int) (x7 : Bool) (x8 : Option Addr) (lx8 : Nat) (cx8 : Nat), cs = [.int .i64 x0, .int .i64 x1, .int .i64 x2, .int .i64 x3, .int .i64 x4, .int .u32 x5, .int .i64 x6, .bool x7, .slice x8 lx8 cx8] ∧ (Lit.int .i64 x0).wf = true ∧ (Lit.int .i64 x1).wf = true ∧ (Lit.int .i64 x2).wf = true ∧ (Lit.int .i64 x3).wf = true ∧ (Lit.int .i64 x4).wf = true ∧ (Lit.int .u32 x5).wf = true ∧ (Lit.int .i64 x6).wf = true ∧ (∃ n, Fits Tryz.prog w n 36 [.slice x8 lx8 cx8]) := by
  have hl := fits_len Tryz.underlying38 h 9 (by kernel_rfl)
  match cs, hl with
  | [v0, v1, v2, v3, v4, v5, v6, v7, v8], _ =>
  obtain ⟨n1, h1⟩ := fits_field Tryz.underlying38 h 0 _ rfl 1 (by kernel_rfl) [v0] rfl
  obtain ⟨x0, e1, w1⟩ := fits_int Tryz.underlying34 h1
  obtain rfl : v0 = .int .i64 x0 := (List.cons.inj e1).1
  obtain ⟨n2, h2⟩ := fits_field Tryz.underlying38 h 1 _ rfl 1 (by kernel_rfl) [v1] rfl
  obtain ⟨x1, e2, w2⟩ := fits_int Tryz.underlying3 h2
  obtain rfl : v1 = .int .i64 x1 := (List.cons.inj e2).1
  obtain ⟨n3, h3⟩ := fits_field Tryz.underlying38 h 2 _ rfl 1 (by kernel_rfl) [v2] rfl
  obtain ⟨x2, e3, w3⟩ := fits_int Tryz.underlying35 h3
  obtain rfl : v2 = .int .i64 x2 := (List.cons.inj e3).1
  obtain ⟨n4, h4⟩ := fits_field Tryz.underlying38 h 3 _ rfl 1 (by kernel_rfl) [v3] rfl
  obtain ⟨x3, e4, w4⟩ := fits_int Tryz.underlying3 h4
  obtain rfl : v3 = .int .i64 x3 := (List.cons.inj e4).1
  obtain ⟨n5, h5⟩ := fits_field Tryz.underlying38 h 4 _ rfl 1 (by kernel_rfl) [v4] rfl
  obtain ⟨x4, e5, w5⟩ := fits_int Tryz.underlying3 h5
  obtain rfl : v4 = .int .i64 x4 := (List.cons.inj e5).1
  obtain ⟨n6, h6⟩ := fits_field Tryz.underlying38 h 5 _ rfl 1 (by kernel_rfl) [v5] rfl
  obtain ⟨x5, e6, w6⟩ := fits_int Tryz.underlying24 h6
  obtain rfl : v5 = .int .u32 x5 := (List.cons.inj e6).1
  obtain ⟨n7, h7⟩ := fits_field Tryz.underlying38 h 6 _ rfl 1 (by kernel_rfl) [v6] rfl
  obtain ⟨x6, e7, w7⟩ := fits_int Tryz.underlying3 h7
  obtain rfl : v6 = .int .i64 x6 := (List.cons.inj e7).1
  obtain ⟨n8, h8⟩ := fits_field Tryz.underlying38 h 7 _ rfl 1 (by kernel_rfl) [v7] rfl
  obtain ⟨x7, e8⟩ := fits_bool Tryz.underlying4 h8
  obtain rfl : v7 = .bool x7 := (List.cons.inj e8).1
  obtain ⟨n9, h9⟩ := fits_field Tryz.underlying38 h 8 _ rfl 1 (by kernel_rfl) [v8] rfl
  obtain ⟨x8, lx8, cx8, e9⟩ := fits_slice Tryz.underlying36 h9
  obtain rfl : v8 = .slice x8 lx8 cx8 := (List.cons.inj e9).1
  exact ⟨x0, x1, x2, x3, x4, x5, x6, x7, x8, lx8, cx8, rfl, w1, w2, w3, w4, w5, w6, w7, ⟨_, h9⟩⟩
theorem by_of {l : List Int} (hw : ∀ i, i < l.length → (Lit.int .u8 (l.getD i 0)).wf = true) : Gf.By l := by
  intro z hz
  obtain ⟨i, hi, rfl⟩ := List.getElem_of_mem hz
  have := hw i hi
  rw [List.getD_eq_getElem?_getD, List.getElem?_eq_getElem hi, Option.getD_some] at this
  simp [Lit.wf, IntKind.min, IntKind.max, IntKind.signed, IntKind.bits] at this
  omega
theorem i64_of {z : Int} (h : (Lit.int .i64 z).wf = true) : -9223372036854775808 ≤ z ∧ z < 9223372036854775808 := by
  simp [Lit.wf, IntKind.min, IntKind.max, IntKind.signed, IntKind.bits] at h
  omega
theorem u32_of {z : Int} (h : (Lit.int .u32 z).wf = true) : 0 ≤ z ∧ z < 4294967296 := by
  simp [Lit.wf, IntKind.min, IntKind.max, IntKind.signed, IntKind.bits] at h
  omega
theorem mv_read {W : World} {n : Nat} {cs : List Value} (h : Fits Tryz.prog W n 38 cs) : ∃ (mv : Mv) (dp : Option Addr) (dc : Nat), cs = mcs mv dp mv.data.length dc ∧ Bytes W (.slice dp mv.data.length dc) mv.data ∧ MvOk mv
    ∧ (-9223372036854775808 ≤ mv.conn ∧ mv.conn < 9223372036854775808) ∧ (-9223372036854775808 ≤ mv.side ∧ mv.side < 9223372036854775808) ∧ (-9223372036854775808 ≤ mv.frame ∧ mv.frame < 9223372036854775808) := by
  obtain ⟨x0, x1, x2, x3, x4, x5, x6, x7, p, l, c, rfl, h0, h1, h2, h3, h4, h5, h6, m, hf⟩ := mv_cells h
  obtain ⟨a, rfl, ha, hl, wa⟩ := bytes_of_fits hf
  exact ⟨⟨x0, x1, x2, x3, x4, x5, x6, x7, a⟩, p, c, rfl, ha, ⟨by_of wa, by show a.length ≤ _; unfold reachBytes at hl; omega, u32_of h5, (i64_of h6).2⟩, i64_of h1, i64_of h2, i64_of h3⟩
structure MvAt (W : World) (b off i : Nat) (mv : Mv) (dp : Option Addr) (dc : Nat) : Prop where
  block : b < W.heap.size
  cells : ∀ j, j < 9 → W.cell? ⟨b, off + i * 9 + j, none⟩ = (mcs mv dp mv.data.length dc)[j]?
  bytes : Bytes W (.slice dp mv.data.length dc) mv.data
  ok : MvOk mv
theorem mv_at {W : World} {n : Nat} {x : Option Addr} {len cap : Nat} (hf : Fits Tryz.prog W n 22 [.slice x len cap]) :
    len ≤ maxLen ∧ (len = 0 ∨ ∃ b off, x = some ⟨b, off, none⟩ ∧ ∀ i, i < len → ∃ mv dp dc, MvAt W b off i mv dp dc) := by
  obtain ⟨_, hm, _, _, hp⟩ := fits_elems Tryz.underlying22 hf 9 88 (by kernel_rfl) (by kernel_rfl) (by decide)
  refine ⟨hm, ?_⟩
  rcases hp with h | ⟨b, off, rfl, hb, hel⟩
  · exact .inl h
  · refine .inr ⟨b, off, rfl, fun i hi => ?_⟩
    obtain ⟨m, cs, hcl, hcc, hfit⟩ := hel i hi
    obtain ⟨mv, dp, dc, rfl, hb2, ho, _⟩ := mv_read hfit
    exact ⟨mv, dp, dc, hb, hcc, hb2, ho⟩
theorem MvAt.cell {W w : World} {b off i : Nat} {mv : Mv} {dp : Option Addr} {dc : Nat} (h : MvAt W b off i mv dp dc) (K : Kept [] W w) (j : Nat) (hj : j < 9) : w.cell? ⟨b, off + i * 9 + j, none⟩ = (mcs mv dp mv.data.length dc)[j]? := by
  rw [K.cell h.block (by simp), h.cells j hj]
theorem Spared.nil {W : World} (K : Kept [] W w) (s : Spared X w w') (hX : ∀ i, i < W.heap.size → X i) : Kept [] W w' :=
  kg_nil (Nat.le_refl _) ((KG.nil (G := fun i => W.heap.size ≤ i) K).trans (KG.shed s (fun i _ q => Nat.le_of_not_lt (fun z => q (hX i z)))))
theorem LW.playM {w0 : World} {dp : Option Addr} {dc : Nat} (h0 : LW X w0 b x) (k : Kept [] w0 w) (hm : MvOk mv) (hd : Made w0 w (.slice dp mv.data.length dc) mv.data) :
    Calls Tryz.prog 14 #[.pointer (some ⟨b, 0, none⟩), mvV mv dp mv.data.length dc] w fun e w' => ∃ mp ml mc code sent hh s1 l1 c1 dd s2 l2 c2 mv', e = .returned (.tuple #[rowV mv' mp ml mc code sent hh s1 l1 c1 dd s2 l2 c2, .int .i64 (x.fault mv)]) ∧ Spared X w w' ∧ LW X w' b (x.play mv)
      ∧ (x.fault mv = 0 → (mv' = mv ∧ ml = mv.data.length ∧ code = (x.row mv).code ∧ sent = (x.row mv).sent ∧ hh = (x.row mv).host ∧ dd = (x.row mv).dev ∧ l1 = hh.out.length ∧ l2 = dd.out.length) ∧ Outs w w' (.slice s1 l1 c1) hh.out ∧ Outs w w' (.slice s2 l2 c2) dd.out) := by
  have h1 : LW (fun i => X i ∨ ∃ off, dp = some ⟨i, off, none⟩) w b x := h0.step k (by simp) (fun i hi => by
    rcases hi with hi | ⟨off, rfl⟩
    · exact .inl hi
    · refine .inr ⟨hd.2 i rfl, ?_⟩
      rcases hd.1 with ⟨e, _⟩ | ⟨g, ho⟩
      · cases e
      · obtain ⟨cap, cur, e, hh, _⟩ := id ho
        cases e; exact hh.lt)
  refine (LW.play h1 hm hd.bytes (fun b' off n c e => ?_)).mono ?_
  · cases e
    rcases hd.1 with ⟨e, _⟩ | ⟨g, ho⟩
    · cases e
    · obtain ⟨cap, cur, e, hh, _⟩ := id ho
      cases e; exact ⟨hh.lt, .inr ⟨_, rfl⟩⟩
  · rintro e w' ⟨mp, ml, mc, code, sent, hh, s1, l1, c1, dd, s2, l2, c2, mv', rfl, sp, lw, hr⟩
    exact ⟨mp, ml, mc, code, sent, hh, s1, l1, c1, dd, s2, l2, c2, mv', rfl, KG.shed sp (fun i _ q r => q (.inl r)), lw.weak (fun i q => .inl q), hr⟩
end TopC
namespace TopC
open Go Go.RowKit Gf Hp Sl Ow Rw TM ParW WdC NetC EncW HostC DevC ValveC UEnc Fit
variable {X X' : Nat → Prop} {w w' : World} {b : Nat} {x : Wd} {k : Nat} {mv : Mv}
theorem play_len (x : Wd) (mv : Mv) : (x.play mv).cs.length = x.cs.length ∧ (x.play mv).moves ≤ x.moves + 1 := by
  unfold Wd.play
  split
  · exact ⟨by simp [Wd.next], Int.le_refl _⟩
  · exact ⟨rfl, by omega⟩
theorem Spared.own {k : Nat} {v : Value} {l : List Int} (s : Spared X w w') (h : Own w k v l) (hX : X k) : Own w' k v l := by
  obtain ⟨cap, cur, e, h, r⟩ := h
  exact ⟨cap, cur, e, s.has h hX, r⟩
theorem umod (z m : Int) (h1 : 0 < m) (h2 : m ≤ 1000000) : ∃ j : Nat, (j : Int) < m ∧ wrap64 ((IntKind.u64.wrap z).tmod m) = (j : Int) := by
  have e : IntKind.u64.wrap z = z % 18446744073709551616 := by simp [IntKind.wrap, IntKind.bits, IntKind.signed]
  have a := Int.emod_nonneg (z % 18446744073709551616) (show m ≠ 0 by omega)
  have b := Int.emod_lt_of_pos (z % 18446744073709551616) h1
  rw [e, Int.tmod_eq_emod_of_nonneg (by omega)]
  generalize z % 18446744073709551616 % m = y at a b
  exact ⟨y.toNat, by omega, by unfold wrap64; omega⟩
end TopC
namespace RfC
open Go Go.RowKit Hp Sl Gf DogC SlC CrcW Rw Ow
def dg : Nat → Int
  | 0 => -1
  | k + 1 => if G.testBit k then (k : Int) else dg k
def DgRel (W : World) (d i : Value) (w : World) : Prop := ∃ k : Nat, w = W ∧ k ≤ 64 ∧ i = .int .i64 (k : Nat) ∧ d = .int .i64 (dg k)
theorem dgbit (k : Nat) (h : k < 64) : (bits .and .u64 ((4812730177 : Int) / 2 ^ k) 1 != 0) = G.testBit k := by
  have q : ∀ j : Fin 64, (bits .and .u64 ((4812730177 : Int) / 2 ^ j.1) 1 != 0) = G.testBit j.1 := of_decide_eq_true (by kernel_rfl)
  exact q ⟨k, h⟩
set_option maxHeartbeats 1600000 in
theorem degree_call (w : World) : Calls Tryz.prog 173 #[.int .u64 4812730177] w fun e w' => e = .returned (.int .i64 32) ∧ w' = w := by
  go_enter Tryz.func173, Tryz.ntmps173
  go_wp2_with fail
  go_loopw [3, 4] (DgRel w) (fun _ i _ => 64 - (intOf i).toNat)
  case atStart => exact ⟨0, rfl, by omega, rfl, rfl⟩
  case round =>
    obtain ⟨k, rfl, hk, rfl, rfl⟩ := hrel
    rcases Nat.lt_or_ge k 64 with hkn | hkn
    · go_wp2_with fail
      · rename_i hb
        rw [dgbit k hkn] at hb
        exact ⟨⟨k + 1, rfl, by omega, by go_num, by rw [show dg (k + 1) = (k : Int) from if_pos hb]⟩, by simp [intOf]; omega⟩
      · rename_i hb
        rw [dgbit k hkn] at hb
        exact ⟨⟨k + 1, rfl, by omega, by go_num, by rw [show dg (k + 1) = dg k from if_neg (by simp [hb])]⟩, by simp [intOf]; omega⟩
    · obtain rfl : k = 64 := by omega
      go_wp2_with fail
      go_ret
      exact ⟨rfl, rfl⟩
def bpol (l : List Bool) : Nat := l.foldl (fun a c => a * 2 + c.toNat) 0
theorem bpol_snoc (a : List Bool) (c : Bool) : bpol (a ++ [c]) = 2 * bpol a + c.toNat := by
  unfold bpol; rw [List.foldl_append]; simp; omega
theorem bi_step (s p : Nat) (b o : Bool) (hs : s = pm G 32 p) (ho : (bits .and .u64 ((s : Int) / 2147483648) 1 != 0) = o) :
    (if o then bits .xor .u64 (if b then bits .xor .u64 (IntKind.u64.wrap ((s : Int) * 2)) 1 else IntKind.u64.wrap ((s : Int) * 2)) 4812730177 else (if b then bits .xor .u64 (IntKind.u64.wrap ((s : Int) * 2)) 1 else IntKind.u64.wrap ((s : Int) * 2))) = ((pm G 32 (2 * p + b.toNat) : Nat) : Int) := by
  have hlt : s < 2 ^ 32 := hs ▸ pm_lt G1 G2 _
  have e1 : IntKind.u64.wrap ((s : Int) * 2) = ((2 * s : Nat) : Int) := by simp [IntKind.wrap, IntKind.bits, IntKind.signed]; omega
  have e2 : (if b then bits .xor .u64 (IntKind.u64.wrap ((s : Int) * 2)) 1 else IntKind.u64.wrap ((s : Int) * 2)) = ((2 * s + b.toNat : Nat) : Int) := by
    rw [e1]
    cases b
    · simp
    · have h1 : 2 * s ^^^ 1 = 2 * s + 1 := by
        have := add_eq_xor (i := 1) (a := s) (b := 1) (by omega)
        rw [show s * 2 ^ 1 = 2 * s by omega] at this; exact this.symm
      rw [if_pos rfl, show (1 : Int) = ((1 : Nat) : Int) from rfl, u64_xor_nat _ _ (by omega) (by omega), h1]; rfl
  rw [e2]
  have hp : pm G 32 (2 * p + b.toNat) = red G 32 (2 * s + b.toNat) := by
    have hb : b.toNat < 2 := by cases b <;> decide
    rw [pm_eq, show (2 * p + b.toNat) / 2 = p by omega, show (2 * p + b.toNat) % 2 = b.toNat by omega, ← hs]
    congr 1
    have := add_eq_xor (i := 1) (a := s) (b := b.toNat) (by omega)
    rw [show s * 2 ^ 1 = 2 * s by omega] at this; exact this.symm
  have hb : b.toNat < 2 := by cases b <;> decide
  have h2 : 2 * s + b.toNat < 2 ^ (32 + 1) := by omega
  have ht : o = decide (2 ^ 32 ≤ 2 * s + b.toNat) := by
    rw [← ho]
    have e3 : (s : Int) / 2147483648 = ((s / 2147483648 : Nat) : Int) := by omega
    rw [e3, show (1 : Int) = ((1 : Nat) : Int) from rfl, u64_and_nat _ _ (by omega) (by omega), Nat.and_one_is_mod]
    by_cases g : 2 ^ 32 ≤ 2 * s + b.toNat
    · have : s / 2147483648 % 2 = 1 := by omega
      rw [this]; simp [g]
    · have : s / 2147483648 % 2 = 0 := by omega
      rw [this]; simp [g]
  rw [hp]; unfold red; rw [testBit_top h2, ← ht]
  cases o
  · rfl
  · rw [if_pos rfl, if_pos rfl, show (4812730177 : Int) = ((4812730177 : Nat) : Int) from rfl, u64_xor_nat _ _ (by omega) (by omega)]; rfl
def Bls (w : World) (v : Value) (bs : List Bool) : Prop := ∃ a, Rws w 4 1 a v bs.length (bs.map Value.bool)
def BiRel (W : World) (bs : List Bool) (r i : Value) (w : World) : Prop := ∃ (k s : Nat), w = W ∧ k ≤ bs.length ∧ s = pm G 32 (bpol (bs.take k)) ∧ r = .int .u64 (s : Nat) ∧ i = .int .i64 (k : Nat)
set_option maxHeartbeats 3200000 in
theorem bits_ref (v : Value) (bs : List Bool) (w : World) (h : Bls w v bs) (hl : bs.length ≤ 1000000) : Calls Tryz.prog 141 #[v, .int .u64 4812730177] w fun e w' => e = .returned (.int .u64 ((pm G 32 (bpol bs) : Nat) : Int)) ∧ w' = w := by
  obtain ⟨a, h⟩ := h
  obtain ⟨p, c, rfl, hc⟩ := h.shape
  have H := hid h
  have DC := hid (degree_call w)
  clear h
  go_enter Tryz.func141, Tryz.ntmps141
  go_wp2_with fail
  refine DC.out.mono ?_
  rintro e w1 ⟨rfl, rfl⟩
  go_wp2_with fail
  go_loopw [6, 7] (BiRel w1 bs) (fun _ i _ => bs.length - (intOf i).toNat)
  case atStart => exact ⟨0, 0, rfl, by omega, by simp [bpol, pm_zero], rfl, rfl⟩
  case round =>
    obtain ⟨k, s, rfl, hk, hs, rfl, rfl⟩ := hrel
    rcases Nat.lt_or_ge k bs.length with hkn | hkn
    · obtain ⟨g, cap, e, hcap, rfl, hcell⟩ := H.out.cell k (.bool bs[k]) (by simp [hkn])
      obtain ⟨rfl, rfl⟩ : p = some ⟨g, 0, none⟩ ∧ c = cap := by simpa using e
      have hk2 : k < c := by omega
      clear e
      have hb : bpol (bs.take (k + 1)) = 2 * bpol (bs.take k) + (bs[k]).toNat := by rw [List.take_succ_eq_append_getElem hkn, bpol_snoc]
      have S1 := hid (fun o => bi_step s (bpol (bs.take k)) bs[k] o hs)
      have HB := hid hb
      obtain ⟨x, hx⟩ : ∃ x, bs[k] = x := ⟨_, rfl⟩
      rw [hx] at hcell S1 HB
      clear hs hb hx
      cases x <;> (
        go_wp2_with fail
        all_goals (rename_i ho; exact ⟨⟨k + 1, _, rfl, by omega, rfl, by rw [HB.out]; exact congrArg _ (S1.out _ ho), by go_num⟩, by simp [intOf]; omega⟩))
    · obtain rfl : k = bs.length := by omega
      go_wp2_with fail
      go_ret
      rw [hs, List.take_length]
      exact ⟨rfl, rfl⟩
end RfC
namespace RfC
open Go Go.RowKit Hp Sl Gf DogC SlC CrcW Rw Ow
theorem infoB : (Tryz.prog.info? 4).map (fun i => (i.zero, i.size, i.bytes)) = some (some (.bool false), 1, 1) := by kernel_rfl
def OwB (W : World) (w : World) (v : Value) (bs : List Bool) : Prop := ∃ a, (∀ g, a = some g → W.heap.size ≤ g) ∧ Rws w 4 1 a v bs.length (bs.map Value.bool)
theorem OwB.bls {W w : World} {v : Value} {bs : List Bool} (h : OwB W w v bs) : Bls w v bs := by obtain ⟨a, _, h⟩ := h; exact ⟨a, h⟩
theorem bools_one (bs : List Bool) : ∀ u ∈ bs.map Value.bool, u.oneCell' = true := by
  intro u hu; obtain ⟨x, _, rfl⟩ := List.mem_map.1 hu; rfl
theorem owb_of {W w : World} {v : Value} {bs : List Bool} (h : w.ownsRow W.heap.size 4 1 v bs.length (bs.map Value.bool)) : OwB W w v bs := by
  obtain ⟨hl, ⟨e, hn⟩ | ⟨g, cap, cur, e, hb, hh, h1, h2, h3, h4⟩⟩ := h
  · exact ⟨none, by simp, hl, bools_one bs, .inl ⟨e, hn, rfl⟩⟩
  · exact ⟨some g, fun g' hg => by cases hg; exact hb, hl, bools_one bs, .inr ⟨g, cap, cur.toList, rfl, e, by unfold Has; rw [hh], h1, h2, by simpa using h3, by simpa using h4⟩⟩
theorem ref_bit (c j : Nat) (hc : c < 256) (hj : j < 8) : (bits .and .u8 ((c : Int) / 2 ^ j) 1 != 0) = c.testBit j := by
  have q : ∀ x : Fin 256, ∀ y : Fin 8, (bits .and .u8 ((x.1 : Int) / 2 ^ y.1) 1 != 0) = x.1.testBit y.1 := of_decide_eq_true (by kernel_rfl)
  exact q ⟨c, hc⟩ ⟨j, hj⟩
theorem halves (c j : Nat) : c / 2 ^ j = 2 * (c / 2 ^ (j + 1)) + (c.testBit j).toNat := by
  rw [Nat.pow_succ, ← Nat.div_div_eq_div_mul, Nat.testBit_eq_decide_div_mod_eq]
  by_cases h : c / 2 ^ j % 2 = 1 <;> simp [h] <;> omega
theorem of_step {bs : List Bool} {k j c p : Nat} (hj : j < 8) (h1 : bs.length + (j + 1) = 8 * (k + 1)) (h2 : bpol bs = p * 2 ^ (8 - (j + 1)) + c / 2 ^ (j + 1)) :
    (bs ++ [c.testBit j]).length + j = 8 * (k + 1) ∧ bpol (bs ++ [c.testBit j]) = p * 2 ^ (8 - j) + c / 2 ^ j := by
  refine ⟨by rw [List.length_append, List.length_singleton]; omega, ?_⟩
  have e := halves c j
  rw [bpol_snoc, h2, show 8 - j = (8 - (j + 1)) + 1 by omega, Nat.pow_succ 2 (8 - (j + 1)), ← Nat.mul_assoc]
  generalize p * 2 ^ (8 - (j + 1)) = x at *
  generalize c / 2 ^ (j + 1) = y at *
  omega
theorem pol_snoc (l : List Int) (k : Nat) (hk : k < l.length) : pol (l.take (k + 1)) = pol (l.take k) * 2 ^ 8 + (l.getD k 0).toNat := by
  rw [List.take_succ_eq_append_getElem hk, pol_append, List.getD_eq_getElem?_getD, List.getElem?_eq_getElem hk]
  simp [pol]
structure OfS (W : World) (L : List Int) (k : Nat) (v : Value) (bs : List Bool) (w : World) : Prop where
  kept : Kept [] W w
  own : OwB W w v bs
def OfRel (W : World) (L : List Int) (v i : Value) (w : World) : Prop := ∃ (k : Nat) (bs : List Bool), k ≤ L.length ∧ i = .int .i64 (k : Nat) ∧ bs.length = 8 * k ∧ bpol bs = pol (L.take k) ∧ OfS W L k v bs w
def OfIn (W : World) (L : List Int) (k : Nat) (v j : Value) (w : World) : Prop := ∃ (n : Nat) (bs : List Bool), n ≤ 8 ∧ j = .int .i64 ((n : Int) - 1) ∧ bs.length + n = 8 * (k + 1) ∧ bpol bs = pol (L.take k) * 2 ^ (8 - n) + (L.getD k 0).toNat / 2 ^ n ∧ OfS W L k v bs w
set_option maxHeartbeats 3200000 in
theorem of_ref (v : Value) (L : List Int) (w : World) (h : Bytes w v L) (hb : By L) (hl : L.length ≤ 100) : Calls Tryz.prog 111 #[v, .int .u64 4812730177] w fun e w' => e = .returned (.tuple #[.int .u64 ((pm G 32 (pol L) : Nat) : Int), .int .i64 0]) ∧ Kept [] w w' := by
  obtain ⟨sp, sc, rfl, hsc⟩ := sl_shape h
  have SB := hid h
  have YB := hid hb
  have e8 : wrap64 (8 * (L.length : Int)) = ((8 * L.length : Nat) : Int) := by rw [wrap64_id (by omega) (by omega)]; omega
  have N8 := hid (show 8 * L.length ≤ 800 by omega)
  clear h hb
  go_enter Tryz.func111, Tryz.ntmps111
  obtain ⟨i0, hi, hz0, hz1, hz2⟩ := info_parts infoB
  go_upto_region 3 with (fail)
  go_upto_block 0 with (at_make; refine wpList_make_own _ rfl _ _ 240 rfl w.heap.size 4 i0 (.bool false) 1 Tryz.underlying240 hi hz0 hz1 .i64 .i64 _ (8 * L.length) (by rfl) (by rfl) (by first | exact e8 | (push_cast; rfl) | omega) (by rw [hz2]; have := N8.out; omega) (by unfold maxLen; have := N8.out; omega) (Nat.le_refl _) ?_; intro wm hown hgrow; have HO := hid hown; have HG := hid hgrow; clear hown hgrow)
  have S0 := hid (show OfS w L 0 (.slice (some ⟨w.heap.size, 0, none⟩) 0 (8 * L.length)) [] wm from ⟨kept_of_grown HG.out (by simp), owb_of HO.out⟩)
  clear HG HO hi hz0 hz1 hz2 e8
  go_wp2_with fail
  go_loopw [6, 7] (OfRel w L) (fun _ i _ => L.length - (intOf i).toNat)
  case atStart => exact ⟨0, [], Nat.zero_le _, rfl, rfl, by simp [bpol, pol], S0.out⟩
  case round =>
    clear S0
    obtain ⟨k, bs, hk, rfl, h1, h2, hs⟩ := hrel
    have HS := hid hs
    have H12 := hid (And.intro h1 h2)
    clear hs h1 h2
    rcases Nat.lt_or_ge k L.length with hkn | hkn
    · obtain ⟨c, hcv, hc256⟩ := By.at_ YB.out k
      have HC := hid (And.intro hcv hc256)
      clear hcv hc256
      go_wp2_with fail
      go_loopw [6, 8] (OfIn w L k) (fun _ i _ => (intOf i + 1).toNat)
      case atStart => exact ⟨8, bs, Nat.le_refl _, rfl, by have := H12.out.1; omega, by rw [HC.out.1, H12.out.2]; have := HC.out.2; simp; omega, HS.out⟩
      case round =>
        clear HS H12
        obtain ⟨n, bs, hn, rfl, h1, h2, hs⟩ := hrel
        have HS := hid hs
        have H12 := hid (And.intro h1 h2)
        clear hs h1 h2
        rcases Nat.eq_zero_or_pos n with rfl | hnp
        · go_wp2_with fail
          exact ⟨⟨k + 1, bs, by omega, by go_num, by have := H12.out.1; omega, by rw [pol_snoc L k hkn, H12.out.2, Nat.pow_zero, Nat.div_one], ⟨HS.out.kept, HS.out.own⟩⟩, by simp [intOf]; omega⟩
        · obtain ⟨j, rfl⟩ : ∃ j, n = j + 1 := ⟨n - 1, by omega⟩
          rw [show ((j + 1 : Nat) : Int) - 1 = (j : Int) by omega]
          obtain ⟨a, ha, hr⟩ := HS.out.own
          obtain ⟨bb, off, rfl, hcell⟩ := SlC.Bytes.at_ (SB.out.kept HS.out.kept (by simp)) k hkn
          rw [HC.out.1] at hcell
          obtain ⟨pv, cv, rfl, hle⟩ := hr.shape
          have eb := ref_bit c j HC.out.2 (by omega)
          have ST := hid (of_step (c := c) (k := k) (p := pol (L.take k)) (by omega : j < 8) H12.out.1 (by have := H12.out.2; rw [HC.out.1] at this; simpa using this))
          have hj8 : j < 8 := by omega
          have hk2 : k < sc := by omega
          have RT := hid (hr.kept ((Kept.refl [] wr).alloc (.cells #[.bool (c.testBit j)] 4)) (by simp))
          have T7 := hid (Has.new wr 4 [.bool (c.testBit j)])
          have b8 : bs.length ≤ 1000000 := by have := H12.out.1; omega
          have HA := hid ha
          clear hr ha hle
          go_upto_region 10 with (fail)
          go_wp2_with (at_builtin; refine wpList_puts _ (by rfl) _ _ 240 4 1 1 _ (by rfl) Tryz.underlying240 infoB (by rfl) (by decide) (by decide) a _ bs.length (bs.map Value.bool) [.bool (c.testBit j)] _ RT.out T7.out (by rfl) (by intro u hu; simp at hu; subst hu; rfl) b8 (by rfl) (by rfl) ?_; intro u2 w8 hp; have HP := hid hp; clear hp)
          refine ⟨⟨j, bs ++ [c.testBit j], by omega, rfl, ST.out.1, by rw [HC.out.1]; exact ST.out.2, ?_⟩, by simp only [intOf]; omega⟩
          obtain ⟨a', ha', hr'⟩ := HP.out.rows
          refine ⟨(HS.out.kept.alloc _).fresh HP.out.kept (by intro i hi hl; simp at hi; have := HA.out i hi; omega), a', fun g hg => ?_, by rw [List.length_append, List.map_append]; exact hr'⟩
          rcases ha' with rfl | ⟨g', rfl, hg'⟩
          · exact HA.out g hg
          · cases hg; have := HS.out.kept.size; simp at hg'; omega
    · obtain rfl : k = L.length := by omega
      obtain ⟨a, _, hr⟩ := HS.out.own
      have BC := hid (bits_ref _ bs wr HS.out.own.bls (by have := H12.out.1; omega))
      obtain ⟨pv, cv, rfl, _⟩ := hr.shape
      clear hr
      go_wp2_with fail
      refine BC.out.mono ?_
      rintro e w1 ⟨rfl, rfl⟩
      go_wp2_with fail
      go_ret2
      rw [H12.out.2, List.take_length]
      exact ⟨rfl, HS.out.kept⟩
end RfC
namespace RfC
open Go Go.RowKit Hp Sl Gf DogC SlC Ap CrcW Rw Ow SlM EncW
theorem wpList_many {ops : Array Oper} {rest : List Oper} {o : Oper} {a : Act} {Q : Exit → Act → World → Prop} (w : World) (hgd : Region.wanted o (yielded ops a.tmps) = true) (s x : Operand)
    (ho : o.op = .call { callee := .builtin .append, args := #[s, x], argTypes := #[36, 36] }) (u : Value) (l : List Int) (src : Value) (l2 : List Int) (hu : Row w u l) (hB : Bytes w src l2)
    (hs : a.eval s = u) (hx : a.eval x = src) (hl : l.length + l2.length ≤ 70368744177664)
    (h : ∀ v' w', Many w w' u v' (l ++ l2) → wpList Tryz.prog ops Q rest (a.put o.dst v') w') : wpList Tryz.prog ops Q (o :: rest) a w := by
  obtain ⟨v', w', hr, hp⟩ := run_many o.type w u l src l2 hu hB hl
  refine wpList_step fun K hK => ?_
  rw [if_pos hgd]
  unfold Oper.wp execOp
  simp only [ho, resolve, invoke, builtin, Sem.run_bind, Sem.run_pure, Result.andThen_ok, List.map_toArray, List.map_cons, List.map_nil, hs, hx, hr]
  exact hK _ _ (h v' w' hp)
theorem word_ref (x : Nat) (hx : x < 4294967296) (w : World) : Calls Tryz.prog 84 #[.int .u32 (x : Int)] w fun e w' => ∃ v, e = .returned v ∧ Kept [] w w' ∧ Made w w' v (w4 (x : Int)) := by
  have M := hid (show Made w (w.alloc (.cells (U8 (w4 (x : Int))).toArray 5)) (.slice (some ⟨w.heap.size, 0, none⟩) 4 4) (w4 (x : Int)) from ⟨row_new w (w4 (x : Int)) (by rw [w4_len]; unfold maxLen; omega), fun k hk => by cases hk; exact Nat.le_refl _⟩)
  unfold w4 U8 at M
  go_enter Tryz.func84, Tryz.ntmps84
  go_wp2_with fail
  go_ret
  have e : (x : Int) / 16777216 % 256 = (x : Int) / 16777216 := by omega
  rw [e] at M
  refine ⟨_, rfl, (Kept.refl [] w).alloc _, ?_⟩
  unfold w4
  rw [e]
  exact M.out
set_option maxRecDepth 100000 in
theorem sum_ref (v : Value) (L : List Int) (w : World) (h : Bytes w v L) (hb : By L) (hl : L.length ≤ 90) : Calls Tryz.prog 85 #[v] w fun e w' => e = .returned (.int .u32 ((crc L : Nat) : Int)) ∧ Kept [] w w' := by
  obtain ⟨sp, sc, rfl, hsc⟩ := sl_shape h
  have SB := hid h
  have YB := hid hb
  obtain ⟨i0, hi, hz0, hz1, hz2⟩ := info_parts info5
  have e4 : wrap64 ((L.length : Int) + 4) = ((L.length + 4 : Nat) : Int) := by rw [wrap64_id (by omega) (by omega)]; omega
  clear h hb
  go_enter Tryz.func85, Tryz.ntmps85
  go_wp2_with (first
    | (at_make; refine wpList_make_own _ rfl _ _ 36 rfl w.heap.size 5 i0 (.int .u8 0) 1 Tryz.underlying36 hi hz0 hz1 .i64 .i64 _ (L.length + 4) (by rfl) (by rfl) (by first | exact e4 | (push_cast; rfl) | omega) (by rw [hz2]; omega) (by unfold maxLen; omega) (Nat.le_refl _) ?_; intro wm hown hgrow; have R0 := hid (row_of_owns (l := []) hown); have K0 := hid (kept_of_grown (S := []) hgrow (by simp)); have B0 := hid (SB.out.kept K0.out (by simp)); clear hown hgrow)
    | (at_builtin; refine wpList_many _ (by rfl) _ _ (by rfl) _ [] _ L R0.out B0.out (by rfl) (by rfl) (by simp; omega) ?_; intro u1 w1 hm; have M1 := hid (show Many wm w1 _ u1 L from hm); have R1 := hid (M1.out.row.kept ((Kept.refl [] w1).alloc (.cells #[.int .u8 0, .int .u8 0, .int .u8 0, .int .u8 0] 5)) (by simp)); have T1 := hid (show Bytes (w1.alloc (.cells #[.int .u8 0, .int .u8 0, .int .u8 0, .int .u8 0] 5)) (.slice (some ⟨w1.heap.size, 0, none⟩) 4 4) [0, 0, 0, 0] from SlM.Row.bytes (row_new w1 [0, 0, 0, 0] (by decide))); clear hm)
    | (at_builtin; refine wpList_many _ (by rfl) _ _ (by rfl) u1 L _ [0, 0, 0, 0] R1.out T1.out (by rfl) (by rfl) (by simp; omega) ?_; intro u2 w2 hm; have M2 := hid hm; clear hm))
  have F1 := M1.out.from_ (B := w.heap.size) (fun i hi => by cases hi; exact Nat.le_refl _) K0.out.size
  have K1 := hid (K0.out.fresh M1.out.kept (by intro i hi hl; simp [Value.ownBlock] at hi; omega))
  have K2 := hid ((K1.out.alloc _).fresh M2.out.kept (by intro i hi hl; simp at hi; have := F1 i hi; omega))
  have hz : By (L ++ [0, 0, 0, 0]) := YB.out.append (by intro x hx; simp at hx; omega)
  have OC := hid (of_ref u2 _ w2 (SlM.Row.bytes M2.out.row) hz (by simp; omega))
  have hp : pm G 32 (pol (L ++ [0, 0, 0, 0])) = crc L := by
    rw [pol_append, show pol [0, 0, 0, 0] = 0 from rfl, Nat.add_zero]; rfl
  rw [hp] at OC
  have hc := crc_lt L
  have e9 : IntKind.u32.wrap ((crc L : Nat) : Int) = ((crc L : Nat) : Int) := by simp [IntKind.wrap, IntKind.bits, IntKind.signed]; omega
  clear F1 hp hz hc M1 M2 R0 R1 T1 B0 K0 K1 SB YB
  obtain ⟨cl, hcl⟩ : ∃ cl, crc L = cl := ⟨_, rfl⟩
  rw [hcl] at OC e9
  have HQ := hid hcl
  clear hcl
  refine OC.out.mono ?_
  rintro e w3 ⟨rfl, k3⟩
  have K3 := hid (K2.out.trans k3)
  clear k3 K2 OC
  go_wp2_with fail
  go_ret
  exact ⟨by rw [HQ.out]; rfl, K3.out⟩
end RfC
namespace RfC
open Go Go.RowKit Hp Sl Gf DogC SlC Ap CrcW Rw Ow SlM EncW
theorem wpAnyH_weaken {P : Program} {md : Region.Mode} {ops : Array Oper} {Q : Exit → Act → World → Prop} {S S' : World → Prop} (h : ∀ w, S' w → S w) :
    ∀ (fuel : Nat) (listed : Array Bool) (a : Act) (w : World), wpAnyH P md ops Q S' fuel listed a w → wpAnyH P md ops Q S fuel listed a w
  | 0, _, _, _, h0 => h0
  | fuel + 1, _, _, _, h0 => ⟨h0.1, fun i hi => wpOp_mono (fun a' w' h' => ⟨h _ h'.1, wpAnyH_weaken h fuel _ a' w' h'.2⟩) (h0.2 i hi)⟩
theorem tail_bytes {w : World} {b off n c : Nat} {l : List Int} (h : Bytes w (.slice (some ⟨b, off, none⟩) n c) l) (m : Nat) (hm : m ≤ l.length) : Bytes w (.slice (some ⟨b, off + m, none⟩) (n - m) (c - m)) (l.drop m) := by
  rcases h with ⟨e, _⟩ | ⟨x, cap, e, h1, h2, h3⟩
  · cases e
  · obtain ⟨rfl, rfl, rfl⟩ : (⟨b, off, none⟩ : Addr) = x ∧ n = l.length ∧ c = cap := by simpa using e
    refine .inr ⟨⟨b, off + m, none⟩, c - m, by rw [List.length_drop], by rw [List.length_drop]; omega, by omega, ?_⟩
    by_cases e0 : l.drop m = []
    · exact .inl e0
    rcases h3 with rfl | ⟨b', off', e', hb, h4⟩
    · simp at e0
    · cases e'
      refine .inr ⟨b, off + m, rfl, hb, fun i hi => ?_⟩
      rw [List.length_drop] at hi
      rw [Nat.add_assoc, h4 (m + i) (by omega), List.getD_eq_getElem?_getD, List.getD_eq_getElem?_getD, List.getElem?_drop]
set_option maxRecDepth 100000 in
set_option maxHeartbeats 6400000 in
theorem valid_ref (b off n sc : Nat) (B : List Int) (w : World) (h : Bytes w (.slice (some ⟨b, off, none⟩) n sc) (sealed B)) (hn : n = B.length + 4) (hb : By B) (hl : B.length ≤ 90) : Calls Tryz.prog 48 #[.slice (some ⟨b, off, none⟩) n sc] w fun e w' => e = .returned (.bool true) ∧ Kept [] w w' := by
  have hsl : (sealed B).length = B.length + 4 := sealed_len B
  have hcap : n ≤ sc := by
    obtain ⟨p, c, e, hc⟩ := sl_shape h
    injection e with e1 e2 e3; omega
  have ht : (sealed B).drop B.length = w4 ((crc B : Nat) : Int) := by unfold sealed; simp
  have hh : (sealed B).take B.length = B := by unfold sealed; simp
  have hT := tail_bytes h B.length (by omega)
  rw [ht] at hT
  have hH := SlC.Bytes.head (n := B.length) (p := some ⟨b, off, none⟩) (c := sc) (l := sealed B) (by rw [hsl, ← hn]; exact h) (by omega)
  rw [hh] at hH
  have SM := hid (fun w' (k : Kept [] w w') => sum_ref _ B w' (hH.kept k (by simp)) hb hl)
  have hc := crc_lt B
  obtain ⟨m, hm⟩ : ∃ m, B.length = m := ⟨_, rfl⟩
  obtain ⟨cr, hcr⟩ : ∃ cr, crc B = cr := ⟨_, rfl⟩
  rw [hcr] at hT SM hc
  rw [hm] at hT SM hn hl
  rw [show n - m = 4 by omega] at hT
  have SK := hid (show ∀ w', Kept [] w w' → (convert 36 9 (.slice (some ⟨b, off + m, none⟩) 4 (sc - m))).run Tryz.prog w' = .ok (.string (strOfNums (w4 (cr : Int)))) w' from fun w' k => (hT.kept k (by simp)).str)
  have WC := hid (fun w' => word_ref cr (by omega) w')
  have e1 : decide ((n : Int) ≥ 4) = true := by simp; omega
  have e2 : wrap64 ((n : Int) - 4) = (m : Int) := by rw [wrap64_id (by omega) (by omega)]; omega
  have e3 : (n : Int) - 4 = (m : Int) := by omega
  have hmn : m ≤ n := by omega
  have hms : m ≤ sc := by omega
  have e5 : n - m = 4 := by omega
  have e6 : decide (4 ≤ (n : Int)) = true := by simp; omega
  have ew : IntKind.i64.wrap (m : Int) = (m : Int) := i64_id (by omega) (by omega)
  have sne : ¬ (sc = m) := by omega
  clear h hT hH hb ht hh hsl hcr hc hn hm
  go_enter Tryz.func48, Tryz.ntmps48
  go_wp2_with fail
  have hS := SK.out _ ((Kept.refl [] w).drew)
  refine wp_region_noPanic ?_
  refine wp_region_held_drew (S := fun w' => (convert 36 9 (.slice (some ⟨b, off + m, none⟩) 4 (sc - m))).run Tryz.prog w' = .ok (.string (strOfNums (w4 (cr : Int)))) w') (by kernel_rfl) hS (fun hHeld => ?_)
  refine wpAnyH_take (i := 0) (oi := ⟨some 3, .move (.tmp 0), 36, "ref.go:24", #[], none⟩) (v := ?_) rfl (by kernel_rfl) (by kernel_rfl) (by kernel_rfl) (fun _ _ _ h => h) (Or.inl ⟨by rfl, ?_⟩) hHeld ?_
  rotate_left 1
  · intro w9 hSw; (try dsimp only at hSw); first | (go_simp; done) | (go_simp; with_reducible rfl)
  try simp only [Act.put, List.setIfInBounds_toArray, List.set_cons_zero, List.set_cons_succ]
  refine wpAnyH_take (i := 1) (oi := ⟨some 4, .call { callee := .builtin .len, args := #[.tmp 3], argTypes := #[36] }, 3, "ref.go:24", #[⟨0, .data⟩], none⟩) (v := ?_) rfl (by kernel_rfl) (by kernel_rfl) (by kernel_rfl) (fun _ _ _ h => h) (Or.inl ⟨by rfl, ?_⟩) hHeld ?_
  rotate_left 1
  · intro w9 hSw; (try dsimp only at hSw); first | (go_simp; done) | (go_simp; with_reducible rfl)
  try simp only [Act.put, List.setIfInBounds_toArray, List.set_cons_zero, List.set_cons_succ]
  refine wpAnyH_take (i := 2) (oi := ⟨some 5, .binOp .geq 3 (.tmp 4) (.const (.int .i64 4)) 3, 4, "ref.go:24", #[⟨1, .data⟩], none⟩) (v := ?_) rfl (by kernel_rfl) (by kernel_rfl) (by kernel_rfl) (fun _ _ _ h => h) (Or.inl ⟨by rfl, ?_⟩) hHeld ?_
  rotate_left 1
  · intro w9 hSw; (try dsimp only at hSw); first | (go_simp; done) | (go_simp; with_reducible rfl)
  try simp only [Act.put, List.setIfInBounds_toArray, List.set_cons_zero, List.set_cons_succ]
  refine wpAnyH_take (i := 3) (oi := ⟨some 6, .move (.tmp 5), 4, "ref.go:24", #[⟨2, .data⟩], none⟩) (v := ?_) rfl (by kernel_rfl) (by kernel_rfl) (by kernel_rfl) (fun _ _ _ h => h) (Or.inl ⟨by rfl, ?_⟩) hHeld ?_
  rotate_left 1
  · intro w9 hSw; (try dsimp only at hSw); first | (go_simp; done) | (go_simp; with_reducible rfl)
  try simp only [Act.put, List.setIfInBounds_toArray, List.set_cons_zero, List.set_cons_succ]
  refine wpAnyH_take (i := 4) (oi := ⟨some 7, .move (.tmp 0), 36, "ref.go:24", #[⟨3, .guard⟩], some (3, true)⟩) (v := ?_) rfl (by kernel_rfl) (by kernel_rfl) (by kernel_rfl) (fun _ _ _ h => h) (Or.inl ⟨by rfl, ?_⟩) hHeld ?_
  rotate_left 1
  · intro w9 hSw; (try dsimp only at hSw); first | (go_simp; done) | (go_simp; with_reducible rfl)
  try simp only [Act.put, List.setIfInBounds_toArray, List.set_cons_zero, List.set_cons_succ]
  refine wpAnyH_take (i := 5) (oi := ⟨some 8, .move (.tmp 0), 36, "ref.go:24", #[⟨3, .guard⟩], some (3, true)⟩) (v := ?_) rfl (by kernel_rfl) (by kernel_rfl) (by kernel_rfl) (fun _ _ _ h => h) (Or.inl ⟨by rfl, ?_⟩) hHeld ?_
  rotate_left 1
  · intro w9 hSw; (try dsimp only at hSw); first | (go_simp; done) | (go_simp; with_reducible rfl)
  try simp only [Act.put, List.setIfInBounds_toArray, List.set_cons_zero, List.set_cons_succ]
  refine wpAnyH_take (i := 6) (oi := ⟨some 9, .call { callee := .builtin .len, args := #[.tmp 8], argTypes := #[36] }, 3, "ref.go:24", #[⟨5, .data⟩, ⟨3, .guard⟩], some (3, true)⟩) (v := ?_) rfl (by kernel_rfl) (by kernel_rfl) (by kernel_rfl) (fun _ _ _ h => h) (Or.inl ⟨by rfl, ?_⟩) hHeld ?_
  rotate_left 1
  · intro w9 hSw; (try dsimp only at hSw); first | (go_simp; done) | (go_simp; with_reducible rfl)
  try simp only [Act.put, List.setIfInBounds_toArray, List.set_cons_zero, List.set_cons_succ]
  refine wpAnyH_take (i := 7) (oi := ⟨some 10, .binOp .sub 3 (.tmp 9) (.const (.int .i64 4)) 3, 3, "ref.go:24", #[⟨6, .data⟩, ⟨3, .guard⟩], some (3, true)⟩) (v := ?_) rfl (by kernel_rfl) (by kernel_rfl) (by kernel_rfl) (fun _ _ _ h => h) (Or.inl ⟨by rfl, ?_⟩) hHeld ?_
  rotate_left 1
  · intro w9 hSw; (try dsimp only at hSw); first | (go_simp; done) | (go_simp; with_reducible rfl)
  try simp only [Act.put, List.setIfInBounds_toArray, List.set_cons_zero, List.set_cons_succ]
  refine wpAnyH_take (i := 8) (oi := ⟨some 11, .slice 36 (.tmp 7) (some (.tmp 10)) none none, 36, "ref.go:24", #[⟨4, .data⟩, ⟨7, .data⟩, ⟨3, .guard⟩], some (3, true)⟩) (v := ?_) rfl (by kernel_rfl) (by kernel_rfl) (by kernel_rfl) (fun _ _ _ h => h) (Or.inl ⟨by rfl, ?_⟩) hHeld ?_
  rotate_left 1
  · intro w9 hSw; (try dsimp only at hSw); first | (go_simp; done) | (go_simp; with_reducible rfl)
  try simp only [Act.put, List.setIfInBounds_toArray, List.set_cons_zero, List.set_cons_succ]
  refine wpAnyH_take (i := 9) (oi := ⟨some 12, .convert 36 9 (.tmp 11), 9, "ref.go:24", #[⟨8, .data⟩, ⟨3, .guard⟩], some (3, true)⟩) (v := ?_) rfl (by kernel_rfl) (by kernel_rfl) (by kernel_rfl) (fun _ _ _ h => h) (Or.inl ⟨by rfl, ?_⟩) hHeld ?_
  rotate_left 1
  · intro w9 hSw; (try dsimp only at hSw); first | (go_simp; done) | (go_simp; with_reducible rfl)
  try simp only [Act.put, List.setIfInBounds_toArray, List.set_cons_zero, List.set_cons_succ]
  refine wpAnyH_take (i := 10) (oi := ⟨some 13, .move (.tmp 0), 36, "ref.go:24", #[⟨3, .guard⟩], some (3, true)⟩) (v := ?_) rfl (by kernel_rfl) (by kernel_rfl) (by kernel_rfl) (fun _ _ _ h => h) (Or.inl ⟨by rfl, ?_⟩) hHeld ?_
  rotate_left 1
  · intro w9 hSw; (try dsimp only at hSw); first | (go_simp; done) | (go_simp; with_reducible rfl)
  try simp only [Act.put, List.setIfInBounds_toArray, List.set_cons_zero, List.set_cons_succ]
  refine wpAnyH_take (i := 11) (oi := ⟨some 14, .move (.tmp 0), 36, "ref.go:24", #[⟨3, .guard⟩], some (3, true)⟩) (v := ?_) rfl (by kernel_rfl) (by kernel_rfl) (by kernel_rfl) (fun _ _ _ h => h) (Or.inl ⟨by rfl, ?_⟩) hHeld ?_
  rotate_left 1
  · intro w9 hSw; (try dsimp only at hSw); first | (go_simp; done) | (go_simp; with_reducible rfl)
  try simp only [Act.put, List.setIfInBounds_toArray, List.set_cons_zero, List.set_cons_succ]
  refine wpAnyH_take (i := 12) (oi := ⟨some 15, .call { callee := .builtin .len, args := #[.tmp 14], argTypes := #[36] }, 3, "ref.go:24", #[⟨11, .data⟩, ⟨3, .guard⟩], some (3, true)⟩) (v := ?_) rfl (by kernel_rfl) (by kernel_rfl) (by kernel_rfl) (fun _ _ _ h => h) (Or.inl ⟨by rfl, ?_⟩) hHeld ?_
  rotate_left 1
  · intro w9 hSw; (try dsimp only at hSw); first | (go_simp; done) | (go_simp; with_reducible rfl)
  try simp only [Act.put, List.setIfInBounds_toArray, List.set_cons_zero, List.set_cons_succ]
  refine wpAnyH_take (i := 13) (oi := ⟨some 16, .binOp .sub 3 (.tmp 15) (.const (.int .i64 4)) 3, 3, "ref.go:24", #[⟨12, .data⟩, ⟨3, .guard⟩], some (3, true)⟩) (v := ?_) rfl (by kernel_rfl) (by kernel_rfl) (by kernel_rfl) (fun _ _ _ h => h) (Or.inl ⟨by rfl, ?_⟩) hHeld ?_
  rotate_left 1
  · intro w9 hSw; (try dsimp only at hSw); first | (go_simp; done) | (go_simp; with_reducible rfl)
  try simp only [Act.put, List.setIfInBounds_toArray, List.set_cons_zero, List.set_cons_succ]
  refine wpAnyH_take (i := 14) (oi := ⟨some 17, .slice 36 (.tmp 13) none (some (.tmp 16)) none, 36, "ref.go:24", #[⟨10, .data⟩, ⟨13, .data⟩, ⟨3, .guard⟩], some (3, true)⟩) (v := ?_) rfl (by kernel_rfl) (by kernel_rfl) (by kernel_rfl) (fun _ _ _ h => h) (Or.inl ⟨by rfl, ?_⟩) hHeld ?_
  rotate_left 1
  · intro w9 hSw; (try dsimp only at hSw); first | (go_simp; done) | (go_simp; with_reducible rfl)
  try simp only [Act.put, List.setIfInBounds_toArray, List.set_cons_zero, List.set_cons_succ]
  refine wpAnyH_ready (rs := [15]) (by kernel_rfl) (by simp) ?_
  refine AllReadyH.cons (o := ⟨some 18, .call { callee := .value (.func 85), args := #[.tmp 17], argTypes := #[36] }, 24, "ref.go:24", #[⟨14, .data⟩, ⟨3, .chain⟩, ⟨3, .guard⟩], some (3, true)⟩) rfl (fun K hK => ?_) AllReadyH.nil
  go_simp
  go_at_call 85
  refine (SM.out _ ((Kept.refl [] w).drew)).mono ?_
  rintro x wg ⟨rfl, kg⟩
  have Kg := hid (((Kept.refl [] w).drew).trans kg)
  clear kg
  refine hK.out _ _ (SK.out _ Kg.out) (fun _ => ?_)
  clear hK K
  try simp only [Act.put, List.setIfInBounds_toArray, List.set_cons_zero, List.set_cons_succ]
  refine wpAnyH_ready (rs := [16]) (by kernel_rfl) (by simp) ?_
  refine AllReadyH.cons (o := ⟨some 19, .call { callee := .value (.func 84), args := #[.tmp 18], argTypes := #[24] }, 36, "ref.go:24", #[⟨15, .data⟩, ⟨15, .chain⟩, ⟨3, .guard⟩], some (3, true)⟩) rfl (fun K hK => ?_) AllReadyH.nil
  go_simp
  go_at_call 84
  refine (WC.out _).mono ?_
  rintro x wh ⟨vy, rfl, kh, mh⟩
  have SJ := hid (show ∀ w', Kept [] wh w' → (convert 36 9 vy).run Tryz.prog w' = .ok (.string (strOfNums (w4 (cr : Int)))) w' ∧ (convert 36 9 (.slice (some ⟨b, off + m, none⟩) 4 (sc - m))).run Tryz.prog w' = .ok (.string (strOfNums (w4 (cr : Int)))) w' from fun w' k => ⟨(mh.bytes.kept k (by simp)).str, SK.out _ ((Kg.out.trans (kh)).trans k)⟩)
  have Kh := hid (Kg.out.trans (kh))
  clear kh mh
  refine hK.out _ _ (SK.out _ Kh.out) (fun _ => ?_)
  clear hK K
  try simp only [Act.put, List.setIfInBounds_toArray, List.set_cons_zero, List.set_cons_succ]
  refine wpAnyH_weaken (S' := fun w' => (convert 36 9 vy).run Tryz.prog w' = .ok (.string (strOfNums (w4 (cr : Int)))) w' ∧ (convert 36 9 (.slice (some ⟨b, off + m, none⟩) 4 (sc - m))).run Tryz.prog w' = .ok (.string (strOfNums (w4 (cr : Int)))) w') (fun _ h => h.2) _ _ _ _ ?_
  have hJ := SJ.out _ (Kept.refl [] wh)
  refine wpAnyH_take (i := 17) (oi := ⟨some 20, .convert 36 9 (.tmp 19), 9, "ref.go:24", #[⟨16, .data⟩, ⟨3, .guard⟩], some (3, true)⟩) (v := ?_) rfl (by kernel_rfl) (by kernel_rfl) (by kernel_rfl) (fun _ _ _ h => h) (Or.inl ⟨by rfl, ?_⟩) hJ ?_
  rotate_left 1
  · intro w9 hSw; (try dsimp only at hSw); first | (go_simp; done) | (go_simp; with_reducible rfl)
  try simp only [Act.put, List.setIfInBounds_toArray, List.set_cons_zero, List.set_cons_succ]
  refine wpAnyH_take (i := 18) (oi := ⟨some 21, .binOp .eql 9 (.tmp 12) (.tmp 20) 9, 4, "ref.go:24", #[⟨9, .data⟩, ⟨17, .data⟩, ⟨3, .guard⟩], some (3, true)⟩) (v := ?_) rfl (by kernel_rfl) (by kernel_rfl) (by kernel_rfl) (fun _ _ _ h => h) (Or.inl ⟨by rfl, ?_⟩) hJ ?_
  rotate_left 1
  · intro w9 hSw; (try dsimp only at hSw); first | (go_simp; done) | (go_simp; with_reducible rfl)
  try simp only [Act.put, List.setIfInBounds_toArray, List.set_cons_zero, List.set_cons_succ]
  refine wpAnyH_take (i := 19) (oi := ⟨some 22, .pick (.tmp 6) (.tmp 21) (.const (.bool false)), 4, "ref.go:24", #[⟨3, .data⟩, ⟨18, .data⟩], none⟩) (v := ?_) rfl (by kernel_rfl) (by kernel_rfl) (by kernel_rfl) (fun _ _ _ h => h) (Or.inl ⟨by rfl, ?_⟩) hJ ?_
  rotate_left 1
  · intro w9 hSw; (try dsimp only at hSw); first | (go_simp; done) | (go_simp; with_reducible rfl)
  try simp only [Act.put, List.setIfInBounds_toArray, List.set_cons_zero, List.set_cons_succ]
  refine wpAnyH_take (i := 20) (oi := ⟨some 2, .assign (.tmp 22), 4, "ref.go:24", #[⟨19, .data⟩, ⟨16, .chain⟩, ⟨0, .phase⟩, ⟨1, .phase⟩, ⟨2, .phase⟩, ⟨3, .phase⟩, ⟨4, .phase⟩, ⟨5, .phase⟩, ⟨6, .phase⟩, ⟨7, .phase⟩, ⟨8, .phase⟩, ⟨9, .phase⟩, ⟨10, .phase⟩, ⟨11, .phase⟩, ⟨12, .phase⟩, ⟨13, .phase⟩, ⟨14, .phase⟩, ⟨15, .phase⟩, ⟨16, .phase⟩, ⟨17, .phase⟩, ⟨18, .phase⟩, ⟨19, .phase⟩], none⟩) (v := ?_) rfl (by kernel_rfl) (by kernel_rfl) (by kernel_rfl) (fun _ _ _ h => h) (Or.inl ⟨by rfl, ?_⟩) hJ ?_
  rotate_left 1
  · intro w9 hSw; (try dsimp only at hSw); first | (go_simp; done) | (go_simp; with_reducible rfl)
  try simp only [Act.put, List.setIfInBounds_toArray, List.set_cons_zero, List.set_cons_succ]
  refine wpAnyH_done (by kernel_rfl) ?_ _
  refine NoPanic.normal ?_
  go_wp2_with fail
  go_ret
  exact ⟨rfl, Kh.out⟩
end RfC
namespace RfC
open Go Go.RowKit Hp Sl Gf DogC SlC Ap CrcW TM UnW UEnc
theorem host_ref (k : Int) (w : World) : Calls Tryz.prog 23 #[.int .i64 k] w fun e w' => e = .returned (.bool (decide (1 ≤ k) && decide (k ≤ 5))) ∧ w' = w := by
  go_enter Tryz.func23, Tryz.ntmps23
  by_cases h1 : 1 ≤ k
  · have e1 : decide (k ≥ 1) = true := by simp; omega
    rw [decide_eq_true h1]
    go_wp2_with fail
    go_ret
    exact ⟨by simp, rfl⟩
  · have e1 : decide (k ≥ 1) = false := by simp; omega
    rw [decide_eq_false h1]
    go_wp2_with fail
    go_ret
    exact ⟨rfl, rfl⟩
theorem device_ref (k : Int) (w : World) : Calls Tryz.prog 86 #[.int .i64 k] w fun e w' => e = .returned (.bool (decide (17 ≤ k) && decide (k ≤ 22))) ∧ w' = w := by
  go_enter Tryz.func86, Tryz.ntmps86
  by_cases h1 : 17 ≤ k
  · have e1 : decide (k ≥ 17) = true := by simp; omega
    rw [decide_eq_true h1]
    go_wp2_with fail
    go_ret
    exact ⟨by simp, rfl⟩
  · have e1 : decide (k ≥ 17) = false := by simp; omega
    rw [decide_eq_false h1]
    go_wp2_with fail
    go_ret
    exact ⟨rfl, rfl⟩
set_option maxHeartbeats 3200000 in
theorem data_ref (u : U) (h : Law u) (w : World) : Calls Tryz.prog 87 #[.int .i64 u.kind, .int .i64 (u.data.length : Nat)] w fun e w' => e = .returned (.bool true) ∧ w' = w := by
  obtain ⟨k, c, s, n, f, l⟩ := u
  dsimp only
  rcases h with ⟨hk, h⟩ | ⟨hk, h⟩ | ⟨hk, h⟩ | ⟨hk, h⟩ | ⟨hk, h⟩ | ⟨hk, h⟩ | ⟨hk, h⟩ | ⟨hk, h⟩ | ⟨hk, h⟩ | ⟨hk, h⟩ | ⟨hk, h⟩
  all_goals (
    obtain rfl : k = _ := hk
    have hl := h.len
    dsimp only at hl
    (first | (obtain rfl : l.length = 4 := by omega) | skip)
    first
      | (have e4 : l.length = 4 := by omega
         rw [e4]; clear hl h e4
         go_enter Tryz.func87, Tryz.ntmps87
         go_wp2_with fail; go_ret; exact ⟨rfl, rfl⟩)
      | (have e4 : l.length = 0 := by omega
         rw [e4]; clear hl h e4
         go_enter Tryz.func87, Tryz.ntmps87
         go_wp2_with fail; go_ret; exact ⟨rfl, rfl⟩)
      | (have e1 : decide (((l.length : Nat) : Int) ≥ 1) = true := by simp; omega
         have e2 : decide (((l.length : Nat) : Int) ≤ 8) = true := by simp; omega
         generalize l.length = m at *
         clear hl h
         go_enter Tryz.func87, Tryz.ntmps87
         go_wp2_with fail; go_ret; exact ⟨rfl, rfl⟩))
end RfC
namespace RfC
open Go Go.RowKit Hp Sl Gf DogC SlC Ap CrcW TM UnW UEnc
set_option maxRecDepth 100000 in
set_option maxHeartbeats 6400000 in
theorem lawful_ref (u : U) (h : Law u) (p : Option Addr) (cc : Nat) (w : World) : Calls Tryz.prog 50 #[uval u (.slice p u.data.length cc)] w fun e w' => e = .returned (.int .i64 0) ∧ Kept [] w w' := by
  have DC := hid (fun w => data_ref u h w)
  obtain ⟨k, c, s, n, f, l⟩ := u
  unfold uval
  dsimp only at DC ⊢
  have H0 := hid (Has.new w 63 [.int .i64 k, .int .u32 c, .int .u32 s, .int .u32 n, .int .i64 f, .slice p l.length cc])
  have K0 := hid ((Kept.refl [] w).alloc (.cells #[.int .i64 k, .int .u32 c, .int .u32 s, .int .u32 n, .int .i64 f, .slice p l.length cc] 63))
  rcases h with ⟨hk, h⟩ | ⟨hk, h⟩ | ⟨hk, h⟩ | ⟨hk, h⟩ | ⟨hk, h⟩ | ⟨hk, h⟩ | ⟨hk, h⟩ | ⟨hk, h⟩ | ⟨hk, h⟩ | ⟨hk, h⟩ | ⟨hk, h⟩
  all_goals (
    obtain rfl : k = _ := hk
    have e1 : (c == 0) = false := by simpa using h.code
    (first
      | have e2 : (s != 0) = false := by have := h.ses; simp at this ⊢; omega
      | have e2 : (s == 0) = false := by have := h.ses; simp at this ⊢; omega
      | skip)
    (first
      | have e3 : (n != 0) = false := by have := h.num; simp at this ⊢; omega
      | have e3 : (n != 0) = true := by have := h.num; simp at this ⊢; omega)
    have e4 : decide (f < 0) = false := by have := h.lo; simp at this ⊢; omega
    have e5 : decide (f > 15) = false := by have := h.hi; simp at this ⊢; omega
    (first
      | have e6 : (f != 0) = false := by have := h.fl rfl; simp at this ⊢; omega
      | skip)
    clear h
    go_enter Tryz.func50, Tryz.ntmps50
    go_upto_region 1 with (fail)
    generalize w.alloc (.cells #[.int .i64 _, .int .u32 c, .int .u32 s, .int .u32 n, .int .i64 f, .slice p l.length cc] 63) = w1 at *
    have c0 := H0.out.cell 0 rfl
    have c1 := H0.out.cell 1 (v := .int .u32 c) rfl
    have c2 := H0.out.cell 2 (v := .int .u32 s) rfl
    have c3 := H0.out.cell 3 (v := .int .u32 n) rfl
    have c4 := H0.out.cell 4 (v := .int .i64 f) rfl
    have c5 := H0.out.cell 5 (v := .slice p l.length cc) rfl
    generalize w.heap.size = b at *
    go_wp2_with (first
      | (go_at_call 23; with_reducible refine (host_ref _ _).mono ?_; rintro e w2 ⟨rfl, rfl⟩; try simp only [Int.reduceLE, decide_true, decide_false, Bool.and_true, Bool.and_false, Bool.true_and, Bool.false_and])
      | (go_at_call 86; with_reducible refine (device_ref _ _).mono ?_; rintro e w2 ⟨rfl, rfl⟩; try simp only [Int.reduceLE, decide_true, decide_false, Bool.and_true, Bool.and_false, Bool.true_and, Bool.false_and])
      | (go_at_call 87; with_reducible refine (DC.out _).mono ?_; rintro e w2 ⟨rfl, rfl⟩))
    go_ret
    exact ⟨rfl, K0.out⟩)
end RfC
end Go.Proofs.YtinaliblnihpbaaGreat
