/- The walks and the plain laws of TopF, TopG, TopJ, PlD, PlE, TopL, S17c. -/
import Derived.Test.YtinaliblnihpbaaGreatV23
import Derived.Test.YtinaliblnihpbaaGreatV01
import Derived.Test.YtinaliblnihpbaaGreatV02
import Derived.Test.YtinaliblnihpbaaGreatV16
import Derived.Test.YtinaliblnihpbaaGreatV07
import Derived.Deep.CutBlock
import Derived.Test.YtinaliblnihpbaaGreatV04
import Derived.Test.YtinaliblnihpbaaGreatV05
set_option linter.unusedVariables false
set_option linter.unusedSimpArgs false
open Go.Lib (hid)
namespace Go.Proofs.YtinaliblnihpbaaGreat
namespace TopC
open Go Go.RowKit Gf Hp Sl Ow Rw TM ParW WdC NetC EncW HostC DevC ValveC UEnc
def rowL (mv : Mv) (mp : Option Addr) (ml mc : Nat) (code sent : Int) (h : TM.End) (hp : Option Addr) (hl hc : Nat) (d : TM.End) (dp : Option Addr) (dl dc : Nat) : List Value := [.int .i64 mv.kind, .int .i64 mv.conn, .int .i64 mv.side, .int .i64 mv.frame, .int .i64 mv.at', .int .u32 mv.word, .int .i64 mv.n, .bool mv.hold, .slice mp ml mc, .int .i64 code, .int .i64 sent, .int .i64 h.state, .int .u32 h.ses, .int .u32 h.num, .int .u32 h.sent, .int .i64 h.since, .int .i64 h.latched, .bool h.request, .bool h.on, .slice hp hl hc, .int .i64 d.state, .int .u32 d.ses, .int .u32 d.num, .int .u32 d.sent, .int .i64 d.since, .int .i64 d.latched, .bool d.request, .bool d.on, .slice dp dl dc]
theorem rowV_L (mv : Mv) (mp : Option Addr) (ml mc : Nat) (code sent : Int) (h : TM.End) (hp : Option Addr) (hl hc : Nat) (d : TM.End) (dp : Option Addr) (dl dc : Nat) : rowV mv mp ml mc code sent h hp hl hc d dp dl dc = .agg (rowL mv mp ml mc code sent h hp hl hc d dp dl dc).toArray := rfl
def mvS : Mv := ⟨2, 0, 0, 0, 0, 0, 0, false, []⟩
def mvD : Mv := ⟨3, 0, 2, 0, 0, 0, 0, false, []⟩
theorem lone_good : NetC.Good [small] := by
  refine ⟨fun p hp => ?_, fun i j p q hij hi hj => ?_⟩
  · simp at hp; subst hp; exact ⟨by decide, by decide, by decide, by decide, by decide⟩
  · have := (List.getElem?_eq_some_iff.1 hj).1; simp at this; omega
theorem aw2 (h : H) (sig : List Int) : ((⟨h, D.new small 50, sig⟩ : Cn).play mvD ⟨1, 7, 0, 0, 0, sig⟩).2.1.isSome = true ∧ ((⟨h, D.new small 50, sig⟩ : Cn).play mvD ⟨1, 7, 0, 0, 0, sig⟩).1.d.state = 2 := by
  have e : (⟨h, D.new small 50, sig⟩ : Cn).play mvD ⟨1, 7, 0, 0, 0, sig⟩ = ({ h := h, d := ((D.new small 50).asked sig ⟨1, 7, 0, 0, 0, sig⟩).1, sig := sig }, ((D.new small 50).asked sig ⟨1, 7, 0, 0, 0, sig⟩).2.1, ((D.new small 50).asked sig ⟨1, 7, 0, 0, 0, sig⟩).2.2) := rfl
  rw [e]
  unfold D.asked
  rw [if_pos rfl, if_neg (by decide)]
  unfold D.begin
  rw [if_neg (by decide), if_pos (by decide)]
  exact ⟨rfl, rfl⟩
def xA : Wd := net0 [small] 50
theorem xA_f : xA.fault mvS = 0 := by decide
theorem xA_next : xA.next mvS = ⟨[⟨{ H.new small with waits := true }, D.new small 50, sigB small⟩], [⟨1, 7, 0, 0, 0, sigB small⟩], 1⟩ := rfl
theorem xB_f : (xA.next mvS).fault mvD = 0 := by rw [xA_next]; rfl
theorem xB_step : ((xA.next mvS).step mvD).2.1.isSome = true ∧ ((xA.next mvS).step mvD).1.d.state = 2 := by rw [xA_next]; exact aw2 _ _
theorem xB_row : ((xA.next mvS).row mvD).sent = 1 ∧ ((xA.next mvS).row mvD).dev.state = 2 := by
  unfold Wd.row
  refine ⟨?_, xB_step.2⟩
  show (if ((xA.next mvS).step mvD).2.1.isSome then ((xA.next mvS).bag.length : Int) else -1) = 1
  rw [if_pos xB_step.1]; rfl
theorem xC_len : ((xA.next mvS).next mvD).bag.length = 2 ∧ ((xA.next mvS).next mvD).moves = 2 := by
  refine ⟨?_, rfl⟩
  obtain ⟨u, hu⟩ := Option.isSome_iff_exists.1 xB_step.1
  show ((xA.next mvS).bag ++ ((xA.next mvS).step mvD).2.1.toList).length = 2
  rw [hu]; rfl
variable {X X' : Nat → Prop} {w w' : World} {b : Nat} {x : Wd} {k : Nat} {mv : Mv}
theorem LW.movesC (h : LW X w b x) : Calls Tryz.prog 33 #[.pointer (some ⟨b, 0, none⟩)] w fun e w' => e = .returned (.int .i64 x.moves) ∧ w' = w := by
  obtain ⟨G, nh, nd, mx, cv, ca, cs, bb, n, hG, hx, ⟨lab, fv, fa, xs, hw⟩, hn, hok⟩ := h
  have c6 := hw.t0.top.cell 6 rfl
  clear hw hok
  go_enter Tryz.func33, Tryz.ntmps33
  go_wp2_with fail
  go_ret
  exact ⟨rfl, rfl⟩
theorem mvok (mv : Mv) (e : mv.data = []) (hw : mv.word = 0) (hn : mv.n = 0) : MvOk mv := ⟨by rw [e]; intro z hz; simp at hz, by rw [e]; decide, by rw [hw]; decide, by rw [hn]; decide⟩
set_option maxRecDepth 100000 in
set_option maxHeartbeats 3200000 in
theorem awake_call (w : World) : Calls Tryz.prog 12 #[] w fun e w' => e = .returned (.bool true) ∧ Kept [] w w' := by
  go_enter Tryz.func12, Tryz.ntmps12
  go_wp2_with fail
  refine (lone_call _).mono ?_
  rintro e w1 ⟨v, rfl, hv⟩
  have K1 := hid (show Kept [] w w1 from by obtain ⟨_, _, _, _, _, _, q, _⟩ := hv; exact q)
  have NW := hid (new_world v [small] w hv lone_good (by decide) (by decide))
  clear hv
  go_wp2_with fail
  refine NW.out.mono ?_
  rintro e w2 ⟨b, rfl, k2, hw⟩
  have K2 := hid (K1.out.trans k2)
  have L2 := hid (show LW (fun i => i < w.heap.size) w2 b xA from hw.weak (fun i hi => Nat.lt_of_lt_of_le hi K1.out.size))
  clear k2 hw NW
  have P1 := LW.play (mv := mvS) (dp := none) (dc := 0) L2.out (mvok _ rfl rfl rfl) (.inl ⟨rfl, rfl⟩) (fun b' off n c e => by cases e)
  rw [xA_f] at P1
  have P1 : Hid (Calls Tryz.prog 14 #[.pointer (some ⟨b, 0, none⟩), .agg #[.int .i64 2, .int .i64 0, .int .i64 0, .int .i64 0, .int .i64 0, .int .u32 0, .int .i64 0, .bool false, .slice none 0 0]] w2 _) := hid P1
  go_wp2_with fail
  refine P1.out.mono ?_
  rintro e w3 ⟨mp, ml, mc, code, sent, hh, s1, l1, c1, dd, s2, l2, c2, mv', rfl, sp, lw, hr⟩
  have sn : sent = 0 := (hr trivial).1.2.2.2.1
  subst sn
  have K3 := hid (kg_nil (Nat.le_refl _) ((KG.nil (G := fun i => w.heap.size ≤ i) K2.out).trans (KG.shed sp (fun i _ q => Nat.le_of_not_lt q))))
  have L3 := hid (show LW (fun i => i < w.heap.size) w3 b (xA.next mvS) from by have := lw; unfold Wd.play at this; rw [if_pos xA_f] at this; exact this)
  clear sp lw hr
  rw [rowV_L]
  unfold rowL
  iterate 14 (first | go_values | go_skip | go_guarded | go_step | go_upon | go_back | (simp only [Int.not_lt, Int.not_le] at *; go_simp) | (go_values <;> (try go_simp)))
  refine wpList_put (o := 0) (Has.new w3 44 [.int .i64 0, .int .i64 0, .int .i64 0, .int .i64 0, .int .i64 0, .int .u32 0, .int .i64 0, .bool false, .slice none 0 0, .int .i64 0, .int .i64 0, .int .i64 0, .int .u32 0, .int .u32 0, .int .u32 0, .int .i64 0, .int .i64 0, .bool false, .bool false, .slice none 0 0, .int .i64 0, .int .u32 0, .int .u32 0, .int .u32 0, .int .i64 0, .int .i64 0, .bool false, .bool false, .slice none 0 0]) [.int .i64 mv'.kind, .int .i64 mv'.conn, .int .i64 mv'.side, .int .i64 mv'.frame, .int .i64 mv'.at', .int .u32 mv'.word, .int .i64 mv'.n, .bool mv'.hold, .slice mp ml mc, .int .i64 code, .int .i64 0, .int .i64 hh.state, .int .u32 hh.ses, .int .u32 hh.num, .int .u32 hh.sent, .int .i64 hh.since, .int .i64 hh.latched, .bool hh.request, .bool hh.on, .slice s1 l1 c1, .int .i64 dd.state, .int .u32 dd.ses, .int .u32 dd.num, .int .u32 dd.sent, .int .i64 dd.since, .int .i64 dd.latched, .bool dd.request, .bool dd.on, .slice s2 l2 c2] 44 (.tmp 3) (.tmp 21) rfl rfl rfl rfl (Nat.le_refl 29) infoR rfl ?_
  obtain ⟨ew4, qw4⟩ := puts_all [.int .i64 mv'.kind, .int .i64 mv'.conn, .int .i64 mv'.side, .int .i64 mv'.frame, .int .i64 mv'.at', .int .u32 mv'.word, .int .i64 mv'.n, .bool mv'.hold, .slice mp ml mc, .int .i64 code, .int .i64 0, .int .i64 hh.state, .int .u32 hh.ses, .int .u32 hh.num, .int .u32 hh.sent, .int .i64 hh.since, .int .i64 hh.latched, .bool hh.request, .bool hh.on, .slice s1 l1 c1, .int .i64 dd.state, .int .u32 dd.ses, .int .u32 dd.num, .int .u32 dd.sent, .int .i64 dd.since, .int .i64 dd.latched, .bool dd.request, .bool dd.on, .slice s2 l2 c2] (Has.new w3 44 [.int .i64 0, .int .i64 0, .int .i64 0, .int .i64 0, .int .i64 0, .int .u32 0, .int .i64 0, .bool false, .slice none 0 0, .int .i64 0, .int .i64 0, .int .i64 0, .int .u32 0, .int .u32 0, .int .u32 0, .int .i64 0, .int .i64 0, .bool false, .bool false, .slice none 0 0, .int .i64 0, .int .u32 0, .int .u32 0, .int .u32 0, .int .i64 0, .int .i64 0, .bool false, .bool false, .slice none 0 0]) rfl
  have Qw4 := hid (((Kept.refl [] w3).alloc (.cells #[.int .i64 0, .int .i64 0, .int .i64 0, .int .i64 0, .int .i64 0, .int .u32 0, .int .i64 0, .bool false, .slice none 0 0, .int .i64 0, .int .i64 0, .int .i64 0, .int .u32 0, .int .u32 0, .int .u32 0, .int .i64 0, .int .i64 0, .bool false, .bool false, .slice none 0 0, .int .i64 0, .int .u32 0, .int .u32 0, .int .u32 0, .int .i64 0, .int .i64 0, .bool false, .bool false, .slice none 0 0] 44)).fresh qw4 (by intro i hi hl; simp at hi; omega))
  have Ew4 := hid ew4
  clear ew4 qw4
  generalize (w3.alloc (.cells #[.int .i64 0, .int .i64 0, .int .i64 0, .int .i64 0, .int .i64 0, .int .u32 0, .int .i64 0, .bool false, .slice none 0 0, .int .i64 0, .int .i64 0, .int .i64 0, .int .u32 0, .int .u32 0, .int .u32 0, .int .i64 0, .int .i64 0, .bool false, .bool false, .slice none 0 0, .int .i64 0, .int .u32 0, .int .u32 0, .int .u32 0, .int .i64 0, .int .i64 0, .bool false, .bool false, .slice none 0 0] 44)).setCells w3.heap.size 0 [.int .i64 mv'.kind, .int .i64 mv'.conn, .int .i64 mv'.side, .int .i64 mv'.frame, .int .i64 mv'.at', .int .u32 mv'.word, .int .i64 mv'.n, .bool mv'.hold, .slice mp ml mc, .int .i64 code, .int .i64 0, .int .i64 hh.state, .int .u32 hh.ses, .int .u32 hh.num, .int .u32 hh.sent, .int .i64 hh.since, .int .i64 hh.latched, .bool hh.request, .bool hh.on, .slice s1 l1 c1, .int .i64 dd.state, .int .u32 dd.ses, .int .u32 dd.num, .int .u32 dd.sent, .int .i64 dd.since, .int .i64 dd.latched, .bool dd.request, .bool dd.on, .slice s2 l2 c2] = w4 at Qw4 Ew4 ⊢
  obtain ⟨RA, hRA⟩ : ∃ R, R = w3.heap.size := ⟨_, rfl⟩
  rw [← hRA] at Ew4 ⊢
  have RAL := hid (Nat.le_of_eq hRA.symm)
  clear hRA
  have K4 := hid (K3.out.trans Qw4.out)
  have L4 := hid (L3.out.step (X' := fun i => i < w.heap.size ∨ i = RA) Qw4.out (by simp) (fun i hi => by
    rcases hi with hi | rfl
    · exact .inl hi
    · exact .inr ⟨RAL.out, Ew4.out.lt⟩))
  have P2 := LW.play (mv := mvD) (dp := none) (dc := 0) L4.out (mvok _ rfl rfl rfl) (.inl ⟨rfl, rfl⟩) (fun b' off n c e => by cases e)
  rw [xB_f] at P2
  have P2 : Hid (Calls Tryz.prog 14 #[.pointer (some ⟨b, 0, none⟩), .agg #[.int .i64 3, .int .i64 0, .int .i64 2, .int .i64 0, .int .i64 0, .int .u32 0, .int .i64 0, .bool false, .slice none 0 0]] w4 _) := hid P2
  clear K3 L3 P1
  go_wp2_with fail
  refine P2.out.mono ?_
  rintro e w5 ⟨mp2, ml2, mc2, code2, sent2, hh2, s12, l12, c12, dd2, s22, l22, c22, mv2', rfl, sp, lw, hr⟩
  have sn : sent2 = 1 := (hr trivial).1.2.2.2.1.trans xB_row.1
  have sd : dd2.state = 2 := by rw [(hr trivial).1.2.2.2.2.2.1]; exact xB_row.2
  subst sn
  have SD := hid sd
  have K5 := hid (kg_nil (Nat.le_refl _) ((KG.nil (G := fun i => w.heap.size ≤ i) K4.out).trans (KG.shed sp (fun i _ q => Nat.le_of_not_lt (fun z => q (.inl z))))))
  have L5 := hid (show LW (fun i => i < w.heap.size ∨ i = RA) w5 b ((xA.next mvS).next mvD) from by have := lw; unfold Wd.play at this; rw [if_pos xB_f] at this; exact this)
  have E5 := hid (sp.has Ew4.out (.inr rfl))
  clear sp lw hr sd P2 L4 K4
  rw [rowV_L]
  unfold rowL
  iterate 14 (first | go_values | go_skip | go_guarded | go_step | go_upon | go_back | (simp only [Int.not_lt, Int.not_le] at *; go_simp) | (go_values <;> (try go_simp)))
  refine wpList_put (o := 0) (Has.new w5 44 [.int .i64 0, .int .i64 0, .int .i64 0, .int .i64 0, .int .i64 0, .int .u32 0, .int .i64 0, .bool false, .slice none 0 0, .int .i64 0, .int .i64 0, .int .i64 0, .int .u32 0, .int .u32 0, .int .u32 0, .int .i64 0, .int .i64 0, .bool false, .bool false, .slice none 0 0, .int .i64 0, .int .u32 0, .int .u32 0, .int .u32 0, .int .i64 0, .int .i64 0, .bool false, .bool false, .slice none 0 0]) [.int .i64 mv2'.kind, .int .i64 mv2'.conn, .int .i64 mv2'.side, .int .i64 mv2'.frame, .int .i64 mv2'.at', .int .u32 mv2'.word, .int .i64 mv2'.n, .bool mv2'.hold, .slice mp2 ml2 mc2, .int .i64 code2, .int .i64 1, .int .i64 hh2.state, .int .u32 hh2.ses, .int .u32 hh2.num, .int .u32 hh2.sent, .int .i64 hh2.since, .int .i64 hh2.latched, .bool hh2.request, .bool hh2.on, .slice s12 l12 c12, .int .i64 dd2.state, .int .u32 dd2.ses, .int .u32 dd2.num, .int .u32 dd2.sent, .int .i64 dd2.since, .int .i64 dd2.latched, .bool dd2.request, .bool dd2.on, .slice s22 l22 c22] 44 (.tmp 4) (.tmp 27) rfl rfl rfl rfl (Nat.le_refl 29) infoR rfl ?_
  obtain ⟨ew6, qw6⟩ := puts_all [.int .i64 mv2'.kind, .int .i64 mv2'.conn, .int .i64 mv2'.side, .int .i64 mv2'.frame, .int .i64 mv2'.at', .int .u32 mv2'.word, .int .i64 mv2'.n, .bool mv2'.hold, .slice mp2 ml2 mc2, .int .i64 code2, .int .i64 1, .int .i64 hh2.state, .int .u32 hh2.ses, .int .u32 hh2.num, .int .u32 hh2.sent, .int .i64 hh2.since, .int .i64 hh2.latched, .bool hh2.request, .bool hh2.on, .slice s12 l12 c12, .int .i64 dd2.state, .int .u32 dd2.ses, .int .u32 dd2.num, .int .u32 dd2.sent, .int .i64 dd2.since, .int .i64 dd2.latched, .bool dd2.request, .bool dd2.on, .slice s22 l22 c22] (Has.new w5 44 [.int .i64 0, .int .i64 0, .int .i64 0, .int .i64 0, .int .i64 0, .int .u32 0, .int .i64 0, .bool false, .slice none 0 0, .int .i64 0, .int .i64 0, .int .i64 0, .int .u32 0, .int .u32 0, .int .u32 0, .int .i64 0, .int .i64 0, .bool false, .bool false, .slice none 0 0, .int .i64 0, .int .u32 0, .int .u32 0, .int .u32 0, .int .i64 0, .int .i64 0, .bool false, .bool false, .slice none 0 0]) rfl
  have Qw6 := hid (((Kept.refl [] w5).alloc (.cells #[.int .i64 0, .int .i64 0, .int .i64 0, .int .i64 0, .int .i64 0, .int .u32 0, .int .i64 0, .bool false, .slice none 0 0, .int .i64 0, .int .i64 0, .int .i64 0, .int .u32 0, .int .u32 0, .int .u32 0, .int .i64 0, .int .i64 0, .bool false, .bool false, .slice none 0 0, .int .i64 0, .int .u32 0, .int .u32 0, .int .u32 0, .int .i64 0, .int .i64 0, .bool false, .bool false, .slice none 0 0] 44)).fresh qw6 (by intro i hi hl; simp at hi; omega))
  have Ew6 := hid ew6
  clear ew6 qw6
  generalize (w5.alloc (.cells #[.int .i64 0, .int .i64 0, .int .i64 0, .int .i64 0, .int .i64 0, .int .u32 0, .int .i64 0, .bool false, .slice none 0 0, .int .i64 0, .int .i64 0, .int .i64 0, .int .u32 0, .int .u32 0, .int .u32 0, .int .i64 0, .int .i64 0, .bool false, .bool false, .slice none 0 0, .int .i64 0, .int .u32 0, .int .u32 0, .int .u32 0, .int .i64 0, .int .i64 0, .bool false, .bool false, .slice none 0 0] 44)).setCells w5.heap.size 0 [.int .i64 mv2'.kind, .int .i64 mv2'.conn, .int .i64 mv2'.side, .int .i64 mv2'.frame, .int .i64 mv2'.at', .int .u32 mv2'.word, .int .i64 mv2'.n, .bool mv2'.hold, .slice mp2 ml2 mc2, .int .i64 code2, .int .i64 1, .int .i64 hh2.state, .int .u32 hh2.ses, .int .u32 hh2.num, .int .u32 hh2.sent, .int .i64 hh2.since, .int .i64 hh2.latched, .bool hh2.request, .bool hh2.on, .slice s12 l12 c12, .int .i64 dd2.state, .int .u32 dd2.ses, .int .u32 dd2.num, .int .u32 dd2.sent, .int .i64 dd2.since, .int .i64 dd2.latched, .bool dd2.request, .bool dd2.on, .slice s22 l22 c22] = w6 at Qw6 Ew6 ⊢
  generalize w5.heap.size = RB at Ew6 ⊢
  have K6 := hid (K5.out.trans Qw6.out)
  have L6 := hid (L5.out.nil Qw6.out)
  have a10 := (Qw6.out.has E5.out (by simp)).cell 10 rfl
  have b10 := Ew6.out.cell 10 rfl
  have b20 := Ew6.out.cell 20 rfl
  rw [SD.out] at b20
  have FC := hid L6.out.frames
  have MC := hid L6.out.movesC
  have la := (Qw6.out.has E5.out (by simp)).lt
  have lb := Ew6.out.lt
  go_wp2_with fail
  refine FC.out.mono ?_
  rintro e w7 ⟨rfl, rfl⟩
  rw [xC_len.1]
  go_wp2_with fail
  refine MC.out.mono ?_
  rintro e w8 ⟨rfl, rfl⟩
  rw [xC_len.2]
  go_wp2_with fail
  go_ret
  exact ⟨rfl, K6.out⟩
end TopC
namespace TopC
open Go Go.RowKit Gf Hp Sl Ow Rw TM ParW WdC NetC EncW HostC DevC ValveC UEnc Fit
variable {X X' : Nat → Prop} {w w' : World} {b : Nat} {x : Wd} {k : Nat} {mv : Mv}
theorem mv_cells {w : World} {n : Nat} {cs : List Value} (h : Fits Tryz.prog w n 38 cs) :
    ∃ (x0 : Int) (x1 : Int) (x2 : Int) (x3 : Int) (x4 : Int) (x5 : Int) (x6 : Int) (x7 : Bool) (x8 : Option Addr) (lx8 : Nat) (cx8 : Nat), cs = [.int .i64 x0, .int .i64 x1, .int .i64 x2, .int .i64 x3, .int .i64 x4, .int .u32 x5, .int .i64 x6, .bool x7, .slice x8 lx8 cx8] ∧ (Lit.int .i64 x0).wf = true ∧ (Lit.int .i64 x1).wf = true ∧ (Lit.int .i64 x2).wf = true ∧ (Lit.int .i64 x3).wf = true ∧ (Lit.int .i64 x4).wf = true ∧ (Lit.int .u32 x5).wf = true ∧ (Lit.int .i64 x6).wf = true ∧ (∃ n, Fits Tryz.prog w n 36 [.slice x8 lx8 cx8]) := by
  have hl := fits_len Tryz.underlying38 h 9 (by kernel_rfl)
  match cs, hl with
  | [v0, v1, v2, v3, v4, v5, v6, v7, v8], _ =>
  obtain ⟨n1, h1⟩ := fits_field Tryz.underlying38 h 0 _ rfl 1 (by kernel_rfl) [v0] rfl
  obtain ⟨x0, e1, w1⟩ := fits_int Tryz.underlying34 h1
  obtain rfl : v0 = .int .i64 x0 := (List.cons.inj e1).1
  obtain ⟨n2, h2⟩ := fits_field Tryz.underlying38 h 1 _ rfl 1 (by kernel_rfl) [v1] rfl
  obtain ⟨x1, e2, w2⟩ := fits_int Tryz.underlying3 h2
  obtain rfl : v1 = .int .i64 x1 := (List.cons.inj e2).1
  obtain ⟨n3, h3⟩ := fits_field Tryz.underlying38 h 2 _ rfl 1 (by kernel_rfl) [v2] rfl
  obtain ⟨x2, e3, w3⟩ := fits_int Tryz.underlying35 h3
  obtain rfl : v2 = .int .i64 x2 := (List.cons.inj e3).1
  obtain ⟨n4, h4⟩ := fits_field Tryz.underlying38 h 3 _ rfl 1 (by kernel_rfl) [v3] rfl
  obtain ⟨x3, e4, w4⟩ := fits_int Tryz.underlying3 h4
  obtain rfl : v3 = .int .i64 x3 := (List.cons.inj e4).1
  obtain ⟨n5, h5⟩ := fits_field Tryz.underlying38 h 4 _ rfl 1 (by kernel_rfl) [v4] rfl
  obtain ⟨x4, e5, w5⟩ := fits_int Tryz.underlying3 h5
  obtain rfl : v4 = .int .i64 x4 := (List.cons.inj e5).1
  obtain ⟨n6, h6⟩ := fits_field Tryz.underlying38 h 5 _ rfl 1 (by kernel_rfl) [v5] rfl
  obtain ⟨x5, e6, w6⟩ := fits_int Tryz.underlying24 h6
  obtain rfl : v5 = .int .u32 x5 := (List.cons.inj e6).1
  obtain ⟨n7, h7⟩ := fits_field Tryz.underlying38 h 6 _ rfl 1 (by kernel_rfl) [v6] rfl
  obtain ⟨x6, e7, w7⟩ := fits_int Tryz.underlying3 h7
  obtain rfl : v6 = .int .i64 x6 := (List.cons.inj e7).1
  obtain ⟨n8, h8⟩ := fits_field Tryz.underlying38 h 7 _ rfl 1 (by kernel_rfl) [v7] rfl
  obtain ⟨x7, e8⟩ := fits_bool Tryz.underlying4 h8
  obtain rfl : v7 = .bool x7 := (List.cons.inj e8).1
  obtain ⟨n9, h9⟩ := fits_field Tryz.underlying38 h 8 _ rfl 1 (by kernel_rfl) [v8] rfl
  obtain ⟨x8, lx8, cx8, e9⟩ := fits_slice Tryz.underlying36 h9
  obtain rfl : v8 = .slice x8 lx8 cx8 := (List.cons.inj e9).1
  exact ⟨x0, x1, x2, x3, x4, x5, x6, x7, x8, lx8, cx8, rfl, w1, w2, w3, w4, w5, w6, w7, ⟨_, h9⟩⟩
theorem by_of {l : List Int} (hw : ∀ i, i < l.length → (Lit.int .u8 (l.getD i 0)).wf = true) : Gf.By l := by
  intro z hz
  obtain ⟨i, hi, rfl⟩ := List.getElem_of_mem hz
  have := hw i hi
  rw [List.getD_eq_getElem?_getD, List.getElem?_eq_getElem hi, Option.getD_some] at this
  simp [Lit.wf, IntKind.min, IntKind.max, IntKind.signed, IntKind.bits] at this
  omega
theorem i64_of {z : Int} (h : (Lit.int .i64 z).wf = true) : -9223372036854775808 ≤ z ∧ z < 9223372036854775808 := by
  simp [Lit.wf, IntKind.min, IntKind.max, IntKind.signed, IntKind.bits] at h
  omega
theorem u32_of {z : Int} (h : (Lit.int .u32 z).wf = true) : 0 ≤ z ∧ z < 4294967296 := by
  simp [Lit.wf, IntKind.min, IntKind.max, IntKind.signed, IntKind.bits] at h
  omega
theorem mv_read {W : World} {n : Nat} {cs : List Value} (h : Fits Tryz.prog W n 38 cs) : ∃ (mv : Mv) (dp : Option Addr) (dc : Nat), cs = mcs mv dp mv.data.length dc ∧ Bytes W (.slice dp mv.data.length dc) mv.data ∧ MvOk mv
    ∧ (-9223372036854775808 ≤ mv.conn ∧ mv.conn < 9223372036854775808) ∧ (-9223372036854775808 ≤ mv.side ∧ mv.side < 9223372036854775808) ∧ (-9223372036854775808 ≤ mv.frame ∧ mv.frame < 9223372036854775808) := by
  obtain ⟨x0, x1, x2, x3, x4, x5, x6, x7, p, l, c, rfl, h0, h1, h2, h3, h4, h5, h6, m, hf⟩ := mv_cells h
  obtain ⟨a, rfl, ha, hl, wa⟩ := bytes_of_fits hf
  exact ⟨⟨x0, x1, x2, x3, x4, x5, x6, x7, a⟩, p, c, rfl, ha, ⟨by_of wa, by show a.length ≤ _; unfold reachBytes at hl; omega, u32_of h5, (i64_of h6).2⟩, i64_of h1, i64_of h2, i64_of h3⟩
structure MvAt (W : World) (b off i : Nat) (mv : Mv) (dp : Option Addr) (dc : Nat) : Prop where
  block : b < W.heap.size
  cells : ∀ j, j < 9 → W.cell? ⟨b, off + i * 9 + j, none⟩ = (mcs mv dp mv.data.length dc)[j]?
  bytes : Bytes W (.slice dp mv.data.length dc) mv.data
  ok : MvOk mv
theorem mv_at {W : World} {n : Nat} {x : Option Addr} {len cap : Nat} (hf : Fits Tryz.prog W n 22 [.slice x len cap]) :
    len ≤ maxLen ∧ (len = 0 ∨ ∃ b off, x = some ⟨b, off, none⟩ ∧ ∀ i, i < len → ∃ mv dp dc, MvAt W b off i mv dp dc) := by
  obtain ⟨_, hm, _, _, hp⟩ := fits_elems Tryz.underlying22 hf 9 88 (by kernel_rfl) (by kernel_rfl) (by decide)
  refine ⟨hm, ?_⟩
  rcases hp with h | ⟨b, off, rfl, hb, hel⟩
  · exact .inl h
  · refine .inr ⟨b, off, rfl, fun i hi => ?_⟩
    obtain ⟨m, cs, hcl, hcc, hfit⟩ := hel i hi
    obtain ⟨mv, dp, dc, rfl, hb2, ho, _⟩ := mv_read hfit
    exact ⟨mv, dp, dc, hb, hcc, hb2, ho⟩
theorem MvAt.cell {W w : World} {b off i : Nat} {mv : Mv} {dp : Option Addr} {dc : Nat} (h : MvAt W b off i mv dp dc) (K : Kept [] W w) (j : Nat) (hj : j < 9) : w.cell? ⟨b, off + i * 9 + j, none⟩ = (mcs mv dp mv.data.length dc)[j]? := by
  rw [K.cell h.block (by simp), h.cells j hj]
theorem Spared.nil {W : World} (K : Kept [] W w) (s : Spared X w w') (hX : ∀ i, i < W.heap.size → X i) : Kept [] W w' :=
  kg_nil (Nat.le_refl _) ((KG.nil (G := fun i => W.heap.size ≤ i) K).trans (KG.shed s (fun i _ q => Nat.le_of_not_lt (fun z => q (hX i z)))))
end TopC
namespace TopC
open Go Go.RowKit Gf Hp Sl Ow Rw TM ParW WdC NetC EncW HostC DevC ValveC UEnc Fit
variable {X X' : Nat → Prop} {w w' : World} {b : Nat} {x : Wd} {k : Nat} {mv : Mv}
theorem play_len (x : Wd) (mv : Mv) : (x.play mv).cs.length = x.cs.length ∧ (x.play mv).moves ≤ x.moves + 1 := by
  unfold Wd.play
  split
  · exact ⟨by simp [Wd.next], Int.le_refl _⟩
  · exact ⟨rfl, by omega⟩
end TopC
namespace TM
open Go ValveC
variable {h h' : H} {d d' : D} {sig : List Int} {u : U} {c : Cn} {m : Mv} {x : Wd}
theorem cn_next (x : Wd) (m : Mv) (h0 : 0 ≤ m.conn ∧ m.conn < x.cs.length) (k : Nat) : (x.next m).cn k = if (k : Int) = m.conn then (x.step m).1 else x.cn k := by
  unfold Wd.next Wd.cn
  simp only [List.getD_eq_getElem?_getD, List.getElem?_set]
  by_cases e : (k : Int) = m.conn
  · have e1 : m.conn.toNat = k := by omega
    rw [if_pos e, if_pos e1, if_pos (by omega)]; rfl
  · rw [if_neg e, if_neg (by omega)]
theorem play_p : (c.play m u).1.h.p = c.h.p ∧ (c.play m u).1.d.p = c.d.p := by
  have dr : ∀ (u : U) (e : Int), (c.d.receive c.sig u e).1.p = c.d.p := fun u e => by
    rcases DT.receive (d := c.d) (sig := c.sig) (u := u) e with r | r
    · exact r.1.p
    · exact r.1.p
  unfold Cn.play Cn.deliver
  repeat' split
  all_goals first
    | exact ⟨rfl, rfl⟩
    | exact ⟨(HS.write _ _).1.p, rfl⟩
    | exact ⟨rfl, (DS.write _ _).1.p⟩
    | exact ⟨HS.send.1.p, rfl⟩
    | exact ⟨(HS.receive _).1.p, rfl⟩
    | exact ⟨rfl, dr _ _⟩
    | exact ⟨tick_p _, rfl⟩
    | exact ⟨rfl, dtick_p _⟩
    | exact ⟨rfl, dack_p⟩
    | exact ⟨rfl, (Dn.reset _).1.p⟩
theorem play_cs (x : Wd) (m : Mv) : (x.play m).cs.length = x.cs.length := by
  unfold Wd.play; split
  · simp [Wd.next]
  · rfl
end TM
namespace TM
open Go ValveC
variable {h h' : H} {d d' : D} {sig : List Int} {u : U} {c : Cn} {m : Mv} {x : Wd}
def upd (sl : List Int) (m : Mv) (code : Int) : List Int :=
  if m.kind = 3 ∨ m.kind = 4 then (if code = 0 ∨ code = 70 then sl.set (2 * m.conn + m.side - 1).toNat 0 else sl)
  else if m.kind = 7 then sl.set (2 * m.conn + m.side - 1).toNat 0
  else if m.kind = 5 then (if code = 0 then sl.set (2 * m.conn + m.side - 1).toNat (min 1073741824 (sl.getD (2 * m.conn + m.side - 1).toNat 0 + m.n)) else sl)
  else sl
def Cnts (sl : List Int) : Prop := sl.length = 4 ∧ ∀ i, 0 ≤ sl.getD i 0 ∧ sl.getD i 0 ≤ 1073741824
theorem getD_set {sl : List Int} {i j : Nat} {a : Int} : (sl.set i a).getD j 0 = if i = j ∧ j < sl.length then a else sl.getD j 0 := by
  simp only [List.getD_eq_getElem?_getD, List.getElem?_set]
  by_cases e : i = j
  · by_cases h : j < sl.length
    · subst e; rw [if_pos rfl, if_pos h, if_pos ⟨rfl, h⟩]; rfl
    · subst e; rw [if_pos rfl, if_neg h, if_neg (fun z => h z.2), List.getElem?_eq_none (by omega)]
  · rw [if_neg e, if_neg (by omega)]
theorem Cnts.set {sl : List Int} (q : Cnts sl) (i : Nat) {a : Int} (h : 0 ≤ a ∧ a ≤ 1073741824) : Cnts (sl.set i a) := by
  refine ⟨by simpa using q.1, fun j => ?_⟩
  rw [getD_set]; split
  · exact h
  · exact q.2 j
theorem Cnts.upd {sl : List Int} (q : Cnts sl) (m : Mv) (code : Int) (hn : m.kind = 5 → 0 ≤ m.n) : Cnts (upd sl m code) := by
  unfold TM.upd
  split
  · split
    · exact q.set _ (by omega)
    · exact q
  split
  · exact q.set _ (by omega)
  split
  · split
    · exact q.set _ (by have := (q.2 (2 * m.conn + m.side - 1).toNat).1; have := hn (by assumption); omega)
    · exact q
  · exact q
theorem upd_cnt {sl : List Int} (q : Cnts sl) (m : Mv) (code : Int) (hk : 1 ≤ m.kind ∧ m.kind ≤ 8) (hs : m.kind ≠ 2 → m.kind ≠ 8 → m.side = 1 ∨ m.side = 2) (hc : 0 ≤ m.conn ∧ m.conn < 2) (k : Nat) (hk2 : k < 2) :
    (upd sl m code).getD (2 * k) 0 = (if (k : Int) = m.conn then cnt 1 m code (sl.getD (2 * k) 0) else sl.getD (2 * k) 0) ∧ (upd sl m code).getD (2 * k + 1) 0 = (if (k : Int) = m.conn then cnt 2 m code (sl.getD (2 * k + 1) 0) else sl.getD (2 * k + 1) 0) := by
  have hl := q.1
  obtain ⟨ix, hix⟩ : ∃ ix, (2 * m.conn + m.side - 1).toNat = ix := ⟨_, rfl⟩
  unfold upd cnt
  rw [hix]
  by_cases e3 : m.kind = 3 ∨ m.kind = 4
  · have hs' := hs (by omega) (by omega)
    simp only [if_pos e3]
    by_cases ec : code = 0 ∨ code = 70
    · simp only [if_pos ec, getD_set]
      constructor <;> (repeat' split) <;> omega
    · simp only [if_neg ec]
      constructor <;> (repeat' split) <;> omega
  by_cases e7 : m.kind = 7
  · have hs' := hs (by omega) (by omega)
    simp only [if_neg e3, if_pos e7, getD_set]
    constructor <;> (repeat' split) <;> omega
  by_cases e5 : m.kind = 5
  · have hs' := hs (by omega) (by omega)
    simp only [if_neg e3, if_neg e7, if_pos e5]
    by_cases ec : code = 0
    · simp only [if_pos ec, getD_set]
      constructor
      · split
        · rename_i g
          have e1 : m.side = 1 := by omega
          have e2 : (k : Int) = m.conn := by omega
          rw [if_pos e2, if_pos e1, show ix = 2 * k by omega]
        · (repeat' split) <;> omega
      · split
        · rename_i g
          have e1 : m.side = 2 := by omega
          have e2 : (k : Int) = m.conn := by omega
          rw [if_pos e2, if_pos e1, show ix = 2 * k + 1 by omega]
        · (repeat' split) <;> omega
    · simp only [if_neg ec]
      constructor <;> (repeat' split) <;> omega
  · simp only [if_neg e3, if_neg e7, if_neg e5]
    constructor <;> (repeat' split) <;> omega
structure Wi (sl : List Int) (x : Wd) : Prop where
  cs : x.cs.length = 2
  cn : Cnts sl
  wt : ∀ k, k < 2 → WtC (sl.getD (2 * k) 0) (sl.getD (2 * k + 1) 0) (x.cn k)
  lc : ∀ k, k < 2 → LC (x.cn k)
  w : ∀ k, k < 2 → (x.cn k).h.p.watch = 10 + (k : Int) ∧ (x.cn k).d.p.watch = 10 + (k : Int)
theorem Wi.play {sl : List Int} (q : Wi sl x) (e : x.fault m = 0) (f : x.moves < 4096 ∧ (1 ≤ m.kind ∧ m.kind ≤ 8) ∧ (0 ≤ m.conn ∧ m.conn < x.cs.length) ∧ (m.kind ≠ 2 → m.kind ≠ 8 → m.side = 1 ∨ m.side = 2)) (hn : m.kind = 5 → 0 ≤ m.n) :
    Wi (upd sl m (x.row m).code) (x.play m) := by
  obtain ⟨_, f2, f3, f4⟩ := f
  have hc := q.cs
  have hcn : ∀ k, (x.play m).cn k = if (k : Int) = m.conn then (x.step m).1 else x.cn k := fun k => by
    unfold Wd.play; rw [if_pos e]; exact cn_next x m f3 k
  refine ⟨by rw [play_cs]; exact hc, q.cn.upd m _ hn, fun k hk => ?_, fun k hk => ?_, fun k hk => ?_⟩
  · obtain ⟨u1, u2⟩ := upd_cnt q.cn m (x.row m).code f2 f4 (by omega) k hk
    rw [u1, u2, hcn]
    by_cases g : (k : Int) = m.conn
    · have e1 : m.conn.toNat = k := by omega
      rw [if_pos g, if_pos g, if_pos g]
      have := (q.wt k hk).play (u := x.bag.getD m.frame.toNat U.zero) f4 f2 hn
      rw [← e1] at this ⊢; exact this
    · rw [if_neg g, if_neg g, if_neg g]; exact q.wt k hk
  · rw [hcn]; split
    · rename_i g
      have e1 : m.conn.toNat = k := by omega
      show LC ((x.cn m.conn.toNat).play m _).1
      rw [e1]; exact (q.lc k hk).play
    · exact q.lc k hk
  · rw [hcn]; split
    · rename_i g
      have e1 : m.conn.toNat = k := by omega
      show ((x.cn m.conn.toNat).play m _).1.h.p.watch = _ ∧ ((x.cn m.conn.toNat).play m _).1.d.p.watch = _
      rw [e1, play_p.1, play_p.2]; exact q.w k hk
    · exact q.w k hk
theorem Wi.told {sl : List Int} (q : Wi sl x) (k : Nat) (hk : k < 2) : (10 + (k : Int) ≤ sl.getD (2 * k) 0 → (x.cn k).h.v.on = false ∧ (x.cn k).h.v.latched ≠ 0) ∧ (10 + (k : Int) ≤ sl.getD (2 * k + 1) 0 → (x.cn k).d.v.on = false ∧ (x.cn k).d.v.latched ≠ 0) := by
  obtain ⟨w1, w2⟩ := q.w k hk
  exact ⟨fun h => (q.wt k hk).h.told (q.lc k hk).h.vi (by rw [w1]; exact h), fun h => (q.wt k hk).d.told (q.lc k hk).d.vi (by rw [w2]; exact h)⟩
end TM
namespace TopC
open Go Go.RowKit Gf Hp Sl Ow Rw TM ParW WdC NetC EncW HostC DevC ValveC UEnc Fit
variable {X X' : Nat → Prop} {w w' : World} {b : Nat} {x : Wd} {k : Nat} {mv : Mv}
theorem net0_wi : Wi [0, 0, 0, 0] (net0 (pairs 2) 50) := by
  have hat : ∀ k, k < 2 → (net0 (pairs 2) 50).cn k = ⟨H.new ⟨7 + (k : Int), 2, 1, 10 + (k : Int), 9⟩, D.new ⟨7 + (k : Int), 2, 1, 10 + (k : Int), 9⟩ 50, sigB ⟨7 + (k : Int), 2, 1, 10 + (k : Int), 9⟩⟩ := fun k hk => net0_cn _ _ _ _ (pairs_at 2 k hk)
  have h0 : ∀ i : Nat, ([0, 0, 0, 0] : List Int).getD i 0 = 0 := fun i => by
    match i with
    | 0 | 1 | 2 | 3 => rfl
    | n + 4 => rfl
  refine ⟨rfl, ⟨rfl, fun i => by rw [h0]; decide⟩, fun k hk => ?_, fun k hk => ?_, fun k hk => ?_⟩
  · rw [hat k hk, h0, h0]
    exact ⟨Wt.zero (by show 1 ≤ 10 + (k : Int); omega), Wt.zero (by show 1 ≤ 10 + (k : Int); omega), by show 1 ≤ 10 + (k : Int) ∧ 10 + (k : Int) ≤ _; omega, by show 1 ≤ 10 + (k : Int) ∧ 10 + (k : Int) ≤ _; omega⟩
  · rw [hat k hk]; exact ⟨HL.new _, DL.fresh (s := 1) (by decide) _ rfl rfl⟩
  · rw [hat k hk]; exact ⟨rfl, rfl⟩
theorem NetIs.kept {W w w' : World} {v : Value} {ps : List P} (h : NetIs W w v ps) (k : Kept [] w w') : NetIs W w' v ps := by
  obtain ⟨g1, g2, v1, v2, e, ne, kw, h1, h2, l1, l2, ⟨c1, d1⟩, ⟨c2, d2⟩⟩ := h
  exact ⟨g1, g2, v1, v2, e, ne, kw.trans k, h1.kept k (by simp), h2.kept k (by simp), l1, l2, ⟨c1, k.has d1 (by simp)⟩, ⟨c2, k.has d2 (by simp)⟩⟩
def I4 (sl : List Int) : List Value := sl.map (Value.int .i64)
theorem I4_set (sl : List Int) (i : Nat) (z : Int) : (I4 sl).set i (.int .i64 z) = I4 (sl.set i z) := by simp [I4, List.map_set]
theorem i4_cell {w : World} {S : Nat} {sl : List Int} (h : Has w S 3 (I4 sl)) {i : Nat} (hi : i < sl.length) : w.cell? ⟨S, i, none⟩ = some (.int .i64 (sl.getD i 0)) := h.cell i (by simp [I4, List.getD_eq_getElem?_getD, hi])
theorem upd_del {sl : List Int} {m : Mv} {c : Int} (h : m.kind = 3 ∨ m.kind = 4) (hc : c = 0 ∨ c = 70) : upd sl m c = sl.set (2 * m.conn + m.side - 1).toNat 0 := by unfold upd; rw [if_pos h, if_pos hc]
theorem upd_del' {sl : List Int} {m : Mv} {c : Int} (h : m.kind = 3 ∨ m.kind = 4) (h0 : ¬ c = 0) (h1 : ¬ c = 70) : upd sl m c = sl := by unfold upd; rw [if_pos h, if_neg (by omega)]
theorem upd_reset {sl : List Int} {m : Mv} {c : Int} (h : m.kind = 7) : upd sl m c = sl.set (2 * m.conn + m.side - 1).toNat 0 := by unfold upd; rw [if_neg (by omega), if_pos h]
theorem upd_tick {sl : List Int} {m : Mv} {c : Int} (h : m.kind = 5) (hc : c = 0) : upd sl m c = sl.set (2 * m.conn + m.side - 1).toNat (min 1073741824 (sl.getD (2 * m.conn + m.side - 1).toNat 0 + m.n)) := by unfold upd; rw [if_neg (by omega), if_neg (by omega), if_pos h, if_pos hc]
theorem upd_tick' {sl : List Int} {m : Mv} {c : Int} (h : m.kind = 5) (hc : ¬ c = 0) : upd sl m c = sl := by unfold upd; rw [if_neg (by omega), if_neg (by omega), if_pos h, if_neg hc]
theorem upd_not {sl : List Int} {m : Mv} {c : Int} (h : ¬ (m.kind = 3 ∨ m.kind = 4)) (h7 : ¬ m.kind = 7) (h5 : ¬ m.kind = 5) : upd sl m c = sl := by unfold upd; rw [if_neg h, if_neg h7, if_neg h5]
theorem infoI : (Tryz.prog.info? 3).map (fun i => (i.zero, i.size, i.bytes)) = some (some (.int .i64 0), 1, 8) := by kernel_rfl
theorem run_make4 (W : World) : (Instr.makeSlice 33 (.int .i64 4) (.int .i64 4)).run Tryz.prog W = .ok (.slice (some ⟨W.heap.size, 0, none⟩) 4 4) (W.alloc (.cells (I4 [0, 0, 0, 0]).toArray 3)) := by
  obtain ⟨i0, hi, hz0, hz1, hz2⟩ := info_parts infoI
  have := run_make (P := Tryz.prog) W 33 3 i0 (.int .i64 0) Tryz.underlying33 hi hz0 .i64 .i64 4 4 (by decide) (by decide) (by rw [hz2]; decide) (by decide)
  rw [this, hz1, show (madeCells (Value.int .i64 0).cells (Int.toNat 4 * 1)) = (I4 [0, 0, 0, 0]).toArray from by kernel_rfl]; rfl
def IRel (W : World) (i : Value) (w : World) : Prop := ∃ j : Nat, j ≤ 2 ∧ i = .int .i64 (j : Nat) ∧ Kept [] W w
def WRel (W : World) (X : Nat → Prop) (b len SB : Nat) (i : Value) (w : World) : Prop :=
  ∃ (k : Nat) (x : Wd) (sl : List Int), k ≤ len ∧ k ≤ 300 ∧ i = .int .i64 k ∧ Kept [] W w ∧ LW X w b x ∧ x.moves ≤ k ∧ Wi sl x ∧ Has w SB 3 (I4 sl)
set_option maxRecDepth 100000 in
set_option maxHeartbeats 6400000 in
theorem TopWatch_walk (xp : Option Addr) (len cap : Nat) (w : World) (hm : len ≤ maxLen) (hp : len = 0 ∨ ∃ b off, xp = some ⟨b, off, none⟩ ∧ ∀ i, i < len → ∃ mv dp dc, MvAt w b off i mv dp dc) :
    Calls Tryz.prog 3 #[.slice xp len cap] w fun e w' => e = .returned (.bool true) ∧ Below w.heap.size w w' := by
  unfold maxLen at hm
  have P' := hid hp
  clear hp
  go_enter Tryz.func3, Tryz.ntmps3
  go_wp2_with fail
  refine (net1 _).mono ?_
  rintro e w1 ⟨v, rfl, hv⟩
  obtain ⟨g1, g2, v1, v2, rfl, _, kw, pr1, pr2, _⟩ := id hv
  obtain ⟨c1, rfl, hc1, _⟩ := id pr1
  obtain ⟨c2, rfl, hc2, _⟩ := id pr2
  have hl2 : (pairs 2).length = 2 := rfl
  rw [hl2] at hc1 hc2 hv ⊢
  go_upto_region 2 with (fail)
  have ka := (Kept.refl [] w1).alloc (.cells #[.slice (some ⟨g1, 0, none⟩) 2 c1, .slice (some ⟨g2, 0, none⟩) 2 c2, .int .u32 50] 26)
  have NV := hid (NetIs.kept hv ka)
  have P1 := hid (pr1.kept ka (by simp))
  have P2 := hid (pr2.kept ka (by simp))
  have NB := hid (Has.new w1 26 [.slice (some ⟨g1, 0, none⟩) 2 c1, .slice (some ⟨g2, 0, none⟩) 2 c2, .int .u32 50])
  have KA := hid (kw.trans ka)
  generalize w1.alloc (.cells #[.slice (some ⟨g1, 0, none⟩) 2 c1, .slice (some ⟨g2, 0, none⟩) 2 c2, .int .u32 50] 26) = wa at ka NV P1 P2 NB KA ⊢
  generalize w1.heap.size = N at NB ⊢
  clear ka hv kw pr1 pr2 hl2
  have n0 := NB.out.cell 0 rfl
  have n1 := NB.out.cell 1 rfl
  have n2 := NB.out.cell 2 rfl
  have NW := hid (new_world _ (pairs 2) w NV.out (pairs_good 2 (by decide)) (by decide) (by decide))
  go_wp2_with fail
  refine NW.out.mono ?_
  rintro e w2 ⟨b, rfl, k2, lw⟩
  have K2 := hid k2
  have L2 := hid lw
  clear k2 lw NW NV n0 n1 n2
  go_wp2_with fail
  refine (awake_call _).mono ?_
  rintro e w3 ⟨rfl, k3⟩
  have J3 := hid (K2.out.trans k3)
  have L3 := hid (L2.out.nil k3)
  clear k3 L2 K2
  have mk := run_make4 w3
  go_upto_block 0 with (fail)
  clear mk
  have S3 := hid (Has.new w3 3 (I4 [0, 0, 0, 0]))
  have k4 := (Kept.refl [] w3).alloc (.cells (I4 [0, 0, 0, 0]).toArray 3)
  have J4 := hid (J3.out.trans k4)
  obtain ⟨SB, hSB⟩ : ∃ SB, SB = w3.heap.size := ⟨_, rfl⟩
  have L4 := hid (L3.out.step (X' := fun i => i < wa.heap.size ∨ i = SB) k4 (by simp) (fun i hi => by
    have a1 := S3.out.lt
    rcases hi with hi | rfl
    · exact .inl hi
    · refine .inr ⟨?_, ?_⟩ <;> omega))
  rw [← hSB] at S3 ⊢
  have RS := hid (show wa.heap.size ≤ SB by have := J3.out.size; omega)
  generalize w3.alloc (.cells (I4 [0, 0, 0, 0]).toArray 3) = w4 at S3 k4 J4 L4 ⊢
  clear k4 hSB J3 L3
  go_wp2_with fail
  go_loopw [7] (WRel wa (fun i => i < wa.heap.size ∨ i = SB) b len SB) (fun i _ => len - (intOf i).toNat)
  case atStart => exact ⟨0, _, [0, 0, 0, 0], Nat.zero_le _, by omega, rfl, J4.out, L4.out, by decide, net0_wi, S3.out⟩
  case round =>
    clear J4 L4 S3
    obtain ⟨k, x, sl, hk, hk5, rfl, kr, lr, hmv, hwi, hsb⟩ := hrel
    rename_i wr
    have JR := hid kr
    have KR := hid (KA.out.trans kr)
    have LR := hid lr
    have MC := hid (And.intro hmv hwi)
    have SR := hid hsb
    clear kr lr hmv hwi hsb
    by_cases hlt : k < len ∧ k < 300
    · obtain ⟨hlt, hlt5⟩ := hlt
      obtain ⟨bs, off, rfl, hel⟩ := P'.out.resolve_left (by omega)
      obtain ⟨mv, dp, dc, hop⟩ := hel k hlt
      clear hel
      have q0 : wr.cell? ⟨bs, off + k * 9, none⟩ = some (.int .i64 mv.kind) := hop.cell KR.out 0 (by decide)
      have q1 : wr.cell? ⟨bs, off + k * 9 + 1, none⟩ = some (.int .i64 mv.conn) := hop.cell KR.out 1 (by decide)
      have q2 : wr.cell? ⟨bs, off + k * 9 + 2, none⟩ = some (.int .i64 mv.side) := hop.cell KR.out 2 (by decide)
      have q3 : wr.cell? ⟨bs, off + k * 9 + 3, none⟩ = some (.int .i64 mv.frame) := hop.cell KR.out 3 (by decide)
      have q4 : wr.cell? ⟨bs, off + k * 9 + 4, none⟩ = some (.int .i64 mv.at') := hop.cell KR.out 4 (by decide)
      have q5 : wr.cell? ⟨bs, off + k * 9 + 5, none⟩ = some (.int .u32 mv.word) := hop.cell KR.out 5 (by decide)
      have q6 : wr.cell? ⟨bs, off + k * 9 + 6, none⟩ = some (.int .i64 mv.n) := hop.cell KR.out 6 (by decide)
      have q7 : wr.cell? ⟨bs, off + k * 9 + 7, none⟩ = some (.bool mv.hold) := hop.cell KR.out 7 (by decide)
      have q8 : wr.cell? ⟨bs, off + k * 9 + 8, none⟩ = some (.slice dp mv.data.length dc) := hop.cell KR.out 8 (by decide)
      have hbw : bs < wr.heap.size := by have := hop.block; have := KR.out.size; omega
      have CC := hid (copied_call dp dc (hop.bytes.kept KR.out (by simp)) hop.ok.len)
      have OK := hid hop.ok
      clear hop
      go_wp2_with fail
      refine CC.out.mono ?_
      rintro e w2' ⟨ep, ec, rfl, k2, hmd⟩
      unfold mvV
      clear CC q0 q1 q2 q3 q4 q5 q6 q7 q8
      go_upto_region 10 with (fail)
      have kb := k2.alloc (.cells #[.int .i64 mv.kind, .int .i64 mv.conn, .int .i64 mv.side, .int .i64 mv.frame, .int .i64 mv.at', .int .u32 mv.word, .int .i64 mv.n, .bool mv.hold, .slice ep mv.data.length ec] 38)
      have M5 := hid (Has.new w2' 38 [.int .i64 mv.kind, .int .i64 mv.conn, .int .i64 mv.side, .int .i64 mv.frame, .int .i64 mv.at', .int .u32 mv.word, .int .i64 mv.n, .bool mv.hold, .slice ep mv.data.length ec])
      have B5 := hid (hmd.bytes.kept ((Kept.refl [] w2').alloc (.cells #[.int .i64 mv.kind, .int .i64 mv.conn, .int .i64 mv.side, .int .i64 mv.frame, .int .i64 mv.at', .int .u32 mv.word, .int .i64 mv.n, .bool mv.hold, .slice ep mv.data.length ec] 38)) (by simp))
      obtain ⟨R8, hR8⟩ : ∃ R, R = w2'.heap.size := ⟨_, rfl⟩
      rw [← hR8] at M5 ⊢
      have L5 := hid (LR.out.step (X' := fun i => (i < wa.heap.size ∨ i = SB) ∨ i = R8 ∨ ∃ off, ep = some ⟨i, off, none⟩) kb (by simp) (fun i hi => by
        have a1 := M5.out.lt; have a2 := k2.size
        rcases hi with hi | rfl | ⟨off, rfl⟩
        · exact .inl hi
        · refine .inr ⟨?_, ?_⟩ <;> omega
        · refine .inr ⟨hmd.2 i rfl, ?_⟩
          rcases hmd.1 with ⟨e, _⟩ | ⟨g, ho⟩
          · cases e
          · obtain ⟨cap, cur, e, hh, _⟩ := id ho
            cases e; have := hh.lt; simp; omega))
      have VV := hid (show ∀ b' off n c, Value.slice ep mv.data.length ec = .slice (some ⟨b', off, none⟩) n c → b' < (w2'.alloc (.cells #[.int .i64 mv.kind, .int .i64 mv.conn, .int .i64 mv.side, .int .i64 mv.frame, .int .i64 mv.at', .int .u32 mv.word, .int .i64 mv.n, .bool mv.hold, .slice ep mv.data.length ec] 38)).heap.size ∧ ((b' < wa.heap.size ∨ b' = SB) ∨ b' = R8 ∨ ∃ off, ep = some ⟨b', off, none⟩) from fun b' off n c e => by
        cases e
        rcases hmd.1 with ⟨e, _⟩ | ⟨g, ho⟩
        · cases e
        · obtain ⟨cap, cur, e, hh, _⟩ := id ho
          cases e; have := hh.lt; exact ⟨by simp; omega, .inr (.inr ⟨_, rfl⟩)⟩)
      have J5 := hid (JR.out.trans kb)
      have S5 := hid (kb.has SR.out (by simp))
      generalize w2'.alloc (.cells #[.int .i64 mv.kind, .int .i64 mv.conn, .int .i64 mv.side, .int .i64 mv.frame, .int .i64 mv.at', .int .u32 mv.word, .int .i64 mv.n, .bool mv.hold, .slice ep mv.data.length ec] 38) = w5 at kb M5 B5 L5 VV J5 S5 ⊢
      clear kb k2 hmd hR8 JR KR LR SR
      have PP := hid (LW.play L5.out OK.out B5.out VV.out)
      unfold mvV at PP
      have m0 := M5.out.cell 0 rfl
      have m1 := M5.out.cell 1 rfl
      have m2 := M5.out.cell 2 rfl
      have m3 := M5.out.cell 3 rfl
      have m4 := M5.out.cell 4 rfl
      have m5 := M5.out.cell 5 rfl
      have m6 := M5.out.cell 6 rfl
      have m7 := M5.out.cell 7 rfl
      have m8 := M5.out.cell 8 rfl
      go_wp2_with fail
      refine PP.out.mono ?_
      rintro e wp ⟨mp, ml, mc, code, sent, hh, s1, l1, c3, dd, s2, l2, c4, mv', rfl, sp, lw, hr⟩
      have QP := hid (sp.nil J5.out (fun i hi => .inl (.inl hi)))
      have MP := hid (sp.has M5.out (.inr (.inl rfl)))
      have SP := hid (sp.has S5.out (.inl (.inr rfl)))
      have LP := hid lw
      have HR := hid hr
      clear hr sp lw PP m0 m1 m2 m3 m4 m5 m6 m7 m8 L5 M5 B5 VV J5 S5
      rw [rowV_L]
      unfold rowL
      iterate 14 (first | go_values | go_skip | go_guarded | go_step | go_upon | go_back | (simp only [Int.not_lt, Int.not_le] at *; go_simp) | (go_values <;> (try go_simp)))
      refine wpList_put (o := 0) (Has.new wp 44 [.int .i64 0, .int .i64 0, .int .i64 0, .int .i64 0, .int .i64 0, .int .u32 0, .int .i64 0, .bool false, .slice none 0 0, .int .i64 0, .int .i64 0, .int .i64 0, .int .u32 0, .int .u32 0, .int .u32 0, .int .i64 0, .int .i64 0, .bool false, .bool false, .slice none 0 0, .int .i64 0, .int .u32 0, .int .u32 0, .int .u32 0, .int .i64 0, .int .i64 0, .bool false, .bool false, .slice none 0 0]) [.int .i64 mv'.kind, .int .i64 mv'.conn, .int .i64 mv'.side, .int .i64 mv'.frame, .int .i64 mv'.at', .int .u32 mv'.word, .int .i64 mv'.n, .bool mv'.hold, .slice mp ml mc, .int .i64 code, .int .i64 sent, .int .i64 hh.state, .int .u32 hh.ses, .int .u32 hh.num, .int .u32 hh.sent, .int .i64 hh.since, .int .i64 hh.latched, .bool hh.request, .bool hh.on, .slice s1 l1 c3, .int .i64 dd.state, .int .u32 dd.ses, .int .u32 dd.num, .int .u32 dd.sent, .int .i64 dd.since, .int .i64 dd.latched, .bool dd.request, .bool dd.on, .slice s2 l2 c4] 44 (.tmp 9) (.tmp 47) rfl rfl rfl rfl (Nat.le_refl 29) infoR rfl ?_
      obtain ⟨ew, qw⟩ := puts_all [.int .i64 mv'.kind, .int .i64 mv'.conn, .int .i64 mv'.side, .int .i64 mv'.frame, .int .i64 mv'.at', .int .u32 mv'.word, .int .i64 mv'.n, .bool mv'.hold, .slice mp ml mc, .int .i64 code, .int .i64 sent, .int .i64 hh.state, .int .u32 hh.ses, .int .u32 hh.num, .int .u32 hh.sent, .int .i64 hh.since, .int .i64 hh.latched, .bool hh.request, .bool hh.on, .slice s1 l1 c3, .int .i64 dd.state, .int .u32 dd.ses, .int .u32 dd.num, .int .u32 dd.sent, .int .i64 dd.since, .int .i64 dd.latched, .bool dd.request, .bool dd.on, .slice s2 l2 c4] (Has.new wp 44 [.int .i64 0, .int .i64 0, .int .i64 0, .int .i64 0, .int .i64 0, .int .u32 0, .int .i64 0, .bool false, .slice none 0 0, .int .i64 0, .int .i64 0, .int .i64 0, .int .u32 0, .int .u32 0, .int .u32 0, .int .i64 0, .int .i64 0, .bool false, .bool false, .slice none 0 0, .int .i64 0, .int .u32 0, .int .u32 0, .int .u32 0, .int .i64 0, .int .i64 0, .bool false, .bool false, .slice none 0 0]) rfl
      have QW := hid (((Kept.refl [] wp).alloc (.cells #[.int .i64 0, .int .i64 0, .int .i64 0, .int .i64 0, .int .i64 0, .int .u32 0, .int .i64 0, .bool false, .slice none 0 0, .int .i64 0, .int .i64 0, .int .i64 0, .int .u32 0, .int .u32 0, .int .u32 0, .int .i64 0, .int .i64 0, .bool false, .bool false, .slice none 0 0, .int .i64 0, .int .u32 0, .int .u32 0, .int .u32 0, .int .i64 0, .int .i64 0, .bool false, .bool false, .slice none 0 0] 44)).fresh qw (by intro i hi hl; simp at hi; omega))
      have EW := hid ew
      clear ew qw
      generalize (wp.alloc (.cells #[.int .i64 0, .int .i64 0, .int .i64 0, .int .i64 0, .int .i64 0, .int .u32 0, .int .i64 0, .bool false, .slice none 0 0, .int .i64 0, .int .i64 0, .int .i64 0, .int .u32 0, .int .u32 0, .int .u32 0, .int .i64 0, .int .i64 0, .bool false, .bool false, .slice none 0 0, .int .i64 0, .int .u32 0, .int .u32 0, .int .u32 0, .int .i64 0, .int .i64 0, .bool false, .bool false, .slice none 0 0] 44)).setCells wp.heap.size 0 [.int .i64 mv'.kind, .int .i64 mv'.conn, .int .i64 mv'.side, .int .i64 mv'.frame, .int .i64 mv'.at', .int .u32 mv'.word, .int .i64 mv'.n, .bool mv'.hold, .slice mp ml mc, .int .i64 code, .int .i64 sent, .int .i64 hh.state, .int .u32 hh.ses, .int .u32 hh.num, .int .u32 hh.sent, .int .i64 hh.since, .int .i64 hh.latched, .bool hh.request, .bool hh.on, .slice s1 l1 c3, .int .i64 dd.state, .int .u32 dd.ses, .int .u32 dd.num, .int .u32 dd.sent, .int .i64 dd.since, .int .i64 dd.latched, .bool dd.request, .bool dd.on, .slice s2 l2 c4] = wz at QW EW ⊢
      generalize wp.heap.size = RA at EW ⊢
      have QZ := hid (QP.out.trans QW.out)
      have MZ := hid (QW.out.has MP.out (by simp))
      have SZ := hid (QW.out.has SP.out (by simp))
      have LZ := hid ((LP.out.nil QW.out).weak (X' := fun i => i < wa.heap.size ∨ i = SB) (fun i hi => .inl hi))
      clear MP SP LP QP
      by_cases hf : x.fault mv = 0
      · have FO := hid (fault_ok hf)
        obtain ⟨⟨_, _, hc, _⟩, _⟩ := HR.out hf
        have HC := hid hc
        have FE := hid hf
        rw [hf]
        clear hc hf HR
        have v0 := MZ.out.cell 0 rfl
        have v1 := MZ.out.cell 1 rfl
        have v2 := MZ.out.cell 2 rfl
        go_upto_block 2 with (fail)
        obtain ⟨z, hz⟩ : ∃ z, wrap64 (wrap64 (wrap64 (2 * mv.conn) + mv.side) - 1) = z := ⟨_, rfl⟩
        rw [hz]
        have AI := hid (show mv.kind ≠ 2 ∧ mv.kind ≠ 8 → ∃ ix : Nat, (2 * mv.conn + mv.side - 1).toNat = ix ∧ z = (ix : Int) ∧ ix < 4 from fun g => by
          obtain ⟨_, f2, f3, f4, _⟩ := FO.out
          have := MC.out.2.cs
          have := f4 g.1 g.2
          refine ⟨_, rfl, ?_, by omega⟩
          rw [← hz]; unfold wrap64; omega)
        clear hz v0 v1 v2
        have v0 := MZ.out.cell 0 rfl
        go_cut [] (fun wx => Has wx SB 3 (I4 (upd sl mv code)) ∧ Kept [SB] wz wx)
        case first =>
          have c9 := EW.out.cell 9 rfl
          by_cases hk : mv.kind = 3
          · have k3 : (mv.kind == 3) = true := by simp [hk]
            have HK := hid hk
            clear hk
            obtain ⟨ix, hix, hz, hlt4⟩ := AI.out (by have := HK.out; omega)
            by_cases hc0 : code = 0
            · have kc : (code == 0) = true := by simp [hc0]
              have HC0 := hid hc0
              clear hc0
              have hz0 : 0 ≤ z := by omega
              have hz4 : z < 4 := by omega
              have hzt : z.toNat = ix := by omega
              clear hz
              have ff := SZ.out.free ix
              have gg := i4_cell SZ.out (by rw [MC.out.2.cn.1]; exact hlt4)
              go_wp2_with fail
              go_meet
              exact ⟨by rw [upd_del (by have := HK.out; omega) (.inl HC0.out), hix]; have := SZ.out.set ix (.int .i64 0); rwa [I4_set] at this, (Kept.refl [SB] wz).set ⟨SB, ix, none⟩ _ (by simp)⟩
            · have kc : (code == 0) = false := by simp [hc0]
              by_cases hc70 : code = 70
              · have kd : (code == 70) = true := by simp [hc70]
                have HC7 := hid hc70
                clear hc70
                have hz0 : 0 ≤ z := by omega
                have hz4 : z < 4 := by omega
                have hzt : z.toNat = ix := by omega
                clear hz
                have ff := SZ.out.free ix
                have gg := i4_cell SZ.out (by rw [MC.out.2.cn.1]; exact hlt4)
                go_wp2_with fail
                go_meet
                exact ⟨by rw [upd_del (by have := HK.out; omega) (.inr HC7.out), hix]; have := SZ.out.set ix (.int .i64 0); rwa [I4_set] at this, (Kept.refl [SB] wz).set ⟨SB, ix, none⟩ _ (by simp)⟩
              · have kd : (code == 70) = false := by simp [hc70]
                go_wp2_with fail
                go_meet
                exact ⟨by rw [upd_del' (by have := HK.out; omega) hc0 hc70]; exact SZ.out, Kept.refl _ _⟩
          have h3 := hk
          clear hk
          by_cases hk : mv.kind = 4
          · have k3 : (mv.kind == 3) = false := by simp; omega
            have k4 : (mv.kind == 4) = true := by simp [hk]
            have HK := hid hk
            clear hk
            obtain ⟨ix, hix, hz, hlt4⟩ := AI.out (by have := HK.out; omega)
            by_cases hc0 : code = 0
            · have kc : (code == 0) = true := by simp [hc0]
              have HC0 := hid hc0
              clear hc0
              have hz0 : 0 ≤ z := by omega
              have hz4 : z < 4 := by omega
              have hzt : z.toNat = ix := by omega
              clear hz
              have ff := SZ.out.free ix
              have gg := i4_cell SZ.out (by rw [MC.out.2.cn.1]; exact hlt4)
              go_wp2_with fail
              go_meet
              exact ⟨by rw [upd_del (by have := HK.out; omega) (.inl HC0.out), hix]; have := SZ.out.set ix (.int .i64 0); rwa [I4_set] at this, (Kept.refl [SB] wz).set ⟨SB, ix, none⟩ _ (by simp)⟩
            · have kc : (code == 0) = false := by simp [hc0]
              by_cases hc70 : code = 70
              · have kd : (code == 70) = true := by simp [hc70]
                have HC7 := hid hc70
                clear hc70
                have hz0 : 0 ≤ z := by omega
                have hz4 : z < 4 := by omega
                have hzt : z.toNat = ix := by omega
                clear hz
                have ff := SZ.out.free ix
                have gg := i4_cell SZ.out (by rw [MC.out.2.cn.1]; exact hlt4)
                go_wp2_with fail
                go_meet
                exact ⟨by rw [upd_del (by have := HK.out; omega) (.inr HC7.out), hix]; have := SZ.out.set ix (.int .i64 0); rwa [I4_set] at this, (Kept.refl [SB] wz).set ⟨SB, ix, none⟩ _ (by simp)⟩
              · have kd : (code == 70) = false := by simp [hc70]
                go_wp2_with fail
                go_meet
                exact ⟨by rw [upd_del' (by have := HK.out; omega) hc0 hc70]; exact SZ.out, Kept.refl _ _⟩
          have h4 := hk
          clear hk
          by_cases hk : mv.kind = 7
          · have k3 : (mv.kind == 3) = false := by simp; omega
            have k4 : (mv.kind == 4) = false := by simp; omega
            have k7 : (mv.kind == 7) = true := by simp [hk]
            have HK := hid hk
            clear hk
            obtain ⟨ix, hix, hz, hlt4⟩ := AI.out (by have := HK.out; omega)
            have hz0 : 0 ≤ z := by omega
            have hz4 : z < 4 := by omega
            have hzt : z.toNat = ix := by omega
            clear hz
            have ff := SZ.out.free ix
            have gg := i4_cell SZ.out (by rw [MC.out.2.cn.1]; exact hlt4)
            go_wp2_with fail
            go_meet
            exact ⟨by rw [upd_reset HK.out, hix]; have := SZ.out.set ix (.int .i64 0); rwa [I4_set] at this, (Kept.refl [SB] wz).set ⟨SB, ix, none⟩ _ (by simp)⟩
          have h7 := hk
          clear hk
          by_cases hk : mv.kind = 5
          · have k3 : (mv.kind == 3) = false := by simp; omega
            have k4 : (mv.kind == 4) = false := by simp; omega
            have k7 : (mv.kind == 7) = false := by simp; omega
            have k5 : (mv.kind == 5) = true := by simp [hk]
            have HK := hid hk
            clear hk
            obtain ⟨ix, hix, hz, hlt4⟩ := AI.out (by have := HK.out; omega)
            by_cases hc0 : code = 0
            · have kc : (code == 0) = true := by simp [hc0]
              have HC0 := hid hc0
              clear hc0
              have hz0 : 0 ≤ z := by omega
              have hz4 : z < 4 := by omega
              have hzt : z.toNat = ix := by omega
              clear hz
              have ff := SZ.out.free ix
              have gg := i4_cell SZ.out (by rw [MC.out.2.cn.1]; exact hlt4)
              have w6 := MZ.out.cell 6 rfl
              have sb := MC.out.2.cn.2 ix
              have nb := FO.out.2.2.2.2.2.1 HK.out
              generalize hss : sl.getD ix 0 = ss at *
              have ew : wrap64 (ss + mv.n) = ss + mv.n := by unfold wrap64; omega
              have HSS := hid hss
              clear hss
              go_upto_region 22 with (fail)
              refine wp_region_still_tail 11 (by kernel_rfl) (by kernel_rfl) ?_
              simp only [List.take_succ_cons, List.take_zero, List.drop_succ_cons, List.drop_zero]
              repeat still_step
              refine wpStill_nil ?_
              change wpList _ _ _ _ _ wz.drew
              have gg' : wz.drew.cell? ⟨SB, ix, none⟩ = some (.int .i64 ss) := gg
              have ff' : wz.drew.frozen? ⟨SB, ix, none⟩ = false := ff
              go_wp2_with fail
              all_goals go_meet
              all_goals refine ⟨?_, (((Kept.refl [SB] wz).set ⟨SB, ix, none⟩ _ (by simp)).drew)⟩
              all_goals (
                rw [upd_tick HK.out HC0.out, hix, HSS.out]
                have h9 := fun v => (SZ.out.set ix (.int .i64 v)).drew
                first
                  | (rw [show min 1073741824 (ss + mv.n) = 1073741824 by omega]; have h8 := h9 1073741824; rwa [I4_set] at h8)
                  | (rw [show min 1073741824 (ss + mv.n) = ss + mv.n by omega]; have h8 := h9 (ss + mv.n); rwa [I4_set] at h8))
            · have kc : (code == 0) = false := by simp [hc0]
              go_wp2_with fail
              go_meet
              exact ⟨by rw [upd_tick' HK.out hc0]; exact SZ.out, Kept.refl _ _⟩
          have k3 : (mv.kind == 3) = false := by simp; omega
          have k4 : (mv.kind == 4) = false := by simp; omega
          have k7 : (mv.kind == 7) = false := by simp; omega
          have k5 : (mv.kind == 5) = false := by simp; omega
          have HK := hid hk
          clear hk
          go_wp2_with fail
          go_meet
          exact ⟨by rw [upd_not (by omega) h7 HK.out]; exact SZ.out, Kept.refl _ _⟩
        obtain ⟨sc, kc⟩ := hcut
        have NX := hid (show Wi (upd sl mv code) (x.play mv) from by rw [HC.out]; exact MC.out.2.play FE.out ⟨FO.out.1, FO.out.2.1, FO.out.2.2.1, FO.out.2.2.2.1⟩ (fun e => (FO.out.2.2.2.2.2.1 e).1))
        have JC := hid (QZ.out.fresh kc (by intro i hi hl; simp at hi; have := RS.out; omega))
        have LC' := hid (LZ.out.step (X' := fun i => i < wa.heap.size ∨ i = SB) kc (by intro i hi _; simp at hi; exact .inr hi) (fun i hi => .inl hi))
        have SC := hid sc
        have ML := hid (play_len x mv)
        have NC := hid (JC.out.has NB.out (by simp))
        have PC1 := hid (P1.out.kept JC.out (by simp))
        have PC2 := hid (P2.out.kept JC.out (by simp))
        have MM := hid (show (x.play mv).moves ≤ (k + 1 : Nat) from by have := ML.out.2; have := MC.out.1; omega)
        clear sc kc QZ LZ SZ MZ EW QW AI FO FE HC v0 MC ML OK
        generalize upd sl mv code = sl' at SC NX
        generalize x.play mv = x' at LC' NX MM
        go_wp2_with fail
        go_loopw [12] (IRel wc) (fun i _ => 2 - (intOf i).toNat)
        case atStart => exact ⟨0, by omega, rfl, Kept.refl _ _⟩
        case round =>
          obtain ⟨j, hj, rfl, kj⟩ := hrel
          rename_i wi
          have KJ := hid kj
          clear kj
          rcases Nat.lt_or_ge j 2 with hj2 | hj2
          · have EN := hid ((LC'.out.nil KJ.out).ends (k := j) (by rw [NX.out.cs]; exact hj2))
            have TL := hid (NX.out.told j hj2)
            go_wp2_with fail
            refine EN.out.mono ?_
            rintro e wb ⟨k1, e1, k2, e2, rfl, kk, _, _, _, _⟩
            have KB := hid (KJ.out.trans kk)
            clear kk EN KJ
            have TH := hid (show (10 + (j : Int) ≤ sl'.getD (2 * j) 0 → (x'.cn j).h.see.on = false ∧ (x'.cn j).h.see.latched ≠ 0) ∧ (10 + (j : Int) ≤ sl'.getD (2 * j + 1) 0 → (x'.cn j).d.see.on = false ∧ (x'.cn j).d.see.latched ≠ 0) from TL.out)
            generalize (x'.cn j).h.see = h7 at TH ⊢
            generalize (x'.cn j).d.see = d7 at TH ⊢
            generalize (x'.cn j).h.v.out = y1
            generalize (x'.cn j).d.v.out = y2
            clear TL
            unfold eval'
            go_upto_region 27 with (fail)
            have K8 := hid (((Kept.refl [] wb).alloc (.cells #[.int .i64 h7.state, .int .u32 h7.ses, .int .u32 h7.num, .int .u32 h7.sent, .int .i64 h7.since, .int .i64 h7.latched, .bool h7.request, .bool h7.on, .slice (some ⟨k1, 0, none⟩) y1.length e1] 42)).alloc (.cells #[.int .i64 d7.state, .int .u32 d7.ses, .int .u32 d7.num, .int .u32 d7.sent, .int .i64 d7.since, .int .i64 d7.latched, .bool d7.request, .bool d7.on, .slice (some ⟨k2, 0, none⟩) y2.length e2] 42))
            have H8 := hid ((Has.new wb 42 [.int .i64 h7.state, .int .u32 h7.ses, .int .u32 h7.num, .int .u32 h7.sent, .int .i64 h7.since, .int .i64 h7.latched, .bool h7.request, .bool h7.on, .slice (some ⟨k1, 0, none⟩) y1.length e1]).alloc (.cells #[.int .i64 d7.state, .int .u32 d7.ses, .int .u32 d7.num, .int .u32 d7.sent, .int .i64 d7.since, .int .i64 d7.latched, .bool d7.request, .bool d7.on, .slice (some ⟨k2, 0, none⟩) y2.length e2] 42))
            have D8 := hid (Has.new (wb.alloc (.cells #[.int .i64 h7.state, .int .u32 h7.ses, .int .u32 h7.num, .int .u32 h7.sent, .int .i64 h7.since, .int .i64 h7.latched, .bool h7.request, .bool h7.on, .slice (some ⟨k1, 0, none⟩) y1.length e1] 42)) 42 [.int .i64 d7.state, .int .u32 d7.ses, .int .u32 d7.num, .int .u32 d7.sent, .int .i64 d7.since, .int .i64 d7.latched, .bool d7.request, .bool d7.on, .slice (some ⟨k2, 0, none⟩) y2.length e2])
            rw [show (wb.alloc (.cells #[.int .i64 h7.state, .int .u32 h7.ses, .int .u32 h7.num, .int .u32 h7.sent, .int .i64 h7.since, .int .i64 h7.latched, .bool h7.request, .bool h7.on, .slice (some ⟨k1, 0, none⟩) y1.length e1] 42)).heap.size = wb.heap.size + 1 by simp] at D8
            generalize (wb.alloc (.cells #[.int .i64 h7.state, .int .u32 h7.ses, .int .u32 h7.num, .int .u32 h7.sent, .int .i64 h7.since, .int .i64 h7.latched, .bool h7.request, .bool h7.on, .slice (some ⟨k1, 0, none⟩) y1.length e1] 42)).alloc (.cells #[.int .i64 d7.state, .int .u32 d7.ses, .int .u32 d7.num, .int .u32 d7.sent, .int .i64 d7.since, .int .i64 d7.latched, .bool d7.request, .bool d7.on, .slice (some ⟨k2, 0, none⟩) y2.length e2] 42) = w8 at K8 H8 D8 ⊢
            generalize wb.heap.size = RH at H8 D8 ⊢
            have K9 := hid (KB.out.trans K8.out)
            obtain ⟨pc1, pe1, _, _, pw1⟩ := PC1.out
            obtain ⟨pc2, pe2, _, _, pw2⟩ := PC2.out
            have lsl := NX.out.cn.1
            have FC := hid (show ∀ w', Kept [] w8 w' → (w'.cell? ⟨SB, 2 * j, none⟩ = some (.int .i64 (sl'.getD (2 * j) 0)) ∧ w'.cell? ⟨SB, 2 * j + 1, none⟩ = some (.int .i64 (sl'.getD (2 * j + 1) 0)) ∧ w'.cell? ⟨N, 0, none⟩ = some (.slice (some ⟨g1, 0, none⟩) 2 c1) ∧ w'.cell? ⟨N, 1, none⟩ = some (.slice (some ⟨g2, 0, none⟩) 2 c2) ∧ w'.cell? ⟨g1, j * 5 + 3, none⟩ = some (.int .i64 (10 + (j : Int))) ∧ w'.cell? ⟨g2, j * 5 + 3, none⟩ = some (.int .i64 (10 + (j : Int))) ∧ w'.cell? ⟨RH, 5, none⟩ = some (.int .i64 h7.latched) ∧ w'.cell? ⟨RH, 7, none⟩ = some (.bool h7.on) ∧ w'.cell? ⟨RH + 1, 0, none⟩ = some (.int .i64 d7.state) ∧ w'.cell? ⟨RH + 1, 5, none⟩ = some (.int .i64 d7.latched) ∧ w'.cell? ⟨RH + 1, 7, none⟩ = some (.bool d7.on)) from fun w' q => by
              have z := K9.out.trans q
              have s' := z.has SC.out (by simp)
              have p1' := (PC1.out.kept z (by simp))
              have p2' := (PC2.out.kept z (by simp))
              obtain ⟨_, _, _, _, p1'⟩ := p1'
              obtain ⟨_, _, _, _, p2'⟩ := p2'
              exact ⟨i4_cell s' (by omega), i4_cell s' (by omega), (z.has NC.out (by simp)).cell 0 rfl, (z.has NC.out (by simp)).cell 1 rfl, (p1' j _ (pairs_at 2 j hj2)).2.2.2.1, (p2' j _ (pairs_at 2 j hj2)).2.2.2.1, (q.has H8.out (by simp)).cell 5 rfl, (q.has H8.out (by simp)).cell 7 rfl, (q.has D8.out (by simp)).cell 0 rfl, (q.has D8.out (by simp)).cell 5 rfl, (q.has D8.out (by simp)).cell 7 rfl⟩)
            clear pw1 pw2 pe1 pe2 lsl K8 H8 D8 KB
            generalize sl'.getD (2 * j) 0 = s1 at TH FC
            generalize sl'.getD (2 * j + 1) 0 = s2 at TH FC
            have e2j : wrap64 (2 * (j : Int)) = ((2 * j : Nat) : Int) := by unfold wrap64; omega
            have bj : (10 : Int) + (j : Int) = 10 + (j : Int) := rfl
            have e2k : wrap64 (((2 * j : Nat) : Int) + 1) = ((2 * j + 1 : Nat) : Int) := by unfold wrap64; omega
            obtain ⟨f1, f2, f3, f4, f5, f6, f7, f8, f9, f10, f11⟩ := FC.out _ (Kept.refl _ _)
            by_cases h1 : 10 + (j : Int) ≤ s1
            · have b1 : decide (s1 ≥ 10 + (j : Int)) = true := by simp; omega
              obtain ⟨ho, hl⟩ := TH.out.1 h1
              have hb : (h7.latched == 0) = false := by simp [hl]
              clear h1 hl bj
              go_quiet (fail)
              have KQ := hid ((Kept.refl [] w8).drewN nq)
              clear f1 f2 f3 f4 f5 f6 f7 f8 f9 f10 f11
              generalize w8.drewN nq = wq at KQ ⊢
              obtain ⟨f1, f2, f3, f4, f5, f6, f7, f8, f9, f10, f11⟩ := FC.out _ KQ.out
              by_cases h2 : 10 + (j : Int) ≤ s2
              · have b2 : decide (s2 ≥ 10 + (j : Int)) = true := by simp; omega
                obtain ⟨ho2, hl2⟩ := TH.out.2 h2
                have hb2 : (d7.latched == 0) = false := by simp [hl2]
                clear h2 hl2
                by_cases h6 : d7.state = 6
                · have b6 : (d7.state != 6) = false := by simp [h6]
                  clear h6
                  go_wp2_with fail
                  go_quiet (fail)
                  have k9 := ((Kept.refl [] wq).drewN nq)
                  go_wp2_with fail
                  exact ⟨⟨j + 1, by omega, by go_num, (K9.out.trans KQ.out).trans k9⟩, by simp [intOf]; omega⟩
                · have b6 : (d7.state != 6) = true := by simp [h6]
                  clear h6
                  go_wp2_with fail
                  go_quiet (fail)
                  have k9 := ((Kept.refl [] wq).drewN nq)
                  go_wp2_with fail
                  exact ⟨⟨j + 1, by omega, by go_num, (K9.out.trans KQ.out).trans k9⟩, by simp [intOf]; omega⟩
              · have b2 : decide (s2 ≥ 10 + (j : Int)) = false := by simp; omega
                clear h2
                go_wp2_with fail
                go_quiet (fail)
                have k9 := ((Kept.refl [] wq).drewN nq)
                go_wp2_with fail
                exact ⟨⟨j + 1, by omega, by go_num, (K9.out.trans KQ.out).trans k9⟩, by simp [intOf]; omega⟩
            · have b1 : decide (s1 ≥ 10 + (j : Int)) = false := by simp; omega
              clear h1 bj
              go_quiet (fail)
              have KQ := hid ((Kept.refl [] w8).drewN nq)
              clear f1 f2 f3 f4 f5 f6 f7 f8 f9 f10 f11
              generalize w8.drewN nq = wq at KQ ⊢
              obtain ⟨f1, f2, f3, f4, f5, f6, f7, f8, f9, f10, f11⟩ := FC.out _ KQ.out
              by_cases h2 : 10 + (j : Int) ≤ s2
              · have b2 : decide (s2 ≥ 10 + (j : Int)) = true := by simp; omega
                obtain ⟨ho2, hl2⟩ := TH.out.2 h2
                have hb2 : (d7.latched == 0) = false := by simp [hl2]
                clear h2 hl2
                by_cases h6 : d7.state = 6
                · have b6 : (d7.state != 6) = false := by simp [h6]
                  clear h6
                  go_wp2_with fail
                  go_quiet (fail)
                  have k9 := ((Kept.refl [] wq).drewN nq)
                  go_wp2_with fail
                  exact ⟨⟨j + 1, by omega, by go_num, (K9.out.trans KQ.out).trans k9⟩, by simp [intOf]; omega⟩
                · have b6 : (d7.state != 6) = true := by simp [h6]
                  clear h6
                  go_wp2_with fail
                  go_quiet (fail)
                  have k9 := ((Kept.refl [] wq).drewN nq)
                  go_wp2_with fail
                  exact ⟨⟨j + 1, by omega, by go_num, (K9.out.trans KQ.out).trans k9⟩, by simp [intOf]; omega⟩
              · have b2 : decide (s2 ≥ 10 + (j : Int)) = false := by simp; omega
                clear h2
                go_wp2_with fail
                go_quiet (fail)
                have k9 := ((Kept.refl [] wq).drewN nq)
                go_wp2_with fail
                exact ⟨⟨j + 1, by omega, by go_num, (K9.out.trans KQ.out).trans k9⟩, by simp [intOf]; omega⟩
          · go_wp2_with fail
            exact ⟨⟨k + 1, x', sl', by omega, by omega, by go_num, JC.out.trans KJ.out, LC'.out.nil KJ.out, MM.out, NX.out, KJ.out.has SC.out (by simp)⟩, by simp [intOf]; omega⟩
      · have ep' : x.play mv = x := by unfold Wd.play; rw [if_neg hf]
        have ef : (x.fault mv != 0) = true := by simp [hf]
        rw [ep'] at LZ
        clear ep' hf
        generalize x.fault mv = ft at *
        go_wp2_with fail
        go_roundw
        case rel => exact ⟨k + 1, x, sl, by omega, by omega, by go_num, QZ.out, LZ.out, by have := MC.out.1; omega, MC.out.2, SZ.out⟩
        case measure => simp [intOf]; omega
    · go_wp2_with fail
      all_goals go_ret
      all_goals exact ⟨rfl, KR.out.toBelow (by simp)⟩
end TopC
namespace TopC
open Go Go.RowKit Hp Sl TM WdC Fit
theorem TopWatch_law (xp : Option Addr) (len cap : Nat) (w : World) (hf : ∃ n, Fits Tryz.prog w n 22 [.slice xp len cap]) :
    Calls Tryz.prog 3 #[.slice xp len cap] w fun e w' => e = .returned (.bool true) ∧ Below w.heap.size w w' := by
  obtain ⟨_, hf⟩ := hf
  obtain ⟨hm, hp⟩ := mv_at hf
  exact TopWatch_walk xp len cap w hm hp
end TopC
end Go.Proofs.YtinaliblnihpbaaGreat
