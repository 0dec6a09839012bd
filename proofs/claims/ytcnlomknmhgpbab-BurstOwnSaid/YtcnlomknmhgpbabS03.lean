/- Layer 3: the law BurstOwn. -/
import Derived.Test.YtcnlomknmhgpbabApF
import Derived.Test.YtcnlomknmhgpbabBrW
import Derived.Test.YtcnlomknmhgpbabFit
import Derived.Deep.QuietTactic
namespace Go.Proofs.Ytcnlomknmhgpbab.S03
open Go Go.RowKit Go.Proofs.Ytcnlomknmhgpbab.Hp Go.Proofs.Ytcnlomknmhgpbab.Sl Go.Proofs.Ytcnlomknmhgpbab.Ap Go.Proofs.Ytcnlomknmhgpbab.Br Go.Proofs.Ytcnlomknmhgpbab.BrW Go.Proofs.Ytcnlomknmhgpbab.Fit
set_option linter.unusedVariables false
set_option linter.unusedSimpArgs false
set_option maxRecDepth 100000 in
set_option maxHeartbeats 3200000 in
theorem BurstOwn_skip (s : Value) (l : List Int) (at' x : Int) (w : World) (hb : Bytes w s l) (h : 4000 < l.length) :
    Calls Try.prog 11 #[s, .int .i64 at', .int .u32 x] w fun e w' => e = .returned (.bool true) ∧ Below w.heap.size w w' := by
  obtain ⟨sp, sc, rfl⟩ : ∃ p c, s = .slice p l.length c := by rcases hb with ⟨rfl, rfl⟩ | ⟨x, cap, rfl, _⟩ <;> exact ⟨_, _, rfl⟩
  have e2 : decide ((l.length : Int) > 4000) = true := by simp; omega
  clear h hb
  go_enter Try.func11, Try.ntmps11
  go_wp2_with fail
  refine (awake_call _).mono ?_
  rintro e w0 ⟨rfl, k0⟩
  go_wp2_with fail
  go_ret
  exact ⟨rfl, k0.toBelow (by simp)⟩
set_option maxRecDepth 100000 in
set_option maxHeartbeats 3200000 in
theorem BurstOwn_walk (s : Value) (l : List Int) (at' : Int) (x : Nat) (hx : x < 2 ^ 32) (w : World) (hb : Bytes w s l) (hby : Gf.By l) (h8 : l.length ≤ 4000) :
    Calls Try.prog 11 #[s, .int .i64 at', .int .u32 (x : Int)] w fun e w' => e = .returned (.bool true) ∧ Below w.heap.size w w' := by
  obtain ⟨sp, sc, rfl⟩ : ∃ p c, s = .slice p l.length c := by rcases hb with ⟨rfl, rfl⟩ | ⟨x, cap, rfl, _⟩ <;> exact ⟨_, _, rfl⟩
  have e2 : decide ((l.length : Int) > 4000) = false := by simp; omega
  have SB := Lib.hid hb
  have BY := Lib.hid hby
  have H8 := Lib.hid h8
  clear hb h8 hby
  go_enter Try.func11, Try.ntmps11
  go_wp2_with fail
  refine (awake_call _).mono ?_
  rintro e w0 ⟨rfl, k0⟩
  have K0 := Lib.hid k0
  clear k0
  go_wp2_with fail
  refine (spare_call _ l _ (SB.out.kept K0.out (by simp)) (by have := H8.out; omega)).mono ?_
  rintro e w1 ⟨gI, rfl, k1, hgI, hW⟩
  have K1 := Lib.hid (K0.out.trans k1)
  have W1 := Lib.hid hW
  have Z1 := Lib.hid (show w.heap.size ≤ gI ∧ gI < w1.heap.size from ⟨Nat.le_trans K0.out.size hgI, hW.lt⟩)
  clear k1 hgI hW
  go_wp2_with fail
  refine (make_call (l.length : Int) at' x hx (by have := H8.out; omega) _).mono ?_
  rintro e w2 ⟨ve, ce, le, rfl, k2, m2, hl2⟩
  have K2 := Lib.hid (K1.out.trans k2)
  have W2 := Lib.hid (k2.has W1.out (by simp))
  have A2 := Lib.hid (ok_of_made m2 (by omega))
  have Z2 := Lib.hid k2.size
  clear k2 m2 hl2 W1 K1
  go_wp2_with fail
  refine (make_call (l.length : Int) at' x hx (by have := H8.out; omega) _).mono ?_
  rintro e w3 ⟨vf, cf, lf, rfl, k3, m3, hl3⟩
  have K3 := Lib.hid (K2.out.trans k3)
  have W3 := Lib.hid (k3.has W2.out (by simp))
  have A3 := Lib.hid (A2.out.kept k3)
  have B3 := Lib.hid (ok_of_made m3 (by omega))
  have I3 := Lib.hid (own_whole W3.out (by have := H8.out; omega)).bytes
  have Z3 := Lib.hid k3.size
  clear k3 m3 hl3 W2 K2 A2
  go_wp2_with fail
  refine (turn_call _ _ l l _ I3.out I3.out rfl (by have := H8.out; omega)).mono ?_
  rintro e w4 ⟨vx, rfl, k4, m4⟩
  have K4 := Lib.hid (K3.out.trans k4)
  have W4 := Lib.hid (k4.has W3.out (by simp))
  have A4 := Lib.hid (A3.out.kept k4)
  have B4 := Lib.hid (B3.out.kept k4)
  have C4 := Lib.hid (ok_of_made m4 (by rw [Pure.xl_length _ _ rfl]; have := H8.out; omega))
  have I4 := Lib.hid (own_whole W4.out (by have := H8.out; omega)).bytes
  have Z4 := Lib.hid k4.size
  clear k4 m4 W3 K3 A3 B3 I3
  go_wp2_with fail
  refine (turn_call _ _ l l _ I4.out I4.out rfl (by have := H8.out; omega)).mono ?_
  rintro e w5 ⟨vy, rfl, k5, m5⟩
  have K5 := Lib.hid (K4.out.trans k5)
  have W5 := Lib.hid (k5.has W4.out (by simp))
  have A5 := Lib.hid (A4.out.kept k5)
  have B5 := Lib.hid (B4.out.kept k5)
  have C5 := Lib.hid (C4.out.kept k5)
  have D5 := Lib.hid (ok_of_made m5 (by rw [Pure.xl_length _ _ rfl]; have := H8.out; omega))
  have I5 := Lib.hid (own_whole W5.out (by have := H8.out; omega)).bytes
  have Z5 := Lib.hid k5.size
  clear k5 m5 W4 K4 A4 B4 C4 I4
  go_wp2_with fail
  refine (parts_call _ l _ I5.out BY.out (by have := H8.out; omega)).mono ?_
  rintro e w6 ⟨vp, rfl, k6⟩
  have K6 := Lib.hid (K5.out.trans k6)
  have W6 := Lib.hid (k6.has W5.out (by simp))
  have A6 := Lib.hid (A5.out.kept k6)
  have B6 := Lib.hid (B5.out.kept k6)
  have C6 := Lib.hid (C5.out.kept k6)
  have D6 := Lib.hid (D5.out.kept k6)
  have KC := Lib.hid (kept_call gI _ l w6 (SB.out.kept K6.out (by simp)) W6.out (by have := H8.out; omega))
  clear k6 W5 K5 A5 B5 C5 D5 I5
  go_wp2_with fail
  refine KC.out.mono ?_
  rintro e w7 ⟨rfl, k7⟩
  obtain ⟨pe, qe, ee⟩ := (Row.shape2 A6.out.row)
  obtain ⟨pf, qf, ef⟩ := (Row.shape2 B6.out.row)
  obtain ⟨px, qx, ex⟩ := (Row.shape2 C6.out.row)
  obtain ⟨py, qy, ey⟩ := (Row.shape2 D6.out.row)
  simp only at ee ef ex ey
  obtain ⟨rfl, _⟩ := ee
  obtain ⟨rfl, _⟩ := ef
  obtain ⟨rfl, _⟩ := ex
  obtain ⟨rfl, _⟩ := ey
  have A7 := Lib.hid (A6.out.kept k7)
  have B7 := Lib.hid (B6.out.kept k7)
  have C7 := Lib.hid (C6.out.kept k7)
  have D7 := Lib.hid (D6.out.kept k7)
  have W7 := Lib.hid (k7.has W6.out (by simp))
  have K7 := Lib.hid (K6.out.trans k7)
  clear k7 KC W6 K6 A6 B6 C6 D6
  have kk := (Kept.refl [] w7).alloc (.cells #[.slice pe le.length qe, .slice pf lf.length qf, .slice px (Pure.xl l l).length qx, .slice py (Pure.xl l l).length qy, .slice (some ⟨gI, 0, none⟩) l.length (l.length + 9)] 25)
  have hok : ∀ p, p ∈ [(⟨.slice pe le.length qe, le, w1.heap.size, w2.heap.size⟩ : LItem), ⟨.slice pf lf.length qf, lf, w2.heap.size, w3.heap.size⟩, ⟨.slice px (Pure.xl l l).length qx, Pure.xl l l, w3.heap.size, w4.heap.size⟩, ⟨.slice py (Pure.xl l l).length qy, Pure.xl l l, w4.heap.size, w5.heap.size⟩, ⟨.slice (some ⟨gI, 0, none⟩) l.length (l.length + 9), l, gI, gI + 1⟩] → p.ok (w7.alloc (.cells #[.slice pe le.length qe, .slice pf lf.length qf, .slice px (Pure.xl l l).length qx, .slice py (Pure.xl l l).length qy, .slice (some ⟨gI, 0, none⟩) l.length (l.length + 9)] 25)) := by
    intro p hp
    simp only [List.mem_cons, List.not_mem_nil, or_false] at hp
    rcases hp with rfl | rfl | rfl | rfl | rfl
    · exact A7.out.kept kk
    · exact B7.out.kept kk
    · exact C7.out.kept kk
    · exact D7.out.kept kk
    · exact ok_of_spare (kk.has W7.out (by simp)) (by have := H8.out; omega)
  have zz : gI < w1.heap.size ∧ w1.heap.size ≤ w2.heap.size ∧ w2.heap.size ≤ w3.heap.size ∧ w3.heap.size ≤ w4.heap.size ∧ w4.heap.size ≤ w5.heap.size := ⟨Z1.out.2, Z2.out, Z3.out, Z4.out, Z5.out⟩
  have AP := Lib.hid (apart_items _ w7.heap.size _ (by simp) (Has.new w7 25 [.slice pe le.length qe, .slice pf lf.length qf, .slice px (Pure.xl l l).length qx, .slice py (Pure.xl l l).length qy, .slice (some ⟨gI, 0, none⟩) l.length (l.length + 9)]) hok (by simp; omega))
  have LO := Lib.hid (fun x hx => LItem.ok.low hok (B := w.heap.size) (by have := Z1.out; simp; omega) (x := x) hx)
  have K8 := Lib.hid (K7.out.trans kk)
  clear hok kk zz A7 B7 C7 D7 W7 K7
  go_wp2_with fail
  refine AP.out.mono ?_
  rintro e w9 ⟨rfl, k9⟩
  have K9 := Lib.hid (K8.out.fresh k9 (fun x hx hl => absurd hl (by have := LO.out x hx; omega)))
  clear AP k9 K8
  go_wp2_with fail
  go_ret
  exact ⟨rfl, K9.out.toBelow (by simp)⟩
theorem BurstOwn_law (a : Option Addr) (len cap : Nat) (at' x : Int) (w : World) (hg : ∃ n, Fits Try.prog w n 25 [.slice a len cap]) (_ : (Lit.int .i64 at').wf = true) (hx : (Lit.int .u32 x).wf = true) :
    Calls Try.prog 11 #[.slice a len cap, .int .i64 at', .int .u32 x] w fun e w' => e = .returned (.bool true) ∧ Below w.heap.size w w' := by
  obtain ⟨n, hg⟩ := hg
  obtain ⟨l, rfl, hb, hl, hw⟩ := bytes_of_fits hg
  obtain ⟨c, rfl, hc⟩ := Go.Proofs.Ytcnlomknmhgpbab.Bt.u32_of_wf hx
  by_cases h : l.length ≤ 4000
  · refine BurstOwn_walk _ l at' c hc w hb (fun z hz => ?_) h
    obtain ⟨i, hi, rfl⟩ := List.getElem_of_mem hz
    have := hw i hi
    rw [List.getD_eq_getElem?_getD, List.getElem?_eq_getElem hi, Option.getD_some] at this
    simp [Lit.wf, IntKind.min, IntKind.max, IntKind.signed, IntKind.bits] at this
    omega
  · exact BurstOwn_skip _ l at' c w hb (by omega)
end Go.Proofs.Ytcnlomknmhgpbab.S03
