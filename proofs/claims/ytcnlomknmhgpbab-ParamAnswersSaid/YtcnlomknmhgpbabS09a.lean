/- Layer 9: the law ParamOwn. -/
import Derived.Test.YtcnlomknmhgpbabApF
import Derived.Test.YtcnlomknmhgpbabBrM
import Derived.Test.YtcnlomknmhgpbabCellsP
import Derived.Deep.QuietTactic
import Derived.Deep.Cut
namespace Go.Proofs.Ytcnlomknmhgpbab.S09
open Go Go.RowKit Go.Proofs.Ytcnlomknmhgpbab.Hp Go.Proofs.Ytcnlomknmhgpbab.Sl Go.Proofs.Ytcnlomknmhgpbab.Ap Go.Proofs.Ytcnlomknmhgpbab.Br Go.Proofs.Ytcnlomknmhgpbab.BrM Go.Proofs.Ytcnlomknmhgpbab.Fit Go.Proofs.Ytcnlomknmhgpbab.Cells
open Go.Proofs.Ytcnlomknmhgpbab.Pure (w4_len)
set_option linter.unusedVariables false
set_option linter.unusedSimpArgs false
set_option maxRecDepth 100000 in
set_option maxHeartbeats 6400000 in
theorem ParamOwn_walk (a b c d e : Int) (s : Value) (l : List Int) (w : World) (hb : Bytes w s l) (hby : Gf.By l) (ha : 0 ≤ a) (he : 0 ≤ e) :
    Calls Try.prog 6 #[.agg #[.int .u32 a, .int .i64 b, .int .i64 c, .int .i64 d, .int .u32 e], s] w fun e w' => e = .returned (.bool true) ∧ Below w.heap.size w w' := by
  obtain ⟨enc, sign, err, sig, m, hP⟩ := param_all a b c d e ha he
  have PP := Lib.hid hP
  clear hP ha he
  have hH := Has.new w 24 [.int .u32 a, .int .i64 b, .int .i64 c, .int .i64 d, .int .u32 e]
  have hk := (Kept.refl [] w).alloc (.cells #[.int .u32 a, .int .i64 b, .int .i64 c, .int .i64 d, .int .u32 e] 24)
  obtain ⟨sp, sc, rfl⟩ : ∃ p c, s = .slice p l.length c := by rcases hb with ⟨rfl, rfl⟩ | ⟨x, cap, rfl, _⟩ <;> exact ⟨_, _, rfl⟩
  have SB := Lib.hid hb
  have BY := Lib.hid hby
  clear hb hby
  go_enter Try.func6, Try.ntmps6
  go_upto_region 1 with (fail)
  have hH : Has (w.alloc (.cells #[.int .u32 a, .int .i64 b, .int .i64 c, .int .i64 d, .int .u32 e] 24)) w.heap.size 24 [.int .u32 a, .int .i64 b, .int .i64 c, .int .i64 d, .int .u32 e] := hH
  generalize w.alloc (.cells #[.int .u32 a, .int .i64 b, .int .i64 c, .int .i64 d, .int .u32 e] 24) = w0 at *
  generalize hBz : w.heap.size = B at *
  have HK := Lib.hid hk
  have HH := Lib.hid hH
  clear hk hH
  go_wp2_with fail
  refine (awake_call _).mono ?_
  rintro x w1 ⟨rfl, k1⟩
  have H1 := Lib.hid (k1.has HH.out (by simp))
  have K1 := Lib.hid (HK.out.trans k1)
  clear HH k1 HK
  by_cases hlen : 1000 < l.length
  · have e2 : decide ((l.length : Int) > 1000) = true := by simp; omega
    clear hlen
    go_wp2_with fail
    go_ret
    exact ⟨rfl, hBz ▸ K1.out.toBelow (by simp)⟩
  have e2 : decide ((l.length : Int) > 1000) = false := by simp; omega
  have H8 := Lib.hid (show l.length ≤ 1000 by omega)
  clear hlen
  go_wp2_with fail
  refine (spare_call _ l _ (SB.out.kept K1.out (by simp)) (by have := H8.out; omega)).mono ?_
  rintro x w2 ⟨gI, rfl, k2, hgI, hW⟩
  have K2 := Lib.hid (K1.out.trans k2)
  have W2 := Lib.hid hW
  have H2 := Lib.hid (k2.has H1.out (by simp))
  have Z2 := Lib.hid (show B ≤ gI ∧ gI < w2.heap.size from ⟨by have := K1.out.size; omega, hW.lt⟩)
  clear k2 hgI hW H1 K1
  have c0 := H2.out.cell 0 (v := .int .u32 a) rfl
  have c1 := H2.out.cell 1 (v := .int .i64 b) rfl
  have c2 := H2.out.cell 2 (v := .int .i64 c) rfl
  have c3 := H2.out.cell 3 (v := .int .i64 d) rfl
  have c4 := H2.out.cell 4 (v := .int .u32 e) rfl
  go_wp2_with fail
  refine (PP.out.encode _).mono ?_
  rintro x w3 ⟨va, rfl, k3, m3⟩
  have K3 := Lib.hid (K2.out.trans k3)
  have W3 := Lib.hid (k3.has W2.out (by simp))
  have H3 := Lib.hid (k3.has H2.out (by simp))
  have A3 := Lib.hid (ok_of_made m3 (by have := PP.out.short; omega))
  have Z3 := Lib.hid k3.size
  clear c0 c1 c2 c3 c4 k3 m3 K2 W2 H2
  have c0 := H3.out.cell 0 (v := .int .u32 a) rfl
  have c1 := H3.out.cell 1 (v := .int .i64 b) rfl
  have c2 := H3.out.cell 2 (v := .int .i64 c) rfl
  have c3 := H3.out.cell 3 (v := .int .i64 d) rfl
  have c4 := H3.out.cell 4 (v := .int .u32 e) rfl
  go_wp2_with fail
  refine (PP.out.encode _).mono ?_
  rintro x w4 ⟨vb, rfl, k4, m4⟩
  have K4 := Lib.hid (K3.out.trans k4)
  have W4 := Lib.hid (k4.has W3.out (by simp))
  have H4 := Lib.hid (k4.has H3.out (by simp))
  have A4 := Lib.hid (A3.out.kept k4)
  have B4 := Lib.hid (ok_of_made m4 (by have := PP.out.short; omega))
  have Z4 := Lib.hid k4.size
  have I4 := Lib.hid (own_whole W4.out (by have := H8.out; omega)).bytes
  clear c0 c1 c2 c3 c4 k4 m4 K3 W3 H3 A3
  go_wp2_with fail
  refine (decode_call _ l _ I4.out).mono ?_
  rintro x w5 ⟨⟨vd, rfl⟩, k5⟩
  have K5 := Lib.hid (K4.out.trans k5)
  have W5 := Lib.hid (k5.has W4.out (by simp))
  have H5 := Lib.hid (k5.has H4.out (by simp))
  have A5 := Lib.hid (A4.out.kept k5)
  have B5 := Lib.hid (B4.out.kept k5)
  have I5 := Lib.hid (own_whole W5.out (by have := H8.out; omega)).bytes
  have Z5 := Lib.hid k5.size
  clear k5 K4 W4 H4 A4 B4 I4
  have c0 := H5.out.cell 0 (v := .int .u32 a) rfl
  have c1 := H5.out.cell 1 (v := .int .i64 b) rfl
  have c2 := H5.out.cell 2 (v := .int .i64 c) rfl
  have c3 := H5.out.cell 3 (v := .int .i64 d) rfl
  have c4 := H5.out.cell 4 (v := .int .u32 e) rfl
  go_wp2_with fail
  refine (PP.out.match_ _ _ l I5.out BY.out).mono ?_
  rintro x w6 ⟨rfl, k6⟩
  have K6 := Lib.hid (K5.out.trans k6)
  have W6 := Lib.hid (k6.has W5.out (by simp))
  have A6 := Lib.hid (A5.out.kept k6)
  have B6 := Lib.hid (B5.out.kept k6)
  have Z6 := Lib.hid k6.size
  have KC := Lib.hid (kept_call gI _ l w6 (SB.out.kept K6.out (by simp)) W6.out (by have := H8.out; omega))
  clear c0 c1 c2 c3 c4 k6 K5 W5 H5 A5 B5 I5
  go_wp2_with fail
  refine KC.out.mono ?_
  rintro x w7 ⟨rfl, k7⟩
  have K7 := Lib.hid (K6.out.trans k7)
  have W7 := Lib.hid (k7.has W6.out (by simp))
  have A7 := Lib.hid (A6.out.kept k7)
  have B7 := Lib.hid (B6.out.kept k7)
  have Z7 := Lib.hid k7.size
  clear k7 KC K6 W6 A6 B6
  go_wp2_with fail
  refine (bytes_call 5 _).mono ?_
  rintro x w8 ⟨vx, rfl, k8, m8⟩
  have K8 := Lib.hid (K7.out.trans k8)
  have W8 := Lib.hid (k8.has W7.out (by simp))
  have A8 := Lib.hid (A7.out.kept k8)
  have B8 := Lib.hid (B7.out.kept k8)
  have X8 := Lib.hid (ok_of_made m8 (by rw [w4_len]; omega))
  have Z8 := Lib.hid k8.size
  clear k8 m8 K7 W7 A7 B7
  go_wp2_with fail
  refine (bytes_call 5 _).mono ?_
  rintro x w9 ⟨vy, rfl, k9, m9⟩
  have K9 := Lib.hid (K8.out.trans k9)
  have W9 := Lib.hid (k9.has W8.out (by simp))
  have A9 := Lib.hid (A8.out.kept k9)
  have B9 := Lib.hid (B8.out.kept k9)
  have X9 := Lib.hid (X8.out.kept k9)
  have Y9 := Lib.hid (ok_of_made m9 (by rw [w4_len]; omega))
  have Z9 := Lib.hid k9.size
  clear k9 m9 K8 W8 A8 B8 X8
  obtain ⟨pa, qa, ea, _⟩ := Row.shape2 A9.out.row
  obtain ⟨pb, qb, eb, _⟩ := Row.shape2 B9.out.row
  obtain ⟨px, qx, ex, _⟩ := Row.shape2 X9.out.row
  obtain ⟨py, qy, ey, _⟩ := Row.shape2 Y9.out.row
  simp only at ea eb ex ey
  subst ea eb ex ey
  have kk := (Kept.refl [] w9).alloc (.cells #[.slice pa enc.length qa, .slice pb enc.length qb, .slice (some ⟨gI, 0, none⟩) l.length (l.length + 9), .slice px (Pure.w4 5).length qx, .slice py (Pure.w4 5).length qy] 25)
  have hok : ∀ p, p ∈ [(⟨.slice pa enc.length qa, enc, w2.heap.size, w3.heap.size⟩ : LItem), ⟨.slice pb enc.length qb, enc, w3.heap.size, w4.heap.size⟩, ⟨.slice (some ⟨gI, 0, none⟩) l.length (l.length + 9), l, gI, gI + 1⟩, ⟨.slice px (Pure.w4 5).length qx, Pure.w4 5, w7.heap.size, w8.heap.size⟩, ⟨.slice py (Pure.w4 5).length qy, Pure.w4 5, w8.heap.size, w9.heap.size⟩] → p.ok (w9.alloc (.cells #[.slice pa enc.length qa, .slice pb enc.length qb, .slice (some ⟨gI, 0, none⟩) l.length (l.length + 9), .slice px (Pure.w4 5).length qx, .slice py (Pure.w4 5).length qy] 25)) := by
    intro p hp
    simp only [List.mem_cons, List.not_mem_nil, or_false] at hp
    rcases hp with rfl | rfl | rfl | rfl | rfl
    · exact A9.out.kept kk
    · exact B9.out.kept kk
    · exact ok_of_spare (kk.has W9.out (by simp)) (by have := H8.out; omega)
    · exact X9.out.kept kk
    · exact Y9.out.kept kk
  have zz := And.intro Z2.out (And.intro Z3.out (And.intro Z4.out (And.intro Z5.out (And.intro Z6.out (And.intro Z7.out (And.intro Z8.out Z9.out))))))
  have AP := Lib.hid (apart_items _ w9.heap.size _ (by simp) (Has.new w9 25 [.slice pa enc.length qa, .slice pb enc.length qb, .slice (some ⟨gI, 0, none⟩) l.length (l.length + 9), .slice px (Pure.w4 5).length qx, .slice py (Pure.w4 5).length qy]) hok (by simp; omega))
  have LO := Lib.hid (fun x hx => LItem.ok.low hok (B := B) (by have := Z2.out; simp; omega) (x := x) hx)
  have Kd := Lib.hid (K9.out.trans kk)
  clear hok kk zz A9 B9 X9 Y9 W9 K9
  go_wp2_with fail
  refine AP.out.mono ?_
  rintro x we ⟨rfl, ke⟩
  have Ke := Lib.hid (Kd.out.fresh ke (fun x hx hl => absurd hl (by have := LO.out x hx; omega)))
  clear AP ke Kd
  go_wp2_with fail
  go_ret
  exact ⟨rfl, hBz ▸ Ke.out.toBelow (by simp)⟩
theorem by_of {l : List Int} (hw : ∀ i, i < l.length → (Lit.int .u8 (l.getD i 0)).wf = true) : Gf.By l := by
  intro z hz
  obtain ⟨i, hi, rfl⟩ := List.getElem_of_mem hz
  have := hw i hi
  rw [List.getD_eq_getElem?_getD, List.getElem?_eq_getElem hi, Option.getD_some] at this
  simp [Lit.wf, IntKind.min, IntKind.max, IntKind.signed, IntKind.bits] at this
  omega
theorem u32_lo {x : Int} (h : (Lit.int .u32 x).wf = true) : 0 ≤ x := by
  simp [Lit.wf, IntKind.min, IntKind.max, IntKind.signed, IntKind.bits] at h
  omega
theorem ParamOwn_law (cs : Array Value) (x : Option Addr) (len cap : Nat) (w : World) (hz : cs.size = 5) (h : ∃ n, Fits Try.prog w n 24 (Value.agg cs).cells.toList) (hg : ∃ n, Fits Try.prog w n 25 [.slice x len cap]) :
    Calls Try.prog 6 #[.agg cs, .slice x len cap] w fun e w' => e = .returned (.bool true) ∧ Below w.heap.size w w' := by
  obtain ⟨n, h⟩ := h
  obtain ⟨n2, hg⟩ := hg
  obtain ⟨a, b, c, d, e, eq, wa, _, _, _, we⟩ := param_cells h
  obtain ⟨cl⟩ := cs
  obtain rfl : cl = _ := eq
  obtain ⟨l, rfl, hb, hl, hw⟩ := bytes_of_fits hg
  exact ParamOwn_walk a b c d e _ l w hb (by_of hw) (u32_lo wa) (u32_lo we)
end Go.Proofs.Ytcnlomknmhgpbab.S09
